/- Plain law: DamBest (last part). Conditions: none. -/
import Derived.Test.YtacgibkgojnfeaaGreatAmD7
import Derived.Test.YtacgibkgojnfeaaGreatAmLf
namespace Go.Proofs.YtacgibkgojnfeaaGreat.AM
section
set_option linter.unusedSimpArgs false
set_option linter.unusedVariables false
open Go Go.RowKit

/-! ### Digits -/
def dv : List Int → Int
  | [] => 0
  | d :: t => d + 1000000000 * dv t
def dig (l : List Int) : Prop := ∀ d, d ∈ l → 0 ≤ d ∧ d < 1000000000
theorem dig_nil : dig [] := fun d h => by cases h
theorem dig_cons {d : Int} {t : List Int} (h : dig (d :: t)) : (0 ≤ d ∧ d < 1000000000) ∧ dig t := ⟨h d List.mem_cons_self, fun x hx => h x (List.mem_cons_of_mem _ hx)⟩
theorem dig_app {a b : List Int} (h : dig a) (k : dig b) : dig (a ++ b) := fun d hd => by
  rcases List.mem_append.1 hd with hd | hd
  · exact h d hd
  · exact k d hd
theorem dig_one {d : Int} (h : 0 ≤ d ∧ d < 1000000000) : dig [d] := fun x hx => by
  simp at hx; subst hx; exact h
theorem dig_take {l : List Int} {n : Nat} (h : dig l) : dig (l.take n) := fun d hd => h d (List.mem_of_mem_take hd)
theorem dig_get {l : List Int} {i : Nat} (h : dig l) (hi : i < l.length) : 0 ≤ l[i] ∧ l[i] < 1000000000 := h _ (List.getElem_mem hi)
theorem dig_set {l : List Int} {i : Nat} {x : Int} (h : dig l) (hx : 0 ≤ x ∧ x < 1000000000) : dig (l.set i x) := fun d hd => by
  rcases List.mem_or_eq_of_mem_set hd with hd | rfl
  · exact h d hd
  · exact hx
theorem dv_nn : ∀ {l : List Int}, dig l → 0 ≤ dv l
  | [], _ => Int.le_refl _
  | d :: t, h => by
    have ⟨h1, h2⟩ := dig_cons h
    have := dv_nn h2
    simp only [dv]; omega
theorem pw_pos (n : Nat) : (0 : Int) < 1000000000 ^ n := Int.pow_pos (by omega)
theorem pw_s (n : Nat) : (1000000000 : Int) ^ (n + 1) = 1000000000 * 1000000000 ^ n := by rw [Int.pow_succ, Int.mul_comm]
theorem pw_mono {m n : Nat} (h : m ≤ n) : (1000000000 : Int) ^ m ≤ 1000000000 ^ n := by
  obtain ⟨k, rfl⟩ : ∃ k, n = m + k := ⟨n - m, by omega⟩
  rw [Int.pow_add]
  have h1 := pw_pos m
  have h2 := Int.mul_le_mul_of_nonneg_left (show (1 : Int) ≤ 1000000000 ^ k by have := pw_pos k; omega) (Int.le_of_lt h1)
  omega
theorem dv_lt : ∀ {l : List Int}, dig l → dv l < 1000000000 ^ l.length
  | [], _ => by simp [dv]
  | d :: t, h => by
    have ⟨h1, h2⟩ := dig_cons h
    have := dv_lt h2
    rw [List.length_cons, pw_s]
    simp only [dv]; omega
theorem dv_app : ∀ {a b : List Int}, dv (a ++ b) = dv a + 1000000000 ^ a.length * dv b
  | [], b => by simp [dv]
  | d :: t, b => by
    rw [List.cons_append, List.length_cons, pw_s]
    simp only [dv]
    rw [dv_app]; grind
theorem dv_set : ∀ {l : List Int} {j : Nat} {x : Int} (hj : j < l.length), dv (l.set j x) = dv l + 1000000000 ^ j * (x - l[j])
  | [], j, x, hj => by simp at hj
  | d :: t, 0, x, hj => by simp [dv]; omega
  | d :: t, j + 1, x, hj => by
    simp only [List.set_cons_succ, dv, List.getElem_cons_succ]
    rw [dv_set (by simpa using hj), pw_s]; grind
theorem dv_zero : ∀ {l : List Int}, (∀ j, j < l.length → l.getD j 0 = 0) → dv l = 0
  | [], _ => rfl
  | d :: t, h => by
    have h0 := h 0 (by simp)
    simp at h0
    simp only [dv]
    rw [dv_zero (l := t) fun j hj => by simpa using h (j + 1) (by simpa using hj), h0]; rfl
theorem dv_take {l : List Int} {k : Nat} (hk : k < l.length) : dv (l.take (k + 1)) = dv (l.take k) + 1000000000 ^ k * l[k] := by
  rw [List.take_succ_eq_append_getElem hk, dv_app, List.length_take, Nat.min_eq_left (by omega)]
  simp [dv]
theorem dv_rep (n : Nat) : dv (List.replicate n 0) = 0 := dv_zero fun j hj => by
  rw [List.length_replicate] at hj
  simp [hj]
theorem dig_rep (n : Nat) : dig (List.replicate n 0) := fun d hd => by
  have := (List.mem_replicate.1 hd).2
  omega
/-- The last digit is not 0. -/
def trm (l : List Int) : Prop := l = [] ∨ l.getD (l.length - 1) 0 ≠ 0
theorem dv_pos {l : List Int} (h : dig l) (ht : trm l) (hn : l ≠ []) : 1000000000 ^ (l.length - 1) ≤ dv l := by
  have ht := ht.resolve_left hn
  have hl : 0 < l.length := List.length_pos_iff.2 hn
  have e : l = l.take (l.length - 1) ++ [l[l.length - 1]'(by omega)] := by
    rw [← List.take_succ_eq_append_getElem, List.take_of_length_le (by omega)]
  have hd := dig_get h (i := l.length - 1) (by omega)
  simp [show l.length - 1 < l.length by omega] at ht
  have h1 := dv_nn (dig_take (n := l.length - 1) h)
  have h2 : dv l = dv (l.take (l.length - 1)) + 1000000000 ^ (l.length - 1) * l[l.length - 1] := by
    have := congrArg dv e
    rw [dv_app, List.length_take, Nat.min_eq_left (by omega)] at this
    simpa [dv] using this
  have h3 := Int.mul_le_mul_of_nonneg_left (show (1 : Int) ≤ l[l.length - 1] by omega) (Int.le_of_lt (pw_pos (l.length - 1)))
  omega

/-! ### Trimmed -/
theorem f295_e {l : List Int} (hl : l.length ≤ 1000000) : ∃ r, f295 l = some r ∧ (∃ n, n ≤ l.length ∧ r = l.take n ∧ (∀ j, n ≤ j → j < l.length → l.getD j 0 = 0) ∧ (n = 0 ∨ l.getD (n - 1) 0 ≠ 0)) := by
  unfold f295
  refine obnd_ex (R := fun e => ∃ n : Nat, e = (n : Int) ∧ n ≤ l.length ∧ (∀ j, n ≤ j → j < l.length → l.getD j 0 = 0) ∧ (n = 0 ∨ l.getD (n - 1) 0 ≠ 0)) (oloop_ex (fun i e => e = ((l.length - i : Nat) : Int) ∧ ∀ j, l.length - i ≤ j → j < l.length → l.getD j 0 = 0) l.length ⟨by simp, fun j h1 h2 => by omega⟩ ?_ ?_) ?_
  · rintro i _ hi ⟨rfl, hz⟩
    have h1 : l.length - (i + 1) < l.length := by omega
    have e1 : IntKind.i64.wrap (((l.length - i : Nat) : Int) - 1) = ((l.length - (i + 1) : Nat) : Int) := by rw [wr (by omega) (by omega)]; omega
    simp only [ilt_t (show (0 : Int) < ((l.length - i : Nat) : Int) by omega), oite_t, e1, ile_t (show (0 : Int) ≤ ((l.length - (i + 1) : Nat) : Int) by omega), ogrd_t, Int.toNat_natCast, get_i h1, obnd_s, ieq_eq]
    by_cases h0 : l[l.length - (i + 1)] = 0
    · rw [decide_eq_true h0, oite_t]
      refine .inl ⟨_, rfl, rfl, fun j h2 h3 => ?_⟩
      by_cases hj : j = l.length - (i + 1)
      · subst hj; simp [h1, h0]
      · exact hz j (by omega) h3
    · rw [decide_eq_false h0, oite_f]
      refine .inr ⟨_, rfl, l.length - i, rfl, by omega, hz, .inr ?_⟩
      rw [show l.length - i - 1 = l.length - (i + 1) by omega]
      simp [h1, h0]
  · rintro _ ⟨rfl, hz⟩
    rw [Nat.sub_self] at hz ⊢
    simp only [ilt_f (show ((0 : Nat) : Int) ≤ 0 by omega), oite_f]
    exact ⟨_, rfl, 0, rfl, by omega, hz, .inl rfl⟩
  · rintro e ⟨n, rfl, hn, hz, h0⟩
    have : oslH l (n : Int) = some (l.take n) := by
      unfold oslH
      rw [if_pos ⟨by omega, by omega⟩]; rfl
    rw [this]
    exact ⟨_, rfl, n, hn, rfl, hz, h0⟩
/-- A number: sign, digits, value. -/
structure WD (s : Int) (l : List Int) (v : Int) : Prop where
  dg : dig l
  tr : trm l
  vl : v = s * dv l
  sg : s = 0 ∧ l = [] ∨ (s = 1 ∨ s = -1) ∧ l ≠ []
theorem WD.pos {s v : Int} {l : List Int} (h : WD s l v) : s = 0 ∧ v = 0 ∨ s = 1 ∧ 0 < v ∨ s = -1 ∧ v < 0 := by
  rcases h.sg with ⟨rfl, rfl⟩ | ⟨h1, h2⟩
  · exact .inl ⟨rfl, by rw [h.vl]; simp⟩
  · have h3 := dv_pos h.dg h.tr h2
    have h4 := pw_pos (l.length - 1)
    have := h.vl
    rcases h1 with rfl | rfl
    · exact .inr (.inl ⟨rfl, by omega⟩)
    · exact .inr (.inr ⟨rfl, by omega⟩)
theorem WD.len {s v : Int} {l : List Int} {n : Nat} (h : WD s l v) (h1 : -(1000000000 ^ n) < v) (h2 : v < 1000000000 ^ n) : l.length ≤ n := by
  rcases h.sg with ⟨rfl, rfl⟩ | ⟨h3, h4⟩
  · simp
  · have h5 := dv_pos h.dg h.tr h4
    have hl : 0 < l.length := List.length_pos_iff.2 h4
    rcases Nat.lt_or_ge n l.length with hn | hn
    · have h6 : (1000000000 : Int) ^ n ≤ 1000000000 ^ (l.length - 1) := pw_mono (by omega)
      have := h.vl
      rcases h3 with rfl | rfl <;> omega
    · exact hn
theorem f285_e {s : Int} {l : List Int} (hl : l.length ≤ 1000000) (hd : dig l) (hs : s = 1 ∨ s = -1 ∨ s = 0 ∧ dv l = 0) : ∃ s' l', f285 s l = some (s', l') ∧ WD s' l' (s * dv l) := by
  unfold f285
  obtain ⟨_, h1, n, hn, rfl, hz, h0⟩ := f295_e hl
  rw [h1]
  have hlen : (l.take n).length = n := by rw [List.length_take]; omega
  have hv : dv l = dv (l.take n) := by
    have := dv_app (a := l.take n) (b := l.drop n)
    rw [List.take_append_drop] at this
    rw [this, dv_zero (l := l.drop n) fun j hj => by
      rw [List.length_drop] at hj
      have := hz (n + j) (by omega) (by omega)
      simpa [List.getD_eq_getElem?_getD] using this]
    omega
  have ht : trm (l.take n) := by
    rcases h0 with rfl | h0
    · exact .inl (by simp)
    · refine .inr ?_
      rw [hlen, List.getD_eq_getElem?_getD, List.getElem?_take]
      rw [List.getD_eq_getElem?_getD] at h0
      rcases Nat.eq_zero_or_pos n with hz0 | hz0
      · exfalso
        subst hz0
        rcases Nat.eq_zero_or_pos l.length with hq | hq
        · simp [show l = [] from List.length_eq_zero_iff.1 hq] at h0
        · exact h0 (by have := hz 0 (by omega) hq; simpa [List.getD_eq_getElem?_getD] using this)
      · rw [if_pos (by omega)]; exact h0
  simp only [obnd_s, List.length_map, hlen, ieq_eq]
  by_cases hn0 : n = 0
  · subst hn0
    rw [decide_eq_true (by omega), oite_t]
    refine ⟨0, [], by simp [obnd_s], dig_nil, .inl rfl, ?_, .inl ⟨rfl, rfl⟩⟩
    rw [hv]; simp [dv]
  · rw [decide_eq_false (by omega), oite_f]
    refine ⟨s, l.take n, rfl, dig_take hd, ht, by rw [hv], .inr ⟨?_, ?_⟩⟩
    · rcases hs with h | h | ⟨h, h2⟩
      · exact .inl h
      · exact .inr h
      · have hp := dv_pos (dig_take (n := n) hd) ht (by intro e; rw [e] at hlen; simp at hlen; omega)
        have := pw_pos ((l.take n).length - 1)
        omega
    · intro e; rw [e] at hlen; simp at hlen; omega
end
section
set_option linter.unusedSimpArgs false
set_option linter.unusedVariables false
open Go Go.RowKit

theorem tmod_nn {a : Int} (h : 0 ≤ a) : a.tmod 1000000000 = a % 1000000000 := Int.tmod_eq_emod_of_nonneg h
theorem tdiv_nn {a : Int} (h : 0 ≤ a) : a.tdiv 1000000000 = a / 1000000000 := Int.tdiv_eq_ediv_of_nonneg h
theorem imax_s {a : Int} (h : -9223372036854775807 ≤ a ∧ a ≤ 9223372036854775807) : imax a (IntKind.i64.wrap (0 - a)) = (a.natAbs : Int) := by
  rw [imax_e, wr (by omega) (by omega)]; omega
theorem natAbs_mod (a : Int) : ((a.tmod 1000000000).natAbs : Int) = (a.natAbs : Int) % 1000000000 := by
  rw [Int.natAbs_tmod, show (1000000000 : Int).natAbs = 1000000000 from rfl]; omega
theorem natAbs_div (a : Int) : ((a.tdiv 1000000000).natAbs : Int) = (a.natAbs : Int) / 1000000000 := by
  rw [Int.natAbs_tdiv, show (1000000000 : Int).natAbs = 1000000000 from rfl]; exact Int.natCast_ediv ..
theorem f273_e {n : Int} (h : -9223372036854775807 ≤ n ∧ n ≤ 9223372036854775807) : ∃ z, f273 n = some z ∧ WD z.1 z.2 n := by
  unfold f273
  refine obnd_ex (R := fun s => s = 1 ∧ 0 ≤ n ∨ s = -1 ∧ n < 0) ?_ fun s hs => ?_
  · by_cases h0 : n < 0
    · rw [ilt_t h0, oite_t]; exact ⟨_, rfl, .inr ⟨rfl, h0⟩⟩
    · rw [ilt_f (by omega), oite_f]; exact ⟨_, rfl, .inl ⟨rfl, by omega⟩⟩
  refine obnd_ex (R := fun l => dig l ∧ l.length ≤ 3 ∧ dv l = (n.natAbs : Int)) (oloop_ex (fun i e => dig e.2 ∧ e.2.length = i ∧ (n.natAbs : Int) = dv e.2 + 1000000000 ^ i * (e.1.natAbs : Int)) 3 ⟨dig_nil, rfl, by simp [dv]⟩ ?_ ?_) ?_
  · rintro i ⟨m, l⟩ hi ⟨hd, hl, hv⟩
    have hd : dig l := hd
    have hl : l.length = i := hl
    have hv : (n.natAbs : Int) = dv l + 1000000000 ^ i * (m.natAbs : Int) := hv
    have hp := pw_pos i
    have hdn := dv_nn hd
    simp only [ieq_eq]
    by_cases h0 : m = 0
    · subst h0
      rw [decide_eq_true rfl]
      exact .inr ⟨_, rfl, hd, by omega, by simp at hv; omega⟩
    · rw [decide_eq_false h0, Bool.not_false, oite_t]
      have hm : (m.natAbs : Int) ≤ (n.natAbs : Int) := by
        have := Int.mul_le_mul_of_nonneg_right (show (1 : Int) ≤ 1000000000 ^ i by omega) (show (0 : Int) ≤ (m.natAbs : Int) by omega)
        omega
      have hq := natAbs_mod m
      have hdv := natAbs_div m
      unfold f109
      rw [imax_s (by omega), obnd_s, ogrd_fits (by simp; omega) (by simp; omega), wr (by omega) (by omega), natAbs_mod]
      refine .inl ⟨_, rfl, dig_app hd (dig_one (by omega)), by simp [hl], ?_⟩
      show (n.natAbs : Int) = dv (l ++ [(m.natAbs : Int) % 1000000000]) + 1000000000 ^ (i + 1) * ((m.tdiv 1000000000).natAbs : Int)
      rw [dv_app, hl, hdv, pw_s, hv]
      simp only [dv]
      have := Int.emod_add_mul_ediv (m.natAbs : Int) 1000000000
      grind
  · rintro ⟨m, l⟩ ⟨hd, hl, hv⟩
    have hd : dig l := hd
    have hl : l.length = 3 := hl
    have hv : (n.natAbs : Int) = dv l + 1000000000 ^ 3 * (m.natAbs : Int) := hv
    have hdn := dv_nn hd
    have h0 : m = 0 := by omega
    subst h0
    exact ⟨_, rfl, hd, by omega, by simp at hv; omega⟩
  · rintro l ⟨hd, hl, hv⟩
    obtain ⟨s', l', h1, h2⟩ := f285_e (s := s) (l := l) (by omega) hd (by rcases hs with ⟨h, _⟩ | ⟨h, _⟩ <;> simp [h])
    rw [h1]
    refine ⟨_, rfl, ?_⟩
    have : s * dv l = n := by rw [hv]; rcases hs with ⟨rfl, h⟩ | ⟨rfl, h⟩ <;> omega
    rw [this] at h2; exact h2

/-! ### Sums of digits -/
def dg0 (l : List Int) (i : Nat) : Int := l.getD i 0
theorem dg0_b {l : List Int} (h : dig l) (i : Nat) : 0 ≤ dg0 l i ∧ dg0 l i < 1000000000 := by
  unfold dg0
  by_cases hi : i < l.length
  · have := dig_get h hi; simpa [hi] using this
  · simp [show l.length ≤ i by omega]
theorem f297_e {l : List Int} {i : Nat} : f297 l (i : Int) = some (dg0 l i) := by
  unfold f297 dg0
  simp only [List.length_map]
  by_cases hi : i < l.length
  · rw [ilt_t (by omega), oite_t, ile_t (by omega), ogrd_t, Int.toNat_natCast, get_i hi]
    simp [obnd_s, hi]
  · rw [ilt_f (by omega), oite_f]
    simp [show l.length ≤ i by omega]
theorem dv_take0 {l : List Int} (k : Nat) : dv (l.take (k + 1)) = dv (l.take k) + 1000000000 ^ k * dg0 l k := by
  by_cases hk : k < l.length
  · rw [dv_take hk]; simp [dg0, hk]
  · rw [List.take_of_length_le (by omega), List.take_of_length_le (by omega)]
    simp [dg0, show l.length ≤ k by omega]
theorem f290_e {a b : List Int} (ha : dig a) (hb : dig b) (hl : a.length ≤ 500000) (hk : b.length ≤ 500000) : ∃ l, f290 a b = some l ∧ dig l ∧ dv l = dv a + dv b ∧ l.length ≤ a.length + b.length + 1 := by
  unfold f290
  refine obnd_ex (R := fun l => dig l ∧ dv l = dv a + dv b ∧ l.length ≤ a.length + b.length + 1) (oloop_ex (fun i e => e.2.2 = (i : Int) ∧ dig e.1 ∧ e.1.length = i ∧ (0 ≤ e.2.1 ∧ e.2.1 ≤ 1) ∧ dv e.1 + 1000000000 ^ i * e.2.1 = dv (a.take i) + dv (b.take i) ∧ (max a.length b.length < i → e.2.1 = 0)) (max a.length b.length + 1) ⟨rfl, dig_nil, rfl, by simp, by simp [dv], fun h => by omega⟩ ?_ ?_) fun l h => ⟨l, rfl, h⟩
  · rintro i ⟨l, c, j⟩ hi ⟨hj, hd, hn, hc, hv, h0⟩
    have hj : j = (i : Int) := hj
    subst hj
    have hd : dig l := hd
    have hn : l.length = i := hn
    have hc : 0 ≤ c ∧ c ≤ 1 := hc
    have hv : dv l + 1000000000 ^ i * c = dv (a.take i) + dv (b.take i) := hv
    have hx := dg0_b ha i
    have hy := dg0_b hb i
    by_cases hgo : i < a.length ∨ i < b.length ∨ 0 < c
    · have hin : ∃ r, (obnd (obnd (oite (ilt (i : Int) ((a.map eI).length : Int)) (some true) (some (ilt (i : Int) ((b.map eI).length : Int)))) fun r12 => oite r12 (some (.inl () : Unit ⊕ ((List Int × Int × Int) ⊕ List Int))) (oite (ilt 0 c) (some (.inl ())) (some (.inr (.inr l))))) fun r => some r) = some (.inl ()) ∧ r = () := by
        refine ⟨(), ?_, rfl⟩
        simp only [List.length_map]
        by_cases h1 : i < a.length
        · rw [ilt_t (by omega), oite_t]; rfl
        · rw [ilt_f (by omega), oite_f]
          by_cases h2 : i < b.length
          · rw [ilt_t (by omega)]; rfl
          · rw [ilt_f (by omega), ilt_t (show (0 : Int) < c by omega)]; rfl
      have hin2 : (obnd (oite (ilt (i : Int) ((a.map eI).length : Int)) (some true) (some (ilt (i : Int) ((b.map eI).length : Int)))) fun r12 => oite r12 (some (.inl () : Unit ⊕ ((List Int × Int × Int) ⊕ List Int))) (oite (ilt 0 c) (some (.inl ())) (some (.inr (.inr l))))) = some (.inl ()) := by
        obtain ⟨_, h, _⟩ := hin
        revert h
        generalize (obnd (oite (ilt (i : Int) ((a.map eI).length : Int)) (some true) (some (ilt (i : Int) ((b.map eI).length : Int)))) fun r12 => oite r12 (some (.inl () : Unit ⊕ ((List Int × Int × Int) ⊕ List Int))) (oite (ilt 0 c) (some (.inl ())) (some (.inr (.inr l))))) = q
        cases q with
        | none => intro h; cases h
        | some q => intro h; exact h
      refine .inl ?_
      simp only [hin2, obndS_l, f297_e, obnd_s]
      rw [wr (n := dg0 a i + dg0 b i) (by omega) (by omega), wr (n := dg0 a i + dg0 b i + c) (by omega) (by omega), tmod_nn (by omega), tdiv_nn (by omega), wr (n := (dg0 a i + dg0 b i + c) / 1000000000) (by omega) (by omega), w_succ (by omega), ogrd_fits (by simp; omega) (by simp; omega)]
      refine ⟨_, rfl, rfl, dig_app hd (dig_one (by omega)), by simp [hn], ⟨by show 0 ≤ _ / _; omega, by show _ / _ ≤ (1 : Int); omega⟩, ?_, fun hm => by
        show (dg0 a i + dg0 b i + c) / 1000000000 = 0
        have : dg0 a i = 0 := by simp [dg0, show a.length ≤ i by omega]
        have : dg0 b i = 0 := by simp [dg0, show b.length ≤ i by omega]
        omega⟩
      show dv (l ++ [(dg0 a i + dg0 b i + c) % 1000000000]) + 1000000000 ^ (i + 1) * ((dg0 a i + dg0 b i + c) / 1000000000) = dv (a.take (i + 1)) + dv (b.take (i + 1))
      rw [dv_take0, dv_take0, dv_app, hn, pw_s]
      simp only [dv]
      have := Int.emod_add_mul_ediv (dg0 a i + dg0 b i + c) 1000000000
      grind
    · have c0 : c = 0 := by omega
      subst c0
      refine .inr ⟨l, ?_, hd, ?_, ?_⟩
      · simp only [List.length_map]
        rw [ilt_f (show ((a.length : Nat) : Int) ≤ (i : Int) by omega), ilt_f (show ((b.length : Nat) : Int) ≤ (i : Int) by omega)]; rfl
      · rw [List.take_of_length_le (by omega), List.take_of_length_le (by omega)] at hv
        omega
      · omega
  · rintro ⟨l, c, j⟩ ⟨hj, hd, hn, hc, hv, h0⟩
    have hj : j = ((max a.length b.length + 1 : Nat) : Int) := hj
    have hn : l.length = max a.length b.length + 1 := hn
    have c0 : c = 0 := h0 (by omega)
    subst c0
    have hv : dv l + 1000000000 ^ (max a.length b.length + 1) * 0 = dv (a.take (max a.length b.length + 1)) + dv (b.take (max a.length b.length + 1)) := hv
    refine ⟨l, ?_, hd, ?_, ?_⟩
    · subst hj
      simp only [List.length_map]
      rw [ilt_f (show ((a.length : Nat) : Int) ≤ ((max a.length b.length + 1 : Nat) : Int) by omega), ilt_f (show ((b.length : Nat) : Int) ≤ ((max a.length b.length + 1 : Nat) : Int) by omega)]; rfl
    · rw [List.take_of_length_le (by omega), List.take_of_length_le (by omega)] at hv
      omega
    · omega
end
section
set_option linter.unusedSimpArgs false
set_option linter.unusedVariables false
open Go Go.RowKit

theorem dv_split {l : List Int} (k : Nat) : dv l = dv (l.take k) + 1000000000 ^ (l.take k).length * dv (l.drop k) := by
  rw [← dv_app, List.take_append_drop]
theorem f292_e {a b : List Int} (ha : dig a) (hb : dig b) (hl : a.length ≤ 500000) (hk : b.length ≤ a.length) (hv : dv b ≤ dv a) : ∃ l, f292 a b = some l ∧ dig l ∧ trm l ∧ dv l = dv a - dv b ∧ l.length ≤ a.length := by
  unfold f292
  refine obnd_ex (R := fun l => dig l ∧ l.length = a.length ∧ dv l = dv a - dv b) (oloop_ex (fun i e => e.2.2 = (i : Int) ∧ dig e.1 ∧ e.1.length = i ∧ (e.2.1 = 0 ∨ e.2.1 = 1) ∧ dv e.1 - 1000000000 ^ i * e.2.1 = dv (a.take i) - dv (b.take i)) a.length ⟨rfl, dig_nil, rfl, .inl rfl, by simp [dv]⟩ ?_ ?_) ?_
  · rintro i ⟨l, c, j⟩ hi ⟨hj, hd, hn, hc, hw⟩
    have hj : j = (i : Int) := hj
    subst hj
    have hd : dig l := hd
    have hn : l.length = i := hn
    have hc : c = 0 ∨ c = 1 := hc
    have hw : dv l - 1000000000 ^ i * c = dv (a.take i) - dv (b.take i) := hw
    have hx := dig_get ha hi
    have hy := dg0_b hb i
    simp only [List.length_map]
    rw [ilt_t (by omega), oite_t, ile_t (by omega), ogrd_t, Int.toNat_natCast, get_i hi]
    simp only [obnd_s, f297_e]
    rw [wr (n := a[i] - dg0 b i) (by omega) (by omega), wr (n := a[i] - dg0 b i - c) (by omega) (by omega)]
    by_cases h0 : a[i] - dg0 b i - c < 0
    · rw [ilt_t h0, oite_t, wr (n := a[i] - dg0 b i - c + 1000000000) (by omega) (by omega)]
      simp only [obnd_s]
      rw [w_succ (by omega), ogrd_fits (by simp; omega) (by simp; omega)]
      refine .inl ⟨_, rfl, rfl, dig_app hd (dig_one (by omega)), by simp [hn], .inr rfl, ?_⟩
      show dv (l ++ [a[i] - dg0 b i - c + 1000000000]) - 1000000000 ^ (i + 1) * 1 = dv (a.take (i + 1)) - dv (b.take (i + 1))
      rw [dv_take hi, dv_take0, dv_app, hn, pw_s]
      simp only [dv]; grind
    · rw [ilt_f (by omega), oite_f]
      simp only [obnd_s]
      rw [w_succ (by omega), ogrd_fits (by simp; omega) (by simp; omega)]
      refine .inl ⟨_, rfl, rfl, dig_app hd (dig_one (by omega)), by simp [hn], .inl rfl, ?_⟩
      show dv (l ++ [a[i] - dg0 b i - c]) - 1000000000 ^ (i + 1) * 0 = dv (a.take (i + 1)) - dv (b.take (i + 1))
      rw [dv_take hi, dv_take0, dv_app, hn, pw_s]
      simp only [dv]; grind
  · rintro ⟨l, c, j⟩ ⟨hj, hd, hn, hc, hw⟩
    have hj : j = ((a.length : Nat) : Int) := hj
    have hn : l.length = a.length := hn
    have hc : c = 0 ∨ c = 1 := hc
    have hw : dv l - 1000000000 ^ a.length * c = dv (a.take a.length) - dv (b.take a.length) := hw
    rw [List.take_length, List.take_of_length_le hk] at hw
    subst hj
    refine ⟨l, ?_, hd, hn, ?_⟩
    · simp only [List.length_map]
      rw [ilt_f (Int.le_refl _), oite_f]
    · have h1 : dv l < 1000000000 ^ l.length := dv_lt hd
      rw [hn] at h1
      have h2 := pw_pos a.length
      rcases hc with rfl | rfl <;> omega
  · rintro l ⟨hd, hn, hw⟩
    obtain ⟨_, h1, n, h2, rfl, hz, h0⟩ := f295_e (l := l) (by omega)
    rw [h1]
    have hlen : (l.take n).length = n := by rw [List.length_take]; omega
    have hv : dv l = dv (l.take n) := by
      rw [dv_split n (l := l), dv_zero (l := l.drop n) fun j hj => by
        rw [List.length_drop] at hj
        have := hz (n + j) (by omega) (by omega)
        simpa [List.getD_eq_getElem?_getD] using this]
      omega
    refine ⟨_, rfl, dig_take hd, ?_, by rw [← hv, hw], by omega⟩
    rcases Nat.eq_zero_or_pos n with hz0 | hz0
    · exact .inl (by simp [hz0])
    · refine .inr ?_
      have h0 := h0.resolve_left (by omega)
      rw [hlen, List.getD_eq_getElem?_getD, List.getElem?_take, if_pos (by omega)]
      rwa [List.getD_eq_getElem?_getD] at h0

/-! ### Comparisons -/
theorem dv_less {a b : List Int} (ha : dig a) (hb : dig b) (tb : trm b) (h : a.length < b.length) : dv a < dv b := by
  have h1 := dv_lt ha
  have h2 := dv_pos hb tb (by intro e; simp [e] at h)
  have h3 := pw_mono (show a.length ≤ b.length - 1 by omega)
  omega
theorem dv_top {a b : List Int} (ha : dig a) {k : Nat} (hab : a.length = b.length) (hk : k < a.length) (he : ∀ j, k < j → j < a.length → dg0 a j = dg0 b j) (hl : dg0 a k < dg0 b k) (hb : dig b) : dv a < dv b := by
  have h1 := dv_split (l := a) (k + 1)
  have h2 := dv_split (l := b) (k + 1)
  have e1 : a.drop (k + 1) = b.drop (k + 1) := by
    refine List.ext_getElem (by simp; omega) fun j hj hj' => ?_
    simp only [List.length_drop] at hj hj'
    have := he (k + 1 + j) (by omega) (by omega)
    simp only [List.getElem_drop]
    unfold dg0 at this
    simpa [List.getD_eq_getElem?_getD, show k + 1 + j < a.length by omega, show k + 1 + j < b.length by omega] using this
  rw [show (a.take (k + 1)).length = k + 1 by simp; omega, dv_take0] at h1
  rw [show (b.take (k + 1)).length = k + 1 by simp; omega, dv_take0, ← e1] at h2
  have h3 := dv_lt (dig_take (n := k) ha)
  rw [show (a.take k).length = k by simp; omega] at h3
  have h4 := dv_nn (dig_take (n := k) hb)
  have h5 := Int.mul_le_mul_of_nonneg_left (show dg0 a k + 1 ≤ dg0 b k by omega) (Int.le_of_lt (pw_pos k))
  rw [Int.mul_add] at h5
  omega
/-- What a comparison yields. -/
def cmpP (a b c : Int) : Prop := c = -1 ∧ a < b ∨ c = 0 ∧ a = b ∨ c = 1 ∧ b < a
def cmpR (a b : List Int) : Unit ⊕ Int → Prop
  | .inl _ => dv a = dv b
  | .inr c => cmpP (dv a) (dv b) c
theorem f291_e {a b : List Int} (ha : dig a) (hb : dig b) (ta : trm a) (tb : trm b) (hl : a.length ≤ 500000) (hk : b.length ≤ 500000) : ∃ c, f291 a b = some c ∧ cmpP (dv a) (dv b) c := by
  unfold f291
  simp only [List.length_map, ieq_eq]
  by_cases hab : a.length = b.length
  case neg =>
    rw [decide_eq_false (by omega), Bool.not_false, oite_t]
    by_cases h1 : a.length < b.length
    · rw [ilt_t (by omega), oite_t]
      exact ⟨_, rfl, .inl ⟨rfl, dv_less ha hb tb h1⟩⟩
    · rw [ilt_f (by omega), oite_f]
      exact ⟨_, rfl, .inr (.inr ⟨rfl, dv_less hb ha ta (by omega)⟩)⟩
  rw [decide_eq_true (by omega), Bool.not_true, oite_f]
  refine obndS_ex (R := cmpR a b) (Q := cmpP (dv a) (dv b)) (oloop_ex (R := cmpR a b) (fun i e => e = (a.length : Int) - 1 - i ∧ ∀ j, a.length - i ≤ j → j < a.length → dg0 a j = dg0 b j) a.length ⟨by rw [wr (by omega) (by omega)]; omega, fun j h1 h2 => by omega⟩ ?_ ?_) (fun _ h => ⟨0, rfl, .inr (.inl ⟨rfl, h⟩)⟩) (fun c h => h)
  · rintro i _ hi ⟨rfl, he⟩
    have hk1 : a.length - 1 - i < a.length := by omega
    have hk2 : a.length - 1 - i < b.length := by omega
    have e1 : (a.length : Int) - 1 - i = ((a.length - 1 - i : Nat) : Int) := by omega
    have g1 : dg0 a (a.length - 1 - i) = a[a.length - 1 - i] := by simp [dg0, hk1]
    have g2 : dg0 b (a.length - 1 - i) = b[a.length - 1 - i] := by simp [dg0, hk2]
    rw [e1]
    simp only [ile_t (show (0 : Int) ≤ ((a.length - 1 - i : Nat) : Int) by omega), oite_t, ogrd_t, Int.toNat_natCast, get_i hk1, get_i hk2, obnd_s]
    rw [← g1, ← g2]
    have he' : ∀ j, a.length - 1 - i < j → j < a.length → dg0 a j = dg0 b j := fun j h1 h2 => he j (by omega) h2
    by_cases h1 : dg0 a (a.length - 1 - i) < dg0 b (a.length - 1 - i)
    · rw [ilt_t h1, oite_t]
      exact .inr ⟨_, rfl, .inl ⟨rfl, dv_top ha hab hk1 he' h1 hb⟩⟩
    · rw [ilt_f (by omega), oite_f]
      by_cases h2 : dg0 b (a.length - 1 - i) < dg0 a (a.length - 1 - i)
      · rw [ilt_t h2, oite_t]
        exact .inr ⟨_, rfl, .inr (.inr ⟨rfl, dv_top hb hab.symm hk2 (fun j h3 h4 => (he' j h3 (by omega)).symm) h2 ha⟩)⟩
      · rw [ilt_f (by omega), oite_f]
        refine .inl ⟨_, rfl, by rw [wr (by omega) (by omega)]; omega, fun j h3 h4 => ?_⟩
        by_cases hj : j = a.length - 1 - i
        · subst hj; omega
        · exact he j (by omega) h4
  · rintro _ ⟨rfl, he⟩
    rw [ile_f (show (a.length : Int) - 1 - (a.length : Nat) < 0 by omega), oite_f]
    refine ⟨_, rfl, ?_⟩
    show dv a = dv b
    refine congrArg dv (List.ext_getElem hab fun j h1 h2 => ?_)
    have := he j (by omega) h1
    simpa [dg0, h1, h2] using this

/-! ### Sums -/
theorem trm_nil : trm [] := .inl rfl
theorem WD.nz {s v : Int} {l : List Int} (h : WD s l v) (h0 : s ≠ 0) : s = 1 ∨ s = -1 := by
  rcases h.sg with ⟨h1, _⟩ | ⟨h1, _⟩
  · exact absurd h1 h0
  · exact h1
theorem f281_e {s t v w : Int} {a b : List Int} (ha : WD s a v) (hb : WD t b w) (hl : a.length ≤ 200000) (hk : b.length ≤ 200000) : ∃ z, f281 s a t b = some z ∧ WD z.1 z.2 (v + w) ∧ z.2.length ≤ a.length + b.length + 1 := by
  unfold f281
  simp only [ieq_eq]
  have pa := ha.pos
  have pb := hb.pos
  by_cases h1 : s = 0
  · rw [decide_eq_true h1, oite_t]
    have : v = 0 := by omega
    subst this
    exact ⟨_, rfl, by rw [Int.zero_add]; exact hb, by simp; omega⟩
  rw [decide_eq_false h1, oite_f]
  by_cases h2 : t = 0
  · rw [decide_eq_true h2, oite_t]
    have : w = 0 := by omega
    subst this
    exact ⟨_, rfl, by rw [Int.add_zero]; exact ha, by simp; omega⟩
  rw [decide_eq_false h2, oite_f]
  have sa := ha.nz h1
  have sb := hb.nz h2
  have len : ∀ {s' l' : _} {s : Int} {l : List Int}, f285 s l = some (s', l') → l.length ≤ 1000000 → l'.length ≤ l.length := by
    intro s' l' s l h hl
    unfold f285 at h
    obtain ⟨r, h1, n, hn, rfl, _⟩ := f295_e hl
    rw [h1] at h
    simp only [obnd_s] at h
    obtain ⟨q, _, h⟩ := obnd_some h
    injection h with h; injection h with _ h; subst h
    simp; omega
  by_cases h3 : s = t
  · rw [decide_eq_true h3, oite_t]
    obtain ⟨l, e1, d1, v1, n1⟩ := f290_e ha.dg hb.dg (by omega) (by omega)
    rw [e1]
    obtain ⟨s', l', e2, h4⟩ := f285_e (s := s) (l := l) (by omega) d1 (by omega)
    have := len e2 (by omega)
    simp only [obnd_s, e2]
    refine ⟨_, rfl, ?_, by show l'.length ≤ _; omega⟩
    rw [v1, Int.mul_add] at h4
    rw [ha.vl, hb.vl, ← h3]; exact h4
  rw [decide_eq_false h3, oite_f]
  obtain ⟨c, e1, hc⟩ := f291_e ha.dg hb.dg ha.tr hb.tr (by omega) (by omega)
  rw [e1]
  simp only [obnd_s]
  have hva := ha.vl
  have hvb := hb.vl
  rcases hc with ⟨rfl, hc⟩ | ⟨rfl, hc⟩ | ⟨rfl, hc⟩
  · rw [decide_eq_false (by omega), oite_f, ilt_f (by omega), oite_f]
    have hab : a.length ≤ b.length := by
      rcases Nat.lt_or_ge b.length a.length with h | h
      · have := dv_less hb.dg ha.dg ha.tr h; omega
      · exact h
    obtain ⟨l, e2, d2, t2, v2, n2⟩ := f292_e hb.dg ha.dg (by omega) hab (by omega)
    rw [e2]
    obtain ⟨s', l', e3, h4⟩ := f285_e (s := t) (l := l) (by omega) d2 (by omega)
    have := len e3 (by omega)
    simp only [obnd_s, e3]
    refine ⟨_, rfl, ?_, by show l'.length ≤ _; omega⟩
    rw [v2] at h4
    have : t * (dv b - dv a) = v + w := by rcases sa with rfl | rfl <;> rcases sb with rfl | rfl <;> omega
    rw [this] at h4; exact h4
  · rw [decide_eq_true rfl, oite_t]
    refine ⟨_, rfl, ?_, by simp⟩
    have : v + w = 0 := by rcases sa with rfl | rfl <;> rcases sb with rfl | rfl <;> omega
    rw [this]
    exact ⟨dig_nil, trm_nil, rfl, .inl ⟨rfl, rfl⟩⟩
  · rw [decide_eq_false (by omega), oite_f, ilt_t (by omega), oite_t]
    have hab : b.length ≤ a.length := by
      rcases Nat.lt_or_ge a.length b.length with h | h
      · have := dv_less ha.dg hb.dg hb.tr h; omega
      · exact h
    obtain ⟨l, e2, d2, t2, v2, n2⟩ := f292_e ha.dg hb.dg (by omega) hab (by omega)
    rw [e2]
    obtain ⟨s', l', e3, h4⟩ := f285_e (s := s) (l := l) (by omega) d2 (by omega)
    have := len e3 (by omega)
    simp only [obnd_s, e3]
    refine ⟨_, rfl, ?_, by show l'.length ≤ _; omega⟩
    rw [v2] at h4
    have : s * (dv a - dv b) = v + w := by rcases sa with rfl | rfl <;> rcases sb with rfl | rfl <;> omega
    rw [this] at h4; exact h4
theorem WD.neg {s v : Int} {l : List Int} (h : WD s l v) : f287 s l = some (-s, l) ∧ WD (-s) l (-v) := by
  have hs : s = 0 ∨ s = 1 ∨ s = -1 := by rcases h.sg with ⟨h1, _⟩ | ⟨h1, _⟩ <;> omega
  refine ⟨?_, h.dg, h.tr, by rw [h.vl, Int.neg_mul], ?_⟩
  · unfold f287; rw [wr (by omega) (by omega), Int.zero_sub]
  · rcases h.sg with ⟨h1, h2⟩ | ⟨h1, h2⟩
    · exact .inl ⟨by omega, h2⟩
    · exact .inr ⟨by omega, h2⟩
theorem f280_e {s t v w : Int} {a b : List Int} (ha : WD s a v) (hb : WD t b w) (hl : a.length ≤ 200000) (hk : b.length ≤ 200000) : ∃ z, f280 s a t b = some z ∧ WD z.1 z.2 (v - w) ∧ z.2.length ≤ a.length + b.length + 1 := by
  unfold f280
  obtain ⟨h1, h2⟩ := hb.neg
  rw [h1, obnd_s]
  obtain ⟨z, h3, h4, h5⟩ := f281_e ha h2 hl hk
  rw [h3]
  exact ⟨_, rfl, by rw [Int.sub_eq_add_neg]; exact h4, h5⟩
theorem f268_e {s t v w : Int} {a b : List Int} (ha : WD s a v) (hb : WD t b w) (hl : a.length ≤ 200000) (hk : b.length ≤ 200000) : ∃ c, f268 s a t b = some c ∧ cmpP v w c := by
  unfold f268
  obtain ⟨z, h1, h2, _⟩ := f280_e ha hb hl hk
  rw [h1, obnd_s]
  refine ⟨_, rfl, ?_⟩
  have := h2.pos
  unfold cmpP; omega
end
section
set_option linter.unusedSimpArgs false
set_option linter.unusedVariables false
open Go Go.RowKit

theorem mul9 {a b : Int} (ha : 0 ≤ a ∧ a < 1000000000) (hb : 0 ≤ b ∧ b < 1000000000) : 0 ≤ a * b ∧ a * b ≤ 999999998000000001 := by
  refine ⟨Int.mul_nonneg ha.1 hb.1, ?_⟩
  have h1 := Int.mul_le_mul_of_nonneg_left (show b ≤ 999999999 by omega) ha.1
  omega
theorem blt_t' {a b : Nat} (h : a < b) : Nat.blt a b = true := Nat.blt_eq.mpr h
theorem f274_e {s t v w : Int} {a b : List Int} (ha : WD s a v) (hb : WD t b w) (hl : a.length ≤ 200000) (hk : b.length ≤ 200000) : ∃ z, f274 s a t b = some z ∧ WD z.1 z.2 (v * w) ∧ z.2.length ≤ a.length + b.length + 1 := by
  have da := ha.dg
  have db := hb.dg
  have e1 : IntKind.i64.wrap (IntKind.i64.wrap (((a.length : Nat) : Int) + ((b.length : Nat) : Int)) + 1) = ((a.length + b.length + 1 : Nat) : Int) := by
    rw [wr (n := (a.length : Int) + b.length) (by omega) (by omega), wr (by omega) (by omega)]; omega
  have e2 : mfits 8 ((a.length + b.length + 1 : Nat) : Int) ((a.length + b.length + 1 : Nat) : Int) = true := by
    simp only [mfits, ile_eq, Bool.and_eq_true, decide_eq_true_eq]; omega
  unfold f274
  simp only [List.length_map, e1, e2, ogrd_t, Int.toNat_natCast]
  refine obnd_ex (R := fun m => dig m ∧ m.length = a.length + b.length + 1 ∧ dv m = dv a * dv b) (oloop_ex (fun i e => e.1 = (i : Int) ∧ dig e.2 ∧ e.2.length = a.length + b.length + 1 ∧ dv e.2 = dv (a.take i) * dv b ∧ ∀ j, i + b.length ≤ j → dg0 e.2 j = 0) a.length ⟨rfl, dig_rep _, by simp, by simp [dv_rep, dv], fun j _ => by simp [dg0, List.getElem?_replicate]; split <;> rfl⟩ ?_ ?_) ?_
  · rintro i ⟨j, o⟩ hi ⟨hj, hd, hn, hv, hz⟩
    have hj : j = (i : Int) := hj
    subst hj
    have hd : dig o := hd
    have hn : o.length = a.length + b.length + 1 := hn
    have hv : dv o = dv (a.take i) * dv b := hv
    have hz : ∀ j, i + b.length ≤ j → dg0 o j = 0 := hz
    have hx := dig_get da hi
    rw [ilt_t (by omega), oite_t]
    refine .inl (inl_ex ?_)
    refine obnd_ex (R := fun (r : Int × List Int) => (0 ≤ r.1 ∧ r.1 < 1000000000) ∧ dig r.2 ∧ r.2.length = a.length + b.length + 1 ∧ dv r.2 + 1000000000 ^ (i + b.length) * r.1 = dv (a.take i) * dv b + 1000000000 ^ i * (a[i] * dv b) ∧ ∀ j, i + b.length ≤ j → dg0 r.2 j = 0)
      (oloop_ex (e0 := ((0 : Int), (0 : Int), o)) (fun k (e : Int × Int × List Int) => e.2.1 = (k : Int) ∧ (0 ≤ e.1 ∧ e.1 < 1000000000) ∧ dig e.2.2 ∧ e.2.2.length = a.length + b.length + 1 ∧ dv e.2.2 + 1000000000 ^ (i + k) * e.1 = dv (a.take i) * dv b + 1000000000 ^ i * (a[i] * dv (b.take k)) ∧ ∀ j, i + b.length ≤ j → dg0 e.2.2 j = 0) b.length ⟨rfl, by simp, hd, hn, by simp [dv, hv], hz⟩ ?_ ?_) ?_
    · rintro k ⟨c, j, o⟩ hk ⟨hj, hc, hd, hn, hv, hz⟩
      have hj : j = (k : Int) := hj
      subst hj
      have hc : 0 ≤ c ∧ c < 1000000000 := hc
      have hd : dig o := hd
      have hn : o.length = a.length + b.length + 1 := hn
      have hv : dv o + 1000000000 ^ (i + k) * c = dv (a.take i) * dv b + 1000000000 ^ i * (a[i] * dv (b.take k)) := hv
      have hz : ∀ j, i + b.length ≤ j → dg0 o j = 0 := hz
      have hy := dig_get db hk
      have hik : i + k < o.length := by omega
      have hw := dig_get hd hik
      have hm := mul9 hx hy
      have e3 : IntKind.i64.wrap ((i : Int) + (k : Int)) = ((i + k : Nat) : Int) := by rw [wr (by omega) (by omega)]; omega
      rw [ilt_t (by omega), oite_t]
      simp only [e3]
      rw [ile_t (by omega), ogrd_t, ilt_t (by omega), ogrd_t, Int.toNat_natCast, get_i hik]
      simp only [obnd_s]
      rw [ile_t (by omega), ogrd_t, Int.toNat_natCast, get_i hi]
      simp only [obnd_s]
      rw [ile_t (by omega), ogrd_t, Int.toNat_natCast, get_i hk]
      simp only [obnd_s]
      rw [blt_t' hik, ogrd_t, wr (n := a[i] * b[k]) (by omega) (by omega), wr (n := o[i + k] + a[i] * b[k]) (by omega) (by omega), wr (n := o[i + k] + a[i] * b[k] + c) (by omega) (by omega), tmod_nn (by omega), tdiv_nn (by omega), wr (n := (o[i + k] + a[i] * b[k] + c) / 1000000000) (by omega) (by omega), w_succ (by omega)]
      refine .inl ⟨_, rfl, rfl, ⟨by show 0 ≤ _ / _; omega, by show (o[i + k] + a[i] * b[k] + c) / 1000000000 < 1000000000; omega⟩, dig_set hd (by omega), by simp [hn], ?_, fun j hj => ?_⟩
      · show dv (o.set (i + k) ((o[i + k] + a[i] * b[k] + c) % 1000000000)) + 1000000000 ^ (i + (k + 1)) * ((o[i + k] + a[i] * b[k] + c) / 1000000000) = dv (a.take i) * dv b + 1000000000 ^ i * (a[i] * dv (b.take (k + 1)))
        rw [dv_set hik, dv_take hk, show i + (k + 1) = (i + k) + 1 by omega, pw_s, Int.pow_add] at *
        have := Int.emod_add_mul_ediv (o[i + k] + a[i] * b[k] + c) 1000000000
        grind
      · show dg0 (o.set (i + k) _) j = 0
        have := hz j hj
        unfold dg0 at this ⊢
        rw [List.getD_eq_getElem?_getD] at this ⊢
        rw [List.getElem?_set_ne (by omega)]; exact this
    · rintro ⟨c, j, o⟩ ⟨hj, hc, hd, hn, hv, hz⟩
      have hj : j = ((b.length : Nat) : Int) := hj
      subst hj
      rw [ilt_f (Int.le_refl _), oite_f]
      rw [List.take_length] at hv
      exact ⟨_, rfl, hc, hd, hn, hv, hz⟩
    · rintro ⟨c, o⟩ ⟨hc, hd, hn, hv, hz⟩
      have hc : 0 ≤ c ∧ c < 1000000000 := hc
      have hd : dig o := hd
      have hn : o.length = a.length + b.length + 1 := hn
      have hv : dv o + 1000000000 ^ (i + b.length) * c = dv (a.take i) * dv b + 1000000000 ^ i * (a[i] * dv b) := hv
      have hz : ∀ j, i + b.length ≤ j → dg0 o j = 0 := hz
      have hib : i + b.length < o.length := by omega
      have e3 : IntKind.i64.wrap ((i : Int) + ((b.length : Nat) : Int)) = ((i + b.length : Nat) : Int) := by rw [wr (by omega) (by omega)]; omega
      have h0 : o[i + b.length] = 0 := by have := hz _ (Nat.le_refl _); simpa [dg0, hib] using this
      simp only [e3]
      rw [ile_t (by omega), ogrd_t, ilt_t (by omega), ogrd_t, Int.toNat_natCast, get_i hib]
      simp only [obnd_s]
      rw [blt_t' hib, ogrd_t, h0, Int.zero_add, wr (n := c) (by omega) (by omega), w_succ (by omega)]
      refine ⟨_, rfl, _, rfl, rfl, dig_set hd hc, by simp [hn], ?_, fun j hj => ?_⟩
      · show dv (o.set (i + b.length) c) = dv (a.take (i + 1)) * dv b
        rw [dv_set hib, h0, dv_take hi]
        grind
      · show dg0 (o.set (i + b.length) c) j = 0
        have := hz j (by omega)
        unfold dg0 at this ⊢
        rw [List.getD_eq_getElem?_getD] at this ⊢
        rw [List.getElem?_set_ne (by omega)]; exact this
  · rintro ⟨j, o⟩ ⟨hj, hd, hn, hv, hz⟩
    have hj : j = ((a.length : Nat) : Int) := hj
    subst hj
    have hn : o.length = a.length + b.length + 1 := hn
    rw [List.take_length] at hv
    rw [ilt_f (Int.le_refl _), oite_f]
    refine ⟨o, ?_, hd, hn, hv⟩
    show oinr (ogrd (Nat.beq (a.length + b.length + 1) o.length) (some o)) = _
    rw [hn, Nat.beq_refl]; rfl
  · rintro o ⟨hd, hn, hv⟩
    have pa := ha.pos
    have pb := hb.pos
    have hva := ha.vl
    have hvb := hb.vl
    have hsa : s = 0 ∨ s = 1 ∨ s = -1 := by omega
    have hsb : t = 0 ∨ t = 1 ∨ t = -1 := by omega
    have hst : s * t = 1 ∨ s * t = -1 ∨ s * t = 0 ∧ dv o = 0 := by
      rcases ha.sg with ⟨rfl, rfl⟩ | ⟨h1, _⟩
      · exact .inr (.inr ⟨by omega, by rw [hv]; simp [dv]⟩)
      · rcases hb.sg with ⟨rfl, rfl⟩ | ⟨h2, _⟩
        · exact .inr (.inr ⟨by omega, by rw [hv]; simp [dv]⟩)
        · rcases h1 with rfl | rfl <;> rcases h2 with rfl | rfl <;> omega
    rw [wr (n := s * t) (by omega) (by omega)]
    obtain ⟨s', l', e3, h4⟩ := f285_e (s := s * t) (l := o) (by omega) hd hst
    have hlen : l'.length ≤ o.length := by
      unfold f285 at e3
      obtain ⟨r, h1, n, hn, rfl, _⟩ := f295_e (l := o) (by omega)
      rw [h1] at e3
      simp only [obnd_s] at e3
      obtain ⟨q, _, h⟩ := obnd_some e3
      injection h with h; injection h with _ h; subst h
      simp; omega
    rw [e3]
    refine ⟨_, rfl, ?_, by show l'.length ≤ _; omega⟩
    rw [hv] at h4
    rw [hva, hvb, show s * dv a * (t * dv b) = s * t * (dv a * dv b) by grind]
    exact h4
end
section
set_option linter.unusedSimpArgs false
set_option linter.unusedVariables false
open Go Go.RowKit

/-! ### Sums over the chosen terms -/
def lsum : List Int → Int
  | [] => 0
  | x :: r => x + lsum r
theorem lsum_app : ∀ {a b : List Int}, lsum (a ++ b) = lsum a + lsum b
  | [], b => by simp [lsum]
  | x :: r, b => by
    simp only [List.cons_append, lsum]
    rw [lsum_app]; omega
theorem sumN_tab : ∀ {n : Nat} {F : Nat → Int}, sumN n F = lsum (tab n F)
  | 0, _ => rfl
  | n + 1, F => by
    simp only [sumN]
    rw [← tab_s, lsum_app, sumN_tab]
    simp [lsum]
theorem lsum_filter {p : Nat → Bool} {F : Nat → Int} : ∀ {L : List Nat}, lsum ((L.filter p).map F) = lsum (L.map fun t => if p t then F t else 0)
  | [] => rfl
  | t :: L => by
    rw [List.filter_cons]
    cases h : p t with
    | true =>
      simp only [if_true, List.map_cons, lsum, h]
      rw [lsum_filter]
    | false =>
      simp only [Bool.false_eq_true, if_false, List.map_cons, lsum, h]
      rw [lsum_filter]; omega
theorem sum_ch {s : Int} {F : Nat → Int} : sumN (gN s) (fun k => F (chI s k)) = sumN 5 fun t => if hasB s t then F t else 0 := by
  rw [sumN_tab, tab_chN (F := F), sumN_tab]
  exact lsum_filter
theorem gram_sum {l : List Rd} {a b : Nat} : ∀ {j : Nat}, gram l a b j = sumN j fun i => tm (gR l i) a * tm (gR l i) b
  | 0 => rfl
  | j + 1 => by simp only [gram, sumN]; rw [gram_sum]
theorem rgt_sum {l : List Rd} {a : Nat} : ∀ {j : Nat}, rgt l a j = sumN j fun i => tm (gR l i) a * (gR l i).2.2
  | 0 => rfl
  | j + 1 => by simp only [rgt, sumN]; rw [rgt_sum]
theorem gram_comm {l : List Rd} {a b j : Nat} : gram l a b j = gram l b a j := by
  rw [gram_sum, gram_sum]
  exact sumN_congr fun k _ => Int.mul_comm _ _
theorem sm5 {f : Fit} {x : Rd} : sm f x [0, 1, 2, 3, 4] 5 = sumN 5 fun t => f.p t * tm x t := by
  simp only [sm, sumN, List.getD_cons_zero, List.getD_cons_succ]
/-- What CheckFit adds up for a term. -/
def ckS (l : List Rd) (f : Fit) (a : Nat) : Int := sumN l.length fun j => tm (gR l j) a * resid f (gR l j)
theorem ckS_e {l : List Rd} {f : Fit} {a : Nat} : ckS l f a = f.d * rgt l a l.length - sumN 5 fun t => gram l a t l.length * f.p t := by
  unfold ckS
  have h1 : ∀ j, tm (gR l j) a * resid f (gR l j) = f.d * (tm (gR l j) a * (gR l j).2.2) + -1 * sumN 5 fun t => tm (gR l j) a * tm (gR l j) t * f.p t := by
    intro j
    unfold resid
    rw [sm5, Int.mul_sub]
    have : (sumN 5 fun t => tm (gR l j) a * tm (gR l j) t * f.p t) = tm (gR l j) a * sumN 5 fun t => f.p t * tm (gR l j) t := by
      rw [← sumN_mul]
      exact sumN_congr fun k _ => by grind
    rw [this]; grind
  rw [sumN_congr fun j _ => h1 j, sumN_add, sumN_mul, sumN_mul, ← rgt_sum, sumN_swap]
  have h2 : (sumN 5 fun t => sumN l.length fun j => tm (gR l j) a * tm (gR l j) t * f.p t) = sumN 5 fun t => gram l a t l.length * f.p t := by
    refine sumN_congr fun t _ => ?_
    rw [gram_sum, Int.mul_comm, ← sumN_mul]
    exact sumN_congr fun j _ => by grind
  rw [h2]; omega

/-! ### The fit that is returned -/
/-- A fit that FitOf returns: the determinants, reduced. -/
structure isFit (l : List Rd) (s : Int) (f : Fit) (G : Nat) : Prop where
  g0 : 0 < G
  d : dD l s = G * f.d
  p : ∀ t, t < 5 → PT l s t = G * f.p t
  one : gc f.d f.p0 f.p1 f.p2 f.p3 f.p4 = 1
  err : fitE f.d f.p0 f.p1 f.p2 f.p3 f.p4 = 0
  out : ∀ t, t < 5 → hasB s t = false → f.p t = 0
theorem normal5 {l : List Rd} {s : Int} (hl : l.length ≤ 12) (hx : ∀ j, j < l.length → rdP (gR l j)) {a : Nat} (ha : a < 5) (hb : hasB s a = true) : (sumN 5 fun t => gram l a t l.length * PT l s t) = rgt l a l.length * dD l s := by
  obtain ⟨i, hi, rfl⟩ : ∃ i, i < gN s ∧ chI s i = a := by
    have := chN_has.2 ⟨ha, hb⟩
    obtain ⟨i, hi, e⟩ := List.getElem_of_mem this
    exact ⟨i, hi, by simp [chI, hi, e]⟩
  rw [← normal hl hx hi]
  have := sum_ch (s := s) (F := fun t => gram l (chI s i) t l.length * PT l s t)
  rw [this]
  refine sumN_congr fun t ht => ?_
  cases h : hasB s t with
  | true => simp
  | false =>
    rw [PT_out (t := t) fun hm => by have := (chN_has.1 hm).2; rw [h] at this; cases this]
    simp
theorem isFit.zero {l : List Rd} {s : Int} {f : Fit} {G : Nat} (h : isFit l s f G) (hl : l.length ≤ 12) (hx : ∀ j, j < l.length → rdP (gR l j)) {a : Nat} (ha : a < 5) (hb : hasB s a = true) : ckS l f a = 0 := by
  have h1 := normal5 hl hx ha hb
  have h2 : (sumN 5 fun t => gram l a t l.length * PT l s t) = (G : Int) * sumN 5 fun t => gram l a t l.length * f.p t := by
    rw [← sumN_mul]
    exact sumN_congr fun t ht => by rw [h.p t ht]; grind
  rw [h2, h.d] at h1
  have h3 : (G : Int) * ckS l f a = 0 := by
    rw [ckS_e, Int.mul_sub, h1]; grind
  rcases Int.mul_eq_zero.1 h3 with h4 | h4
  · have := h.g0; omega
  · exact h4
/-- A column that is a sum of the columns, in place of one. -/
theorem set_comb {l : List Rd} {s : Int} {o : Nat → Int} {z : Col} (hz : ∀ i, i < gN s → z i = sumN 5 fun t => gram l (chI s i) t l.length * (if hasB s t then o t else 0)) {k : Nat} (hk : k < gN s) : det (gN s) 0 ((GC l s).set k z) = o (chI s k) * DD l s := by
  have hk' : k < (GC l s).length := by rw [GC_len]; exact hk
  have hset : ∀ v : Col, (GC l s).take k ++ v :: (GC l s).drop (k + 1) = (GC l s).set k v := by
    intro v
    have e2 := List.set_eq_take_append_cons_drop (l := GC l s) (i := k) (a := v)
    rw [if_pos hk'] at e2
    exact e2.symm
  have e : (GC l s)[k] = gcol l s (chI s k) := by
    have := GC_get (l := l) (s := s) hk (d := fun _ => 0)
    rw [List.getD_eq_getElem?_getD, get_i hk'] at this; exact this
  have hsplit : (GC l s).take k ++ gcol l s (chI s k) :: (GC l s).drop (k + 1) = GC l s := by
    rw [← e, List.getElem_cons_drop, List.take_append_drop]
  have hlen1 : ((GC l s).take k).length = k := by rw [List.length_take, GC_len]; omega
  have hlen2 : ((GC l s).drop (k + 1)).length = gN s - (k + 1) := by rw [List.length_drop, GC_len]
  have hk2 : k < (tab (gN s) fun q => o (chI s q)).length := by rw [tab_len]; exact hk
  have xs : (tab (gN s) fun q => o (chI s q)).take k ++ o (chI s k) :: (tab (gN s) fun q => o (chI s q)).drop (k + 1) = tab (gN s) fun q => o (chI s q) := by
    have e : (tab (gN s) fun q => o (chI s q))[k] = o (chI s k) := by
      have := tab_get (F := fun q => o (chI s q)) hk
      rw [get_i hk2] at this; injection this
    rw [← e, List.getElem_cons_drop, List.take_append_drop]
  have hlx : ((tab (gN s) fun q => o (chI s q)).take k).length = k := by rw [List.length_take, tab_len]; omega
  have hc : ∀ i, i < gN s → comb (GC l s) (tab (gN s) fun q => o (chI s q)) i = z i := by
    intro i hi
    rw [comb_sum (z := fun _ => 0) (by rw [GC_len, tab_len]), GC_len, hz i hi]
    have h1 : (sumN (gN s) fun q => (tab (gN s) fun q => o (chI s q)).getD q 0 * (GC l s).getD q (fun _ => 0) i) = sumN (gN s) fun q => gram l (chI s i) (chI s q) l.length * o (chI s q) := by
      refine sumN_congr fun q hq => ?_
      rw [GC_get hq, List.getD_eq_getElem?_getD, tab_get hq]
      show o (chI s q) * gram l (chI s i) (chI s q) l.length = _
      exact Int.mul_comm _ _
    rw [h1]
    have h2 := sum_ch (s := s) (F := fun t => gram l (chI s i) t l.length * o t)
    rw [h2]
    refine sumN_congr fun t _ => ?_
    cases hasB s t <;> simp
  have h1 := det_cramer (n := gN s) (r := 0) (p := (GC l s).take k) (q := (GC l s).drop (k + 1)) (c := gcol l s (chI s k)) (xs := (tab (gN s) fun q => o (chI s q)).take k) (ys := (tab (gN s) fun q => o (chI s q)).drop (k + 1)) (x := o (chI s k)) (by omega) (by omega) (z := comb (GC l s) (tab (gN s) fun q => o (chI s q))) (fun i => by rw [hsplit, xs])
  rw [hsplit, hset] at h1
  refine Eq.trans ?_ h1
  unfold GC; rw [tab_set, tab_set]
  refine det_tab fun j hj i _ hi => ?_
  by_cases h : j = k
  · rw [if_pos h, if_pos h]
    exact (hc i (by omega)).symm
  · rw [if_neg h, if_neg h]
/-- Numbers that make the matrix nothing are nothing. -/
theorem unique0 {l : List Rd} {s : Int} (hl : l.length ≤ 12) (hx : ∀ j, j < l.length → rdP (gR l j)) (hD : dD l s ≠ 0) {o : Nat → Int} (ho : ∀ a, a < 5 → hasB s a = true → (sumN 5 fun t => gram l a t l.length * (if hasB s t then o t else 0)) = 0) {k : Nat} (hk : k < gN s) : o (chI s k) = 0 := by
  have h1 := set_comb (l := l) (s := s) (o := o) (z := fun _ => 0) (fun i hi => by
    have hm : chI s i ∈ chN s := by unfold gN at hi; simp [chI, hi]
    exact (ho (chI s i) (chN_has.1 hm).1 (chN_has.1 hm).2).symm) hk
  have hk' : k < (GC l s).length := by rw [GC_len]; exact hk
  have h2 : det (gN s) 0 ((GC l s).set k fun _ => 0) = 0 := by
    have e2 := List.set_eq_take_append_cons_drop (l := GC l s) (i := k) (a := fun _ => 0)
    rw [if_pos hk'] at e2
    rw [e2]
    exact det_zero (by rw [List.length_take, List.length_drop, GC_len]; omega) fun _ => rfl
  rw [h2] at h1
  have h3 : DD l s ≠ 0 := by rw [← dD_e hl hx]; exact hD
  rcases Int.mul_eq_zero.1 h1.symm with h4 | h4
  · exact h4
  · exact absurd h4 h3
end
section
set_option linter.unusedSimpArgs false
set_option linter.unusedVariables false
open Go Go.RowKit

theorem f52_e (s : Int) : f52 s = some (bif decide (1 ≤ s) && decide (s ≤ 31) then 0 else 2) := by
  unfold f52; rw [f15_e]
  cases (decide (1 ≤ s) && decide (s ≤ 31)) <;> rfl
theorem f94_0 {s : Int} (h : 1 ≤ s ∧ s ≤ 31) : f94 s = some 0 := by
  unfold f94; rw [f65_e, decide_eq_true h.1, decide_eq_true h.2]; rfl
theorem rdE_of {x : Rd} (h : rdP x) : rdE x = 0 := by
  obtain ⟨⟨h1, h2⟩, ⟨h3, h4⟩, h5, h6⟩ := h
  unfold rdE rdB
  rw [decide_eq_true h1, decide_eq_true h2, decide_eq_true h3, decide_eq_true h4, decide_eq_true h5, decide_eq_true h6]; rfl
theorem smallD {l : List Rd} {s : Int} (hl : l.length ≤ 12) (hx : ∀ j, j < l.length → rdP (gR l j)) : small (dD l s) := by
  rw [dD_e hl hx]
  have := DD_b (s := s) hl hx
  unfold small; omega
theorem smallO {l : List Rd} {s : Int} (hl : l.length ≤ 12) (hx : ∀ j, j < l.length → rdP (gR l j)) (k : Nat) : small (dO l s k) := by
  rw [dO_e hl hx]
  have := DK_b (s := s) hl hx k
  unfold small; omega
theorem gc_mul {g : Nat} {d p0 p1 p2 p3 p4 : Int} : gc (g * d) (g * p0) (g * p1) (g * p2) (g * p3) (g * p4) = g * gc d p0 p1 p2 p3 p4 := by
  unfold gc
  simp only [Int.natAbs_mul, Int.natAbs_natCast, Nat.gcd_mul_left]
theorem mul_div {g : Nat} {a : Int} (h : (g : Int) ∣ a) : a = g * (a / g) := (Int.mul_ediv_cancel' h).symm
/-- FitOf: no fit, one that is too large, or a fit. -/
theorem f55_is {l : List Rd} {s : Int} (hE : rdsE l = 0) (hs : 1 ≤ s ∧ s ≤ 31) :
    f55 l s = some (0, 0, 0, 0, 0, 0, 12) ∧ dD l s = 0 ∨ f55 l s = some (0, 0, 0, 0, 0, 0, 8) ∧ dD l s ≠ 0 ∨ ∃ f G, isFit l s f G ∧ f55 l s = some (f.d, f.p0, f.p1, f.p2, f.p3, f.p4, 0) := by
  obtain ⟨hl, hx⟩ := rds_0 hE
  rw [f55_e hl hx hE (f94_0 hs) (smallD hl hx) fun k _ => smallO hl hx k]
  unfold fitR
  by_cases h0 : dD l s = 0
  · rw [if_pos h0]; exact .inl ⟨rfl, h0⟩
  rw [if_neg h0]
  have g0 := gc_pos (p0 := pS l s (gN s) 0) (p1 := pS l s (gN s) 1) (p2 := pS l s (gN s) 2) (p3 := pS l s (gN s) 3) (p4 := pS l s (gN s) 4) h0
  obtain ⟨v0, v1, v2, v3, v4, v5⟩ := @dvd_gc (dD l s) (pS l s (gN s) 0) (pS l s (gN s) 1) (pS l s (gN s) 2) (pS l s (gN s) 3) (pS l s (gN s) 4)
  obtain ⟨G, hG⟩ : ∃ G, gc (dD l s) (pS l s (gN s) 0) (pS l s (gN s) 1) (pS l s (gN s) 2) (pS l s (gN s) 3) (pS l s (gN s) 4) = G := ⟨_, rfl⟩
  rw [hG] at g0 v0 v1 v2 v3 v4 v5 ⊢
  have u0 := mul_div v0
  have u1 := mul_div v1
  have u2 := mul_div v2
  have u3 := mul_div v3
  have u4 := mul_div v4
  have u5 := mul_div v5
  have key := gc_mul (g := G) (d := dD l s / G) (p0 := pS l s (gN s) 0 / G) (p1 := pS l s (gN s) 1 / G) (p2 := pS l s (gN s) 2 / G) (p3 := pS l s (gN s) 3 / G) (p4 := pS l s (gN s) 4 / G)
  rw [← u0, ← u1, ← u2, ← u3, ← u4, ← u5, hG] at key
  split
  · exact .inr (.inl ⟨rfl, h0⟩)
  · rename_i he
    refine .inr (.inr ⟨⟨dD l s / G, pS l s (gN s) 0 / G, pS l s (gN s) 1 / G, pS l s (gN s) 2 / G, pS l s (gN s) 3 / G, pS l s (gN s) 4 / G⟩, G, ⟨g0, u0, fun t ht => ?_, ?_, Decidable.of_not_not he, fun t ht hb => ?_⟩, rfl⟩)
    · match t, ht with
      | 0, _ => exact u1
      | 1, _ => exact u2
      | 2, _ => exact u3
      | 3, _ => exact u4
      | 4, _ => exact u5
    · have : G * 1 = G * gc (dD l s / G) (pS l s (gN s) 0 / G) (pS l s (gN s) 1 / G) (pS l s (gN s) 2 / G) (pS l s (gN s) 3 / G) (pS l s (gN s) 4 / G) := by rw [Nat.mul_one]; exact key
      exact (Nat.eq_of_mul_eq_mul_left g0 this).symm
    · have hz : pS l s (gN s) t = 0 := PT_out (l := l) fun hm => by have := (chN_has.1 hm).2; rw [hb] at this; cases this
      match t, ht with
      | 0, _ => show pS l s (gN s) 0 / G = 0; rw [hz]; simp
      | 1, _ => show pS l s (gN s) 1 / G = 0; rw [hz]; simp
      | 2, _ => show pS l s (gN s) 2 / G = 0; rw [hz]; simp
      | 3, _ => show pS l s (gN s) 3 / G = 0; rw [hz]; simp
      | 4, _ => show pS l s (gN s) 4 / G = 0; rw [hz]; simp
end
section
set_option linter.unusedSimpArgs false
set_option linter.unusedVariables false
open Go Go.RowKit

/-- What CheckFit asks for. -/
def ckP (l : List Rd) (s : Int) (f : Fit) : Prop := (∀ t, t < 5 → hasB s t = false → f.p t = 0) ∧ gc f.d f.p0 f.p1 f.p2 f.p3 f.p4 = 1 ∧ ∀ k, k < gN s → ckS l f (chI s k) = 0
theorem resid_b2 {f : Fit} {x : Rd} (hf : f.ok) (hx : rdP x) : -2500000000000000 ≤ resid f x ∧ resid f x ≤ 2500000000000000 := by
  have h1 := whole_b hf hx
  have h2 := @mul16 f.d x.2.2 (by have := hf.1; omega) hx.2.2
  unfold resid; omega
theorem tmr_b {f : Fit} {x : Rd} (hf : f.ok) (hx : rdP x) (a : Nat) : -250000000000000000 ≤ tm x a * resid f x ∧ tm x a * resid f x ≤ 250000000000000000 := by
  have h := mulb (tmb hx a) (resid_b2 hf hx)
  omega
theorem ckS_b {l : List Rd} {f : Fit} (hf : f.ok) (hx : ∀ j, j < l.length → rdP (gR l j)) (a : Nat) : ∀ n : Nat, n ≤ l.length → -(250000000000000000 * (n : Int)) ≤ sumN n (fun j => tm (gR l j) a * resid f (gR l j)) ∧ sumN n (fun j => tm (gR l j) a * resid f (gR l j)) ≤ 250000000000000000 * (n : Int)
  | 0, _ => by simp [sumN]
  | n + 1, h => by
    have h1 := ckS_b hf hx a n (by omega)
    have h2 := tmr_b hf (hx n (by omega)) a
    simp only [sumN]; omega
theorem form1 {ρ : Type} {p : Int} {h : Bool} {k : Bool → Option ρ} : obnd (obnd (oite (!(ieq p 0)) (obnd (some h) fun (y : Bool) => some (!y)) (some false)) fun r => some r) k = k ((!decide (p = 0)) && !h) := by
  rw [ieq_eq]; cases decide (p = 0) <;> cases h <;> rfl
theorem form2 {ρ : Type} {p : Int} {h : Bool} {k : Bool → Option ρ} : obnd (oite (!(ieq p 0)) (obnd (some h) fun (y : Bool) => some (!y)) (some false)) k = k ((!decide (p = 0)) && !h) := by
  rw [ieq_eq]; cases decide (p = 0) <;> cases h <;> rfl
theorem form_t {p : Int} {h : Bool} (hq : ((!decide (p = 0)) && !h) = true) : p ≠ 0 ∧ h = false := by
  simp only [Bool.and_eq_true, Bool.not_eq_true', decide_eq_false_iff_not] at hq
  exact hq
theorem form_f {p : Int} {h : Bool} (hq : ((!decide (p = 0)) && !h) = false) : h = false → p = 0 := by
  intro hh; subst hh
  simpa using hq
def ckE (l : List Rd) (s : Int) (f : Fit) : Unit ⊕ (Int × Int) → Prop
  | .inl _ => ∀ k, k < gN s → ckS l f (chI s k) = 0
  | .inr r => r.2 = 19 ∧ ¬ ckP l s f
theorem f265_e {l : List Rd} {s : Int} {f : Fit} (hE : rdsE l = 0) (hs : 1 ≤ s ∧ s ≤ 31) (hfe : fitE f.d f.p0 f.p1 f.p2 f.p3 f.p4 = 0) : ∃ r, f265 l s f.d f.p0 f.p1 f.p2 f.p3 f.p4 = some r ∧ (r = (0, 0) ∧ ckP l s f ∨ (r.2 = 3 ∨ r.2 = 19) ∧ ¬ ckP l s f) := by
  obtain ⟨hl, hx⟩ := rds_0 hE
  have hf : f.ok := fit_ok hfe
  have hfo := hf
  obtain ⟨hd, h0, h1, h2, h3, h4⟩ := hfo
  unfold f265
  rw [f93_e (by omega), hE, f94_0 hs, f98_e, hfe]
  simp only [obnd_s]
  rw [show f63 [0, 0, 0] = some 0 from f63_e (by simp)]
  simp only [obnd_s]
  rw [show ieq (0 : Int) 0 = true from rfl, Bool.not_true, oite_f]
  rw [show f114 s 0 = some (hasB s 0) from f114_e s 0, show f114 s 1 = some (hasB s 1) from f114_e s 1, show f114 s 2 = some (hasB s 2) from f114_e s 2, show f114 s 3 = some (hasB s 3) from f114_e s 3, show f114 s 4 = some (hasB s 4) from f114_e s 4]
  simp only [form2]
  have bad : ∀ t, t < 5 → f.p t ≠ 0 → hasB s t = false → ¬ ckP l s f := fun t ht hp hb hc => hp (hc.1 t ht hb)
  cases q0 : ((!decide (f.p0 = 0)) && !hasB s 0) with
  | true => exact ⟨_, rfl, .inr ⟨.inl rfl, bad 0 (by omega) (form_t q0).1 (form_t q0).2⟩⟩
  | false =>
  cases q1 : ((!decide (f.p1 = 0)) && !hasB s 1) with
  | true => exact ⟨_, rfl, .inr ⟨.inl rfl, bad 1 (by omega) (form_t q1).1 (form_t q1).2⟩⟩
  | false =>
  cases q2 : ((!decide (f.p2 = 0)) && !hasB s 2) with
  | true => exact ⟨_, rfl, .inr ⟨.inl rfl, bad 2 (by omega) (form_t q2).1 (form_t q2).2⟩⟩
  | false =>
  cases q3 : ((!decide (f.p3 = 0)) && !hasB s 3) with
  | true => exact ⟨_, rfl, .inr ⟨.inl rfl, bad 3 (by omega) (form_t q3).1 (form_t q3).2⟩⟩
  | false =>
  cases q4 : ((!decide (f.p4 = 0)) && !hasB s 4) with
  | true => exact ⟨_, rfl, .inr ⟨.inl rfl, bad 4 (by omega) (form_t q4).1 (form_t q4).2⟩⟩
  | false =>
  have hform : ∀ t, t < 5 → hasB s t = false → f.p t = 0 := by
    intro t ht hb
    match t, ht with
    | 0, _ => exact form_f q0 hb
    | 1, _ => exact form_f q1 hb
    | 2, _ => exact form_f q2 hb
    | 3, _ => exact form_f q3 hb
    | 4, _ => exact form_f q4 hb
  simp only [oite_f, obndS_l]
  rw [f97_e (by omega) (by omega) (by omega) (by omega) (by omega) (by omega)]
  simp only [obnd_s, ieq_eq]
  by_cases hg : gc f.d f.p0 f.p1 f.p2 f.p3 f.p4 = 1
  case neg =>
    rw [decide_eq_false (by omega), Bool.not_false, oite_t]
    exact ⟨_, rfl, .inr ⟨.inl rfl, fun hc => hg hc.2.1⟩⟩
  rw [decide_eq_true (by omega), Bool.not_true, oite_f, f95_e]
  simp only [obnd_s]
  refine obndS_ex (R := ckE l s f) (Q := fun (r : Int × Int) => r = (0, 0) ∧ ckP l s f ∨ (r.2 = 3 ∨ r.2 = 19) ∧ ¬ ckP l s f) (oloop_ex (R := ckE l s f) (fun i e => e = (i : Int) ∧ ∀ k, k < i → ckS l f (chI s k) = 0) (gN s) ⟨rfl, fun k hk => by omega⟩ ?_ ?_) (fun _ h => ⟨(0, 0), rfl, Or.inl ⟨rfl, hform, hg, h⟩⟩) (fun r h => Or.inr ⟨Or.inr h.1, h.2⟩)
  · rintro i _ hi ⟨rfl, hz⟩
    have hn := gN_le s
    have hc := chI_lt s hi
    simp only [List.length_map]
    rw [ilt_t (show (i : Int) < (((chN s).length : Nat) : Int) by unfold gN at hi; omega), oite_t, ile_t (by omega), ogrd_t, Int.toNat_natCast, chI_get s hi]
    simp only [obnd_s]
    rw [oloop_all (fun j => (sumN j (fun j => tm (gR l j) (chI s i) * resid f (gR l j)), (j : Int))) l.length (r := ckS l f (chI s i)) (e0 := ((0 : Int), (0 : Int))) rfl ?_ ?_]
    · simp only [obnd_s]
      by_cases h0 : ckS l f (chI s i) = 0
      · rw [decide_eq_true h0, Bool.not_true, oite_f, w_succ (by omega)]
        refine .inl ⟨_, rfl, rfl, fun k hk => ?_⟩
        by_cases hki : k = i
        · subst hki; exact h0
        · exact hz k (by omega)
      · rw [decide_eq_false h0, Bool.not_false, oite_t]
        exact .inr ⟨_, rfl, rfl, fun hc => h0 (hc.2.2 i hi)⟩
    · intro j hj
      have hp := hx j hj
      have b1 := tmr_b hf hp (chI s i)
      have b2 := ckS_b hf hx (chI s i) j (by omega)
      have ht : ([1, (gR l j).2.1, (sea (gR l j).1).1, (sea (gR l j).1).2, (gR l j).1 / 360] : List Int)[chI s i * 1]? = some (tm (gR l j) (chI s i)) := by
        have := tm_get (x := gR l j) hc
        simpa using this
      simp only [ilt_t (show (j : Int) < ((l.length : Nat) : Int) by omega), ile_t (show 0 ≤ (j : Int) by omega), ile_t (show 0 ≤ ((chI s i : Nat) : Int) by omega), ilt_t (show ((chI s i : Nat) : Int) < 5 by omega), oite_t, ogrd_t, Int.toNat_natCast, get_gR hj, obnd_s, f77_e hp, ht, f102_e hf hp, resid_w hf hp, w_succ (show j < 1000000 by omega)]
      rw [wr (n := tm (gR l j) (chI s i) * resid f (gR l j)) (by omega) (by omega), wr (by omega) (by omega)]; rfl
    · simp only [ilt_f (Int.le_refl ((l.length : Nat) : Int)), oite_f]; rfl
  · rintro _ ⟨rfl, hz⟩
    simp only [List.length_map]
    rw [show ((gN s : Nat) : Int) = (((chN s).length : Nat) : Int) from rfl, ilt_f (Int.le_refl _), oite_f]
    exact ⟨_, rfl, hz⟩
end
section
set_option linter.unusedSimpArgs false
set_option linter.unusedVariables false
open Go Go.RowKit

def sqS (l : List Rd) (f : Fit) (n : Nat) : Int := sumN n fun j => resid f (gR l j) * resid f (gR l j)
theorem sq_b {r : Int} (h : -2500000000000000 ≤ r ∧ r ≤ 2500000000000000) : 0 ≤ r * r ∧ r * r ≤ 6250000000000000000000000000000 := by
  have h1 := mulb h h
  refine ⟨?_, by omega⟩
  rcases Int.le_total 0 r with h0 | h0
  · exact Int.mul_nonneg h0 h0
  · exact Int.mul_nonneg_of_nonpos_of_nonpos h0 h0
theorem sqS_b {l : List Rd} {f : Fit} (hf : f.ok) (hx : ∀ j, j < l.length → rdP (gR l j)) : ∀ n : Nat, n ≤ l.length → 0 ≤ sqS l f n ∧ sqS l f n ≤ 6250000000000000000000000000000 * (n : Int)
  | 0, _ => by simp [sqS, sumN]
  | n + 1, h => by
    have h1 := sqS_b hf hx n (by omega)
    have h2 := sq_b (resid_b2 hf (hx n (by omega)))
    unfold sqS at h1 ⊢
    simp only [sumN]; omega
theorem resid_c {f : Fit} {x : Rd} (hf : f.ok) (hx : rdP x) : IntKind.i64.wrap (IntKind.i64.wrap (IntKind.i64.wrap (IntKind.i64.wrap (IntKind.i64.wrap (IntKind.i64.wrap (f.d * x.2.2) - IntKind.i64.wrap (f.p0 * 1)) - IntKind.i64.wrap (f.p1 * x.2.1)) - IntKind.i64.wrap (f.p2 * (sea x.1).1)) - IntKind.i64.wrap (f.p3 * (sea x.1).2)) - IntKind.i64.wrap (f.p4 * (x.1 / 360))) = resid f x := by
  obtain ⟨b0, b1, b2, b3, b4⟩ := prods hf hx
  have bm := @mul16 f.d x.2.2 (by have := hf.1; omega) hx.2.2
  rw [wr (n := f.p0 * 1) (by omega) (by omega), wr (n := f.p1 * x.2.1) (by omega) (by omega), wr (n := f.p2 * (sea x.1).1) (by omega) (by omega), wr (n := f.p3 * (sea x.1).2) (by omega) (by omega), wr (n := f.p4 * (x.1 / 360)) (by omega) (by omega), wr (n := f.d * x.2.2) (by omega) (by omega)]
  rw [wr (n := f.d * x.2.2 - f.p0 * 1) (by omega) (by omega), wr (n := f.d * x.2.2 - f.p0 * 1 - f.p1 * x.2.1) (by omega) (by omega), wr (n := f.d * x.2.2 - f.p0 * 1 - f.p1 * x.2.1 - f.p2 * (sea x.1).1) (by omega) (by omega), wr (n := f.d * x.2.2 - f.p0 * 1 - f.p1 * x.2.1 - f.p2 * (sea x.1).1 - f.p3 * (sea x.1).2) (by omega) (by omega), wr (by omega) (by omega)]
  unfold resid
  simp only [sm, Fit.p, tm, List.getD_cons_zero, List.getD_cons_succ, Int.zero_add]
  omega
theorem B4 : (1000000000 : Int) ^ 4 = 1000000000000000000000000000000000000 := by decide
theorem B2 : (1000000000 : Int) ^ 2 = 1000000000000000000 := by decide
theorem f269_e {l : List Rd} {f : Fit} (hf : f.ok) (hl : l.length ≤ 12) (hx : ∀ j, j < l.length → rdP (gR l j)) : ∃ z, f269 l f.d f.p0 f.p1 f.p2 f.p3 f.p4 = some z ∧ WD z.1 z.2 (sqS l f l.length) ∧ z.2.length ≤ 4 := by
  unfold f269
  obtain ⟨z0, h1, h2⟩ := f273_e (n := 0) (by omega)
  rw [h1]
  simp only [obnd_s]
  refine obnd_ex (R := fun (z : Int × List Int) => WD z.1 z.2 (sqS l f l.length)) (oloop_ex (fun i (e : Int × Int × List Int) => e.1 = (i : Int) ∧ WD e.2.1 e.2.2 (sqS l f i)) l.length ⟨rfl, h2⟩ ?_ ?_) fun z hz => ⟨_, rfl, hz, ?_⟩
  · rintro i ⟨j, s, d⟩ hi ⟨hj, hw⟩
    have hj : j = (i : Int) := hj
    subst hj
    have hw : WD s d (sqS l f i) := hw
    have hp := hx i hi
    have hr := resid_b2 hf hp
    have hq := sq_b hr
    have hsq := sqS_b hf hx i (by omega)
    have hsq2 := sqS_b hf hx (i + 1) (by omega)
    refine .inl (inl_ex ?_)
    simp only [List.length_map, ilt_t (show (i : Int) < ((l.length : Nat) : Int) by omega), ile_t (show 0 ≤ (i : Int) by omega), oite_t, ogrd_t, Int.toNat_natCast, get_gR hi, obnd_s, f34_e hp, resid_c hf hp, w_succ (show i < 1000000 by omega)]
    obtain ⟨z1, e1, w1⟩ := f273_e (n := resid f (gR l i)) (by omega)
    have l1 := w1.len (n := 2) (by rw [B2]; omega) (by rw [B2]; omega)
    rw [e1]
    simp only [obnd_s]
    obtain ⟨z2, e2, w2, l2⟩ := f274_e w1 w1 (by omega) (by omega)
    rw [e2]
    simp only [obnd_s]
    have ld := hw.len (n := 4) (by rw [B4]; omega) (by rw [B4]; omega)
    obtain ⟨z3, e3, w3, l3⟩ := f281_e hw w2 (by omega) (by omega)
    rw [e3]
    exact ⟨_, rfl, _, rfl, rfl, w3⟩
  · rintro ⟨j, s, d⟩ ⟨hj, hw⟩
    have hj : j = ((l.length : Nat) : Int) := hj
    subst hj
    simp only [List.length_map, ilt_f (Int.le_refl ((l.length : Nat) : Int)), oite_f]
    exact ⟨_, rfl, hw⟩
  · have hsq := sqS_b hf hx l.length (by omega)
    exact hz.len (n := 4) (by rw [B4]; omega) (by rw [B4]; omega)

/-! ### No smaller sum -/
/-- A fit with other parts. -/
def Fit.add (f : Fit) (o : Nat → Int) : Fit := ⟨f.d, f.p0 + o 0, f.p1 + o 1, f.p2 + o 2, f.p3 + o 3, f.p4 + o 4⟩
theorem add_p {f : Fit} {o : Nat → Int} {t : Nat} (h : t < 5) : (f.add o).p t = f.p t + o t := by
  match t, h with
  | 0, _ => rfl
  | 1, _ => rfl
  | 2, _ => rfl
  | 3, _ => rfl
  | 4, _ => rfl
theorem resid_add {f : Fit} {o : Nat → Int} {x : Rd} : resid (f.add o) x = resid f x - sumN 5 fun t => o t * tm x t := by
  unfold resid
  rw [sm5, sm5]
  have : (sumN 5 fun t => (f.add o).p t * tm x t) = (sumN 5 fun t => f.p t * tm x t) + sumN 5 fun t => o t * tm x t := by
    rw [← sumN_add]
    exact sumN_congr fun t ht => by rw [add_p ht, Int.add_mul]
  rw [this]
  show f.d * x.2.2 - _ = _
  omega
theorem ckS_add {l : List Rd} {f : Fit} {o : Nat → Int} {a : Nat} : ckS l (f.add o) a = ckS l f a - sumN 5 fun t => gram l a t l.length * o t := by
  rw [ckS_e, ckS_e]
  have : (sumN 5 fun t => gram l a t l.length * (f.add o).p t) = (sumN 5 fun t => gram l a t l.length * f.p t) + sumN 5 fun t => gram l a t l.length * o t := by
    rw [← sumN_add]
    exact sumN_congr fun t ht => by rw [add_p ht, Int.mul_add]
  rw [this]
  show f.d * _ - _ = _
  omega
theorem sumN_nn : ∀ {n : Nat} {F : Nat → Int}, (∀ k, k < n → 0 ≤ F k) → 0 ≤ sumN n F
  | 0, _, _ => Int.le_refl _
  | n + 1, F, h => by
    have h1 := sumN_nn (n := n) (F := F) fun k hk => h k (by omega)
    have h2 := h n (by omega)
    simp only [sumN]; omega
theorem sq_nn (r : Int) : 0 ≤ r * r := by
  rcases Int.le_total 0 r with h0 | h0
  · exact Int.mul_nonneg h0 h0
  · exact Int.mul_nonneg_of_nonpos_of_nonpos h0 h0
theorem leastS {l : List Rd} {f : Fit} {o : Nat → Int} (h : ∀ t, t < 5 → o t * ckS l f t = 0) : sqS l f l.length ≤ sqS l (f.add o) l.length := by
  have h1 : ∀ j, resid (f.add o) (gR l j) * resid (f.add o) (gR l j) = resid f (gR l j) * resid f (gR l j) + (-2 * (sumN 5 fun t => o t * (tm (gR l j) t * resid f (gR l j))) + (sumN 5 fun t => o t * tm (gR l j) t) * (sumN 5 fun t => o t * tm (gR l j) t)) := by
    intro j
    rw [resid_add]
    have : (sumN 5 fun t => o t * (tm (gR l j) t * resid f (gR l j))) = resid f (gR l j) * sumN 5 fun t => o t * tm (gR l j) t := by
      rw [← sumN_mul]
      exact sumN_congr fun t _ => by grind
    rw [this]; grind
  unfold sqS
  rw [sumN_congr fun j _ => h1 j, sumN_add, sumN_add, sumN_mul, sumN_swap]
  have h2 : (sumN 5 fun t => sumN l.length fun j => o t * (tm (gR l j) t * resid f (gR l j))) = 0 := by
    have : ∀ t, t < 5 → (sumN l.length fun j => o t * (tm (gR l j) t * resid f (gR l j))) = 0 := fun t ht => by
      rw [sumN_mul]; exact h t ht
    rw [sumN_congr this, sumN_zero]
  rw [h2]
  have h3 : 0 ≤ sumN l.length fun j => (sumN 5 fun t => o t * tm (gR l j) t) * (sumN 5 fun t => o t * tm (gR l j) t) := sumN_nn fun j _ => sq_nn _
  omega
end
section
set_option linter.unusedSimpArgs false
set_option linter.unusedVariables false
open Go Go.RowKit

section
variable {l l' : List Rd} {s : Int} (hlen : l'.length = l.length) (ht : ∀ j a, j < l.length → tm (gR l' j) a = tm (gR l j) a)
include hlen ht
theorem gram_same (a b : Nat) : gram l' a b l'.length = gram l a b l.length := by
  rw [hlen, gram_sum, gram_sum]
  exact sumN_congr fun j hj => by rw [ht j a hj, ht j b hj]
theorem GC_same : GC l' s = GC l s := by
  unfold GC
  refine tab_congr fun j _ => ?_
  funext i
  exact gram_same hlen ht _ _
theorem DD_same : DD l' s = DD l s := by unfold DD; rw [GC_same hlen ht]
theorem dD_same : dD l' s = dD l s := by rw [dD_w, dD_w, DD_same hlen ht]
/-- What is added to the movements is a sum of terms: what is added to the right side. -/
theorem rgt_same {o : Nat → Int} (hm : ∀ j, j < l.length → (gR l' j).2.2 = (gR l j).2.2 + sumN 5 fun t => o t * tm (gR l j) t) (a : Nat) : rgt l' a l'.length = rgt l a l.length + sumN 5 fun t => gram l a t l.length * o t := by
  have h1 : ∀ j, j < l.length → tm (gR l' j) a * (gR l' j).2.2 = tm (gR l j) a * (gR l j).2.2 + sumN 5 fun t => tm (gR l j) a * tm (gR l j) t * o t := by
    intro j hj
    rw [ht j a hj, hm j hj, Int.mul_add]
    congr 1
    rw [← sumN_mul]
    exact sumN_congr fun t _ => by grind
  rw [hlen, rgt_sum, rgt_sum, sumN_congr h1, sumN_add, sumN_swap]
  congr 1
  refine sumN_congr fun t _ => ?_
  rw [gram_sum, Int.mul_comm, ← sumN_mul]
  exact sumN_congr fun j _ => by grind
/-- The determinants of the parts. -/
theorem DK_same {o : Nat → Int} (ho : ∀ t, t < 5 → hasB s t = false → o t = 0) (hm : ∀ j, j < l.length → (gR l' j).2.2 = (gR l j).2.2 + sumN 5 fun t => o t * tm (gR l j) t) {k : Nat} (hk : k < gN s) : DK l' s k = DK l s k + o (chI s k) * DD l s := by
  unfold DK
  rw [GC_same hlen ht]
  have hk' : k < (GC l s).length := by rw [GC_len]; exact hk
  have hset : ∀ v : Col, (GC l s).set k v = (GC l s).take k ++ v :: (GC l s).drop (k + 1) := by
    intro v
    have e2 := List.set_eq_take_append_cons_drop (l := GC l s) (i := k) (a := v)
    rw [if_pos hk'] at e2
    exact e2
  have hc := set_comb (l := l) (s := s) (o := o) (z := fun i => sumN 5 fun t => gram l (chI s i) t l.length * (if hasB s t then o t else 0)) (fun i _ => rfl) hk
  have h1 := lin_det (n := gN s) (r := 0) ((GC l s).take k) ((GC l s).drop (k + 1)) (rcol l s) (fun i => sumN 5 fun t => gram l (chI s i) t l.length * (if hasB s t then o t else 0)) (rcol l' s) 1 1 (by rw [List.length_take, List.length_drop, GC_len]; omega) (fun i => by
    show rgt l' (chI s i) l'.length = 1 * rgt l (chI s i) l.length + 1 * _
    rw [rgt_same hlen ht hm, Int.one_mul, Int.one_mul]
    congr 1
    refine sumN_congr fun t ht' => ?_
    cases h : hasB s t with
    | true => simp
    | false => rw [ho t ht' h]; simp)
  rw [← hset, ← hset, ← hset, hc] at h1
  rw [h1]; omega
end
/-- The parts, all of them. -/
theorem PT_same {l l' : List Rd} {s : Int} (hl : l.length ≤ 12) (hx : ∀ j, j < l.length → rdP (gR l j)) (hx' : ∀ j, j < l'.length → rdP (gR l' j)) (hlen : l'.length = l.length) (ht : ∀ j a, j < l.length → tm (gR l' j) a = tm (gR l j) a) {o : Nat → Int} (ho : ∀ t, t < 5 → hasB s t = false → o t = 0) (hm : ∀ j, j < l.length → (gR l' j).2.2 = (gR l j).2.2 + sumN 5 fun t => o t * tm (gR l j) t) {t : Nat} (h5 : t < 5) : PT l' s t = PT l s t + o t * dD l s := by
  cases hb : hasB s t with
  | false =>
    have hn : t ∉ chN s := fun hm => by have := (chN_has.1 hm).2; rw [hb] at this; cases this
    rw [PT_out hn, PT_out hn, ho t h5 hb]; omega
  | true =>
    obtain ⟨i, hi, rfl⟩ : ∃ i, i < gN s ∧ chI s i = t := by
      have := chN_has.2 ⟨h5, hb⟩
      obtain ⟨i, hi, e⟩ := List.getElem_of_mem this
      exact ⟨i, hi, by simp [chI, hi, e]⟩
    rw [PT_at hi, PT_at hi, dO_e (by omega) hx', dO_e hl hx, dD_e hl hx, DK_same hlen ht ho hm hi]
end
section
set_option linter.unusedSimpArgs false
set_option linter.unusedVariables false
open Go Go.RowKit

/-- What is added to a part. -/
def oN (b : Bool) (a m : Int) : Int := if b = true ∧ -m ≤ a ∧ a ≤ m then a else 0
theorem oN_b {b : Bool} {a m : Int} (hm : 0 ≤ m) : -m ≤ oN b a m ∧ oN b a m ≤ m := by
  unfold oN; split <;> omega
theorem ch0 (b : Bool) (a m : Int) : (obnd (oite b (obnd (f15 a (-m) m) fun (y : Bool) => some y) (some false)) fun (r : Bool) => some r) = some (decide (b = true ∧ -m ≤ a ∧ a ≤ m)) := by
  rw [f15_e]
  cases b with
  | false => simp [oite_f, obnd_s]
  | true =>
    simp only [oite_t, obnd_s, true_and]
    rw [← Bool.decide_and]
theorem ch1 {α : Type} {b : Bool} {a m p : Int} {k : Int → Option α} (hm : 0 ≤ m ∧ m ≤ 1000) (hp : -1000000000000 ≤ p ∧ p ≤ 1000000000000) :
    obnd (obnd (oite b (obnd (f15 a (-m) m) fun (y : Bool) => some y) (some false)) fun (r : Bool) => oite r (some (IntKind.i64.wrap (p + a))) (some p)) k = k (p + oN b a m) := by
  have h := ch0 b a m
  have h' : (oite b (obnd (f15 a (-m) m) fun (y : Bool) => some y) (some false)) = some (decide (b = true ∧ -m ≤ a ∧ a ≤ m)) := by
    rw [← h]; cases (oite b (obnd (f15 a (-m) m) fun (y : Bool) => some y) (some false)) <;> rfl
  rw [h']
  simp only [obnd_s]
  unfold oN
  by_cases hc : b = true ∧ -m ≤ a ∧ a ≤ m
  · rw [decide_eq_true hc, if_pos hc, oite_t, wr (by omega) (by omega)]; rfl
  · rw [decide_eq_false hc, if_neg hc, oite_f, Int.add_zero]; rfl
theorem ch2 {α : Type} {b : Bool} {a m S x : Int} {k : Int → Option α} (hm : 0 ≤ m ∧ m ≤ 1000) (hx : -100 ≤ x ∧ x ≤ 100) (hS : -1000000000000 ≤ S ∧ S ≤ 1000000000000) :
    obnd (obnd (oite b (obnd (f15 a (-m) m) fun (y : Bool) => some y) (some false)) fun (r : Bool) => oite r (some (IntKind.i64.wrap (S + IntKind.i64.wrap (a * x)))) (some S)) k = k (S + oN b a m * x) := by
  have h := ch0 b a m
  have h' : (oite b (obnd (f15 a (-m) m) fun (y : Bool) => some y) (some false)) = some (decide (b = true ∧ -m ≤ a ∧ a ≤ m)) := by
    rw [← h]; cases (oite b (obnd (f15 a (-m) m) fun (y : Bool) => some y) (some false)) <;> rfl
  rw [h']
  simp only [obnd_s]
  unfold oN
  by_cases hc : b = true ∧ -m ≤ a ∧ a ≤ m
  · have hb := mulb (A := 1000) (T := 100) (a := a) (t := x) (by omega) hx
    rw [decide_eq_true hc, if_pos hc, oite_t, wr (n := a * x) (by omega) (by omega), wr (by omega) (by omega)]; rfl
  · rw [decide_eq_false hc, if_neg hc, oite_f, Int.zero_mul, Int.add_zero]; rfl
/-- Five numbers. -/
def n5 (a0 a1 a2 a3 a4 : Int) : Nat → Int
  | 0 => a0 | 1 => a1 | 2 => a2 | 3 => a3 | _ => a4
def oT (s : Int) (m a0 a1 a2 a3 a4 : Int) (t : Nat) : Int := oN (hasB s t) (n5 a0 a1 a2 a3 a4 t) m
theorem oT_out {s m a0 a1 a2 a3 a4 : Int} (t : Nat) (h : hasB s t = false) : oT s m a0 a1 a2 a3 a4 t = 0 := by
  unfold oT oN; rw [h]; rfl
/-- The readings with movements that are a sum of terms. -/
def exR (l : List Rd) (o : Nat → Int) (j : Nat) : Rd := ((gR l j).1, (gR l j).2.1, sumN 5 fun t => o t * tm (gR l j) t)
def exS (l : List Rd) (o : Nat → Int) (i : Nat) : List Rd := tab l.length fun q => if q < i then exR l o q else gR l q
theorem exS_get {l : List Rd} {o : Nat → Int} {i : Nat} (h : i < l.length) : (exS l o i)[i]? = some (gR l i) := by
  unfold exS; rw [tab_get h, if_neg (by omega)]
theorem exS_len {l : List Rd} {o : Nat → Int} {i : Nat} : (exS l o i).length = l.length := tab_len
theorem exS_s {l : List Rd} {o : Nat → Int} {i : Nat} : (exS l o i).set i (exR l o i) = exS l o (i + 1) := by
  unfold exS
  rw [tab_set]
  refine tab_congr fun q _ => ?_
  by_cases h : q = i
  · subst h; rw [if_pos rfl, if_pos (by omega)]
  · rw [if_neg h]
    by_cases h2 : q < i
    · rw [if_pos h2, if_pos (by omega)]
    · rw [if_neg h2, if_neg (by omega)]
theorem exS_0 {l : List Rd} {o : Nat → Int} : exS l o 0 = l := by
  unfold exS
  have := tab_of (l := l) (d := ((0 : Int), (0 : Int), (0 : Int)))
  exact (tab_congr fun i _ => by rw [if_neg (by omega)]; rfl).trans this.symm
theorem exS_gR {l : List Rd} {o : Nat → Int} {j : Nat} (h : j < l.length) : gR (exS l o l.length) j = exR l o j := by
  unfold gR
  rw [List.getD_eq_getElem?_getD]
  unfold exS; rw [tab_get h, if_pos h]; rfl
theorem tm_ex {l : List Rd} {o : Nat → Int} {j a : Nat} : tm (exR l o j) a = tm (gR l j) a := by
  unfold tm exR
  split <;> rfl
theorem spr_0 {f : Fit} {l : List Rd} (h : ∀ j, j < l.length → resid f (gR l j) = 0) : ∀ n, n ≤ l.length → spr f l n = 0
  | 0, _ => rfl
  | n + 1, hn => by
    simp only [spr, rr]
    rw [spr_0 h n (by omega), h n (by omega)]
    rw [show ((0 : Int) / f.d) = 0 from Int.zero_ediv _, show -(-(0 : Int) / f.d) = 0 by simp]
    unfold ab
    rw [wr (by omega) (by omega)]; rfl
theorem gc_one {D o0 o1 o2 o3 o4 : Int} : gc D (o0 * D) (o1 * D) (o2 * D) (o3 * D) (o4 * D) = D.natAbs := by
  unfold gc
  simp only [Int.natAbs_mul]
  rw [Nat.gcd_eq_left (Nat.dvd_mul_left _ _), Nat.gcd_eq_left (Nat.dvd_mul_left _ _), Nat.gcd_eq_left (Nat.dvd_mul_left _ _), Nat.gcd_eq_left (Nat.dvd_mul_left _ _), Nat.gcd_eq_left (Nat.dvd_mul_left _ _)]
theorem fitE_of {f : Fit} (h : f.ok) : fitE f.d f.p0 f.p1 f.p2 f.p3 f.p4 = 0 := by
  obtain ⟨⟨a, b⟩, ⟨c, d⟩, ⟨e, g⟩, ⟨i, j⟩, ⟨k, m⟩, n, p⟩ := h
  unfold fitE fitB p12
  rw [decide_eq_true a, decide_eq_true b, decide_eq_true c, decide_eq_true d, decide_eq_true e, decide_eq_true g, decide_eq_true i, decide_eq_true j, decide_eq_true k, decide_eq_true m, decide_eq_true n, decide_eq_true p]; rfl
/-- The fit of movements that are a sum of terms. -/
theorem f55_ex {l : List Rd} {s : Int} {o : Nat → Int} (hs : 1 ≤ s ∧ s ≤ 31) (hl : l.length ≤ 12) (hx : ∀ j, j < l.length → rdP (gR l j)) (hE : rdsE (exS l o l.length) = 0) (hD : 0 < dD l s) (ho : ∀ t, t < 5 → hasB s t = false → o t = 0) (hb : ∀ t, -10 ≤ o t ∧ o t ≤ 10) :
    f55 (exS l o l.length) s = some (1, o 0, o 1, o 2, o 3, o 4, 0) := by
  obtain ⟨hl', hx'⟩ := rds_0 hE
  rw [f55_e hl' hx' hE (f94_0 hs) (smallD hl' hx') fun k _ => smallO hl' hx' k]
  have hlen := exS_len (l := l) (o := o) (i := l.length)
  have ht : ∀ j a, j < l.length → tm (gR (exS l o l.length) j) a = tm (gR l j) a := fun j a hj => by rw [exS_gR hj, tm_ex]
  -- the same readings without movements
  let l0 : List Rd := tab l.length fun q => ((gR l q).1, (gR l q).2.1, 0)
  have hg0 : ∀ j, j < l.length → gR l0 j = ((gR l j).1, (gR l j).2.1, 0) := fun j hj => by
    show (tab l.length fun q => ((gR l q).1, (gR l q).2.1, (0 : Int))).getD j (0, 0, 0) = _
    rw [List.getD_eq_getElem?_getD, tab_get hj]; rfl
  have hlen0 : l0.length = l.length := tab_len
  have ht0 : ∀ j a, j < l.length → tm (gR l0 j) a = tm (gR l j) a := fun j a hj => by
    rw [hg0 j hj]; unfold tm; split <;> rfl
  have hx0 : ∀ j, j < l0.length → rdP (gR l0 j) := fun j hj => by
    rw [hlen0] at hj
    rw [hg0 j hj]
    have := hx j hj
    exact ⟨this.1, this.2.1, by show -2000 ≤ (0 : Int) ∧ (0 : Int) ≤ 2000; omega⟩
  have hP0 : ∀ t, t < 5 → PT l0 s t = 0 := by
    intro t h5
    cases hbt : hasB s t with
    | false => exact PT_out fun hm => by have := (chN_has.1 hm).2; rw [hbt] at this; cases this
    | true =>
      obtain ⟨i, hi, rfl⟩ : ∃ i, i < gN s ∧ chI s i = t := by
        have := chN_has.2 ⟨h5, hbt⟩
        obtain ⟨i, hi, e⟩ := List.getElem_of_mem this
        exact ⟨i, hi, by simp [chI, hi, e]⟩
      rw [PT_at hi, dO_w]
      have hr : rcol l0 s = fun _ => 0 := by
        funext i
        show rgt l0 (chI s i) l0.length = 0
        rw [rgt_sum, sumN_congr (G := fun _ => 0) fun j hj => by rw [hg0 j (by omega)]; simp, sumN_zero]
      unfold DK
      rw [hr]
      have hk' : i < (GC l0 s).length := by rw [GC_len]; exact hi
      have e2 := List.set_eq_take_append_cons_drop (l := GC l0 s) (i := i) (a := fun _ => 0)
      rw [if_pos hk'] at e2
      rw [e2, det_zero (by rw [List.length_take, List.length_drop, GC_len]; omega) fun _ => rfl]; rfl
  have hP : ∀ t, t < 5 → pS (exS l o l.length) s (gN s) t = o t * dD l s := by
    intro t h5
    have h1 := PT_same (l := l0) (l' := exS l o l.length) (s := s) (o := o) (by omega) hx0 hx' (by omega) (fun j a hj => by rw [ht j a (by omega), ht0 j a (by omega)]) ho (fun j hj => by
      rw [exS_gR (by omega), hg0 j (by omega)]
      show (sumN 5 fun t => o t * tm (gR l j) t) = 0 + _
      rw [Int.zero_add]
      exact sumN_congr fun t _ => by
        have := ht0 j t (by omega)
        rw [hg0 j (by omega)] at this
        rw [this]) h5
    rw [hP0 t h5, Int.zero_add, dD_same hlen0 ht0] at h1
    exact h1
  rw [hP 0 (by omega), hP 1 (by omega), hP 2 (by omega), hP 3 (by omega), hP 4 (by omega), dD_same hlen ht]
  unfold fitR
  rw [if_neg (by omega), gc_one]
  have e1 : ((dD l s).natAbs : Int) = dD l s := by omega
  rw [e1, Int.ediv_self (by omega), Int.mul_ediv_cancel _ (by omega), Int.mul_ediv_cancel _ (by omega), Int.mul_ediv_cancel _ (by omega), Int.mul_ediv_cancel _ (by omega), Int.mul_ediv_cancel _ (by omega)]
  have b0 := hb 0
  have b1 := hb 1
  have b2 := hb 2
  have b3 := hb 3
  have b4 := hb 4
  have hf : (Fit.mk 1 (o 0) (o 1) (o 2) (o 3) (o 4)).ok := ⟨by show (1 : Int) ≤ 1 ∧ (1 : Int) ≤ _; omega, by show -1000000000000 ≤ o 0 ∧ o 0 ≤ _; omega, by show -1000000000000 ≤ o 1 ∧ o 1 ≤ _; omega, by show -1000000000000 ≤ o 2 ∧ o 2 ≤ _; omega, by show -1000000000000 ≤ o 3 ∧ o 3 ≤ _; omega, by show -1000000000000 ≤ o 4 ∧ o 4 ≤ _; omega⟩
  rw [if_neg (by rw [show fitE 1 (o 0) (o 1) (o 2) (o 3) (o 4) = 0 from fitE_of hf]; simp)]
end
section
set_option linter.unusedSimpArgs false
set_option linter.unusedVariables false
open Go Go.RowKit

theorem hasB_0 (s : Int) : ieq (IntKind.i64.wrap (BitVec.ofInt (IntKind.bits .i64) (s.fdiv (2 ^ (min (0 : Int).toNat (IntKind.bits .i64)))) &&& BitVec.ofInt (IntKind.bits .i64) (1 : Int)).toNat) (1 : Int) = hasB s 0 := rfl
theorem hasB_1 (s : Int) : ieq (IntKind.i64.wrap (BitVec.ofInt (IntKind.bits .i64) (s.fdiv (2 ^ (min (1 : Int).toNat (IntKind.bits .i64)))) &&& BitVec.ofInt (IntKind.bits .i64) (1 : Int)).toNat) (1 : Int) = hasB s 1 := rfl
theorem hasB_2 (s : Int) : ieq (IntKind.i64.wrap (BitVec.ofInt (IntKind.bits .i64) (s.fdiv (2 ^ (min (2 : Int).toNat (IntKind.bits .i64)))) &&& BitVec.ofInt (IntKind.bits .i64) (1 : Int)).toNat) (1 : Int) = hasB s 2 := rfl
theorem hasB_3 (s : Int) : ieq (IntKind.i64.wrap (BitVec.ofInt (IntKind.bits .i64) (s.fdiv (2 ^ (min (3 : Int).toNat (IntKind.bits .i64)))) &&& BitVec.ofInt (IntKind.bits .i64) (1 : Int)).toNat) (1 : Int) = hasB s 3 := rfl
theorem hasB_4 (s : Int) : ieq (IntKind.i64.wrap (BitVec.ofInt (IntKind.bits .i64) (s.fdiv (2 ^ (min (4 : Int).toNat (IntKind.bits .i64)))) &&& BitVec.ofInt (IntKind.bits .i64) (1 : Int)).toNat) (1 : Int) = hasB s 4 := rfl
theorem f53s_e {l : List Rd} (hl : l.length ≤ 1000) : f53s l = some l := by
  unfold f53s; rw [fits_t (by omega) (by omega)]; rfl
/-- Other parts, if they are a fit, are not accepted, and their sum of squares is not smaller. -/
theorem other_no {l : List Rd} {s : Int} {f : Fit} {G : Nat} (h : isFit l s f G) (hl : l.length ≤ 12) (hx : ∀ j, j < l.length → rdP (gR l j)) (hD : dD l s ≠ 0) {o : Nat → Int} (ho : ∀ t, t < 5 → hasB s t = false → o t = 0) (hne : ¬ ∀ t, t < 5 → o t = 0) : ¬ ckP l s (f.add o) := by
  intro hc
  apply hne
  have hz : ∀ a, a < 5 → hasB s a = true → (sumN 5 fun t => gram l a t l.length * (if hasB s t then o t else 0)) = 0 := by
    intro a ha hb
    obtain ⟨i, hi, rfl⟩ : ∃ i, i < gN s ∧ chI s i = a := by
      have := chN_has.2 ⟨ha, hb⟩
      obtain ⟨i, hi, e⟩ := List.getElem_of_mem this
      exact ⟨i, hi, by simp [chI, hi, e]⟩
    have h1 := hc.2.2 i hi
    rw [ckS_add, h.zero hl hx ha hb] at h1
    have h2 : (sumN 5 fun t => gram l (chI s i) t l.length * (if hasB s t then o t else 0)) = sumN 5 fun t => gram l (chI s i) t l.length * o t := by
      refine sumN_congr fun t ht => ?_
      cases hbt : hasB s t with
      | true => simp
      | false => rw [ho t ht hbt]; simp
    rw [h2]; omega
  intro t ht
  cases hb : hasB s t with
  | false => exact ho t ht hb
  | true =>
    obtain ⟨i, hi, rfl⟩ : ∃ i, i < gN s ∧ chI s i = t := by
      have := chN_has.2 ⟨ht, hb⟩
      obtain ⟨i, hi, e⟩ := List.getElem_of_mem this
      exact ⟨i, hi, by simp [chI, hi, e]⟩
    exact unique0 hl hx hD hz hi
theorem isFit.ckP {l : List Rd} {s : Int} {f : Fit} {G : Nat} (h : isFit l s f G) (hl : l.length ≤ 12) (hx : ∀ j, j < l.length → rdP (gR l j)) : ckP l s f := ⟨h.out, h.one, fun k hk => by
  have hm : chI s k ∈ chN s := by unfold gN at hk; simp [chI, hk]
  exact h.zero hl hx (chN_has.1 hm).1 (chN_has.1 hm).2⟩
/-- The part of the law about other parts. -/
theorem part2 {l : List Rd} {s : Int} {f : Fit} {G : Nat} (h : isFit l s f G) (hE : rdsE l = 0) (hs : 1 ≤ s ∧ s ≤ 31) {o : Nat → Int} (ho : ∀ t, t < 5 → hasB s t = false → o t = 0) {p0 p1 p2 p3 p4 : Int} (e0 : f.p0 + o 0 = p0) (e1 : f.p1 + o 1 = p1) (e2 : f.p2 + o 2 = p2) (e3 : f.p3 + o 3 = p3) (e4 : f.p4 + o 4 = p4) :
    (obnd (
        oite ((!(true && (ieq p0 f.p0 && (ieq p1 f.p1 && (ieq p2 f.p2 && (ieq p3 f.p3 && ieq p4 f.p4))))))) (
         some (ieq (fitE f.d p0 p1 p2 p3 p4) (0 : Int))
          ) (
         some false
          )
         ) fun (r110 : Bool) =>
       oite r110 (
        obnd (f265 l s f.d p0 p1 p2 p3 p4) fun (y120 : Int × Int) =>
        obnd (
         oite ((!(ieq y120.2 (19 : Int)))) (
          some (!(ieq y120.2 (3 : Int)))
           ) (
          some false
           )
          ) fun (r122 : Bool) =>
        oite r122 (
         some (.inr (false))
          ) (
         obnd (f269 l f.d f.p0 f.p1 f.p2 f.p3 f.p4) fun (y128 : Int × (List Int)) =>
         obnd (f269 l f.d p0 p1 p2 p3 p4) fun (y130 : Int × (List Int)) =>
         obnd (f268 y128.1 y128.2 y130.1 y130.2) fun (y132 : Int) =>
         oite ((ilt (0 : Int) y132)) (
          some (.inr (false))
           ) (
          some (.inl () : Unit ⊕ Bool)
           )
          )
         ) (
        some (.inl ())
         )) = some (.inl ()) := by
  obtain ⟨hl, hx⟩ := rds_0 hE
  have hf : f.ok := fit_ok h.err
  have hD : dD l s ≠ 0 := by
    rw [h.d]
    have h1 := h.g0
    have h2 := hf.1.1
    intro hz
    rcases Int.mul_eq_zero.1 hz with h3 | h3 <;> omega
  cases hq : (!(true && (ieq p0 f.p0 && (ieq p1 f.p1 && (ieq p2 f.p2 && (ieq p3 f.p3 && ieq p4 f.p4)))))) with
  | false => rfl
  | true =>
    have hne : ¬ ∀ t, t < 5 → o t = 0 := by
      intro hz
      have z0 := hz 0 (by omega)
      have z1 := hz 1 (by omega)
      have z2 := hz 2 (by omega)
      have z3 := hz 3 (by omega)
      have z4 := hz 4 (by omega)
      rw [show p0 = f.p0 by omega, show p1 = f.p1 by omega, show p2 = f.p2 by omega, show p3 = f.p3 by omega, show p4 = f.p4 by omega] at hq
      simp [ieq_eq] at hq
    have hadd : f.add o = ⟨f.d, p0, p1, p2, p3, p4⟩ := by unfold Fit.add; rw [e0, e1, e2, e3, e4]
    rw [oite_t]
    simp only [obnd_s, ieq_eq]
    by_cases he : fitE f.d p0 p1 p2 p3 p4 = 0
    case neg => rw [decide_eq_false he]; rfl
    rw [decide_eq_true he, oite_t]
    have hok : (f.add o).ok := by rw [hadd]; exact fit_ok he
    obtain ⟨r, h1, h2⟩ := f265_e (l := l) (s := s) (f := f.add o) hE hs (by rw [hadd]; exact he)
    have h3 := (h2.resolve_left fun h3 => other_no h hl hx hD ho hne h3.2).1
    rw [hadd] at h1
    rw [show f265 l s f.d p0 p1 p2 p3 p4 = some r from h1]
    simp only [obnd_s]
    have hr : (oite (!decide (r.2 = 19)) (some (!decide (r.2 = 3))) (some false)) = some false := by
      rcases h3 with h3 | h3 <;> rw [h3] <;> rfl
    rw [hr]
    simp only [obnd_s, oite_f]
    obtain ⟨z1, g1, w1, l1⟩ := f269_e hf hl hx
    obtain ⟨z2, g2, w2, l2⟩ := f269_e hok hl hx
    rw [hadd] at g2
    rw [g1, show f269 l f.d p0 p1 p2 p3 p4 = some z2 from g2]
    simp only [obnd_s]
    obtain ⟨c, g3, hc⟩ := f268_e w1 w2 (by omega) (by omega)
    rw [g3]
    have hle := leastS (l := l) (f := f) (o := o) fun t ht => by
      cases hb : hasB s t with
      | false => rw [ho t ht hb]; omega
      | true => rw [h.zero hl hx ht hb]; omega
    have : c ≤ 0 := by unfold cmpP at hc; omega
    simp only [obnd_s]
    rw [ilt_f (by omega)]; rfl
set_option maxHeartbeats 1000000 in
theorem f264_true (l : List Rd) (s a0 a1 a2 a3 a4 : Int) : f264 l s a0 a1 a2 a3 a4 = some true := by
  unfold f264
  rw [show f10 = some true from rfl]
  simp only [obnd_s, Bool.not_true, oite_f]
  rw [f178_e]
  by_cases h14 : l.length ≤ 14
  case neg => rw [decide_eq_false (by omega)]; rfl
  rw [decide_eq_true (by omega), f51_e (by omega), f52_e]
  by_cases hE : rdsE l = 0
  case neg => simp only [obnd_s, Bool.not_true, oite_f, ieq_eq, decide_eq_false hE, Bool.not_false, oite_t]
  by_cases hs : 1 ≤ s ∧ s ≤ 31
  case neg =>
    have : (decide (1 ≤ s) && decide (s ≤ 31)) = false := by
      rw [Bool.and_eq_false_iff, decide_eq_false_iff_not, decide_eq_false_iff_not]; omega
    rw [this]
    simp only [obnd_s, Bool.not_true, oite_f, ieq_eq, decide_eq_true hE, cond_false]; rfl
  rw [decide_eq_true hs.1, decide_eq_true hs.2]
  obtain ⟨hl, hx⟩ := rds_0 hE
  simp only [obnd_s, Bool.not_true, oite_f, ieq_eq, decide_eq_true hE, Bool.and_true, cond_true, decide_true, f53_e (show l.length ≤ 1000 by omega)]
  rcases f55_is hE hs with ⟨h, _⟩ | ⟨h, _⟩ | ⟨f, G, hi, h⟩
  · rw [h]; rfl
  · rw [h]; rfl
  have hf : f.ok := fit_ok hi.err
  obtain ⟨r, g1, g2⟩ := f265_e (l := l) (s := s) (f := f) hE hs hi.err
  have g3 : r = (0, 0) := (g2.resolve_right fun g3 => g3.2 (hi.ckP hl hx)).1
  subst g3
  rw [h]
  simp only [obnd_s, decide_true, Bool.not_true, oite_f, g1, f180_e, hi.err]
  simp only [← ieq_eq, hasB_0, hasB_1, hasB_2, hasB_3, hasB_4]
  have hfo := hf
  obtain ⟨hd, q0, q1, q2, q3, q4⟩ := hfo
  rw [ch1 (p := f.p0) (m := 100) (by omega) q0, ch1 (p := f.p1) (m := 100) (by omega) q1, ch1 (p := f.p2) (m := 100) (by omega) q2, ch1 (p := f.p3) (m := 100) (by omega) q3, ch1 (p := f.p4) (m := 100) (by omega) q4]
  simp only [obnd_s]
  rw [part2 (o := oT s 100 a0 a1 a2 a3 a4) hi hE hs (fun t _ hb => oT_out t hb) (p0 := f.p0 + oN (hasB s 0) a0 100) (p1 := f.p1 + oN (hasB s 1) a1 100) (p2 := f.p2 + oN (hasB s 2) a2 100) (p3 := f.p3 + oN (hasB s 3) a3 100) (p4 := f.p4 + oN (hasB s 4) a4 100) rfl rfl rfl rfl rfl]
  simp only [obndS_l, f53s_e (show l.length ≤ 1000 by omega), obnd_s]
  have hoe : ∀ t, -10 ≤ oT s 10 a0 a1 a2 a3 a4 t ∧ oT s 10 a0 a1 a2 a3 a4 t ≤ 10 := fun t => oN_b (by omega)
  rw [oloop_all (fun i => ((i : Int), exS l (oT s 10 a0 a1 a2 a3 a4) i)) l.length (r := exS l (oT s 10 a0 a1 a2 a3 a4) l.length) (by rw [exS_0]; rfl) ?_ ?_]
  · simp only [obnd_s]
    rw [f51_e (by rw [exS_len]; omega)]
    by_cases hE' : rdsE (exS l (oT s 10 a0 a1 a2 a3 a4) l.length) = 0
    case neg => simp only [obnd_s, ieq_eq, decide_eq_false hE', Bool.not_false, oite_t]
    obtain ⟨hl', hx'⟩ := rds_0 hE'
    have hD : 0 < dD l s := by
      rw [hi.d]
      have h1 := hi.g0
      have h2 := hd.1
      exact Int.mul_pos (by omega) (by omega)
    simp only [obnd_s, ieq_eq, decide_eq_true hE', Bool.not_true, oite_f, f53_e (show (exS l (oT s 10 a0 a1 a2 a3 a4) l.length).length ≤ 1000 by omega), f55_ex hs hl hx hE' hD (fun t _ hb => oT_out t hb) hoe, decide_true, f180_e]
    have b0 := hoe 0
    have b1 := hoe 1
    have b2 := hoe 2
    have b3 := hoe 3
    have b4 := hoe 4
    generalize hO : oT s 10 a0 a1 a2 a3 a4 = o at *
    have hok : (Fit.mk 1 (o 0) (o 1) (o 2) (o 3) (o 4)).ok := ⟨by show (1 : Int) ≤ 1 ∧ (1 : Int) ≤ _; omega, by show -1000000000000 ≤ o 0 ∧ o 0 ≤ _; omega, by show -1000000000000 ≤ o 1 ∧ o 1 ≤ _; omega, by show -1000000000000 ≤ o 2 ∧ o 2 ≤ _; omega, by show -1000000000000 ≤ o 3 ∧ o 3 ≤ _; omega, by show -1000000000000 ≤ o 4 ∧ o 4 ≤ _; omega⟩
    have hfe := fitE_of hok
    have hfe' : fitE 1 (o 0) (o 1) (o 2) (o 3) (o 4) = 0 := hfe
    have he2 : e2 (rdsE (exS l o l.length)) (fitE 1 (o 0) (o 1) (o 2) (o 3) (o 4)) = 0 := by unfold e2; rw [if_pos hE']; exact hfe'
    have h57 := f57_ok (f := Fit.mk 1 (o 0) (o 1) (o 2) (o 3) (o 4)) (l := exS l o l.length) (by omega) he2 hok hx'
    have hsp := spr_0 (f := Fit.mk 1 (o 0) (o 1) (o 2) (o 3) (o 4)) (l := exS l o l.length) (fun j hj => by
      rw [exS_len] at hj
      rw [exS_gR hj]
      unfold resid
      rw [sm5]
      show 1 * (sumN 5 fun t => o t * tm (gR l j) t) - _ = 0
      rw [sumN_congr (n := 5) (F := fun t => (Fit.mk 1 (o 0) (o 1) (o 2) (o 3) (o 4)).p t * tm (exR l o j) t) (G := fun t => o t * tm (gR l j) t) fun t ht => by
        rw [tm_ex]
        match t, ht with
        | 0, _ => rfl
        | 1, _ => rfl
        | 2, _ => rfl
        | 3, _ => rfl
        | 4, _ => rfl]
      omega) _ (Nat.le_refl _)
    rw [hsp] at h57
    rw [hfe']
    simp only [decide_true, Bool.not_true]
    rw [show f57 (exS l o l.length) 1 (o 0) (o 1) (o 2) (o 3) (o 4) = some (0, 0) from h57]; rfl
  · intro i hil
    have hp := hx i hil
    have t1 := tmb hp 1
    have t2 := tmb hp 2
    have t3 := tmb hp 3
    have t4 := tmb hp 4
    have c0 := hoe 0
    have c1 := hoe 1
    have c2 := hoe 2
    have c3 := hoe 3
    have c4 := hoe 4
    have m1 := mulb c1 t1
    have m2 := mulb c2 t2
    have m3 := mulb c3 t3
    simp only [ilt_t (show (i : Int) < ((l.length : Nat) : Int) by omega), ile_t (show 0 ≤ (i : Int) by omega), oite_t, ogrd_t, Int.toNat_natCast, exS_get hil, obnd_s, f34_e hp, w_succ (show i < 1000000 by omega)]
    rw [ch2 (x := 1) (m := 10) (by omega) (by omega) (by omega)]
    rw [ch2 (x := (gR l i).2.1) (m := 10) (by omega) t1 (by show _ ≤ 0 + oT s 10 a0 a1 a2 a3 a4 0 * 1 ∧ 0 + oT s 10 a0 a1 a2 a3 a4 0 * 1 ≤ _; omega)]
    rw [ch2 (x := (sea (gR l i).1).1) (m := 10) (by omega) t2 (by show _ ≤ 0 + oT s 10 a0 a1 a2 a3 a4 0 * 1 + oT s 10 a0 a1 a2 a3 a4 1 * tm (gR l i) 1 ∧ 0 + oT s 10 a0 a1 a2 a3 a4 0 * 1 + oT s 10 a0 a1 a2 a3 a4 1 * tm (gR l i) 1 ≤ _; omega)]
    rw [ch2 (x := (sea (gR l i).1).2) (m := 10) (by omega) t3 (by show _ ≤ 0 + oT s 10 a0 a1 a2 a3 a4 0 * 1 + oT s 10 a0 a1 a2 a3 a4 1 * tm (gR l i) 1 + oT s 10 a0 a1 a2 a3 a4 2 * tm (gR l i) 2 ∧ 0 + oT s 10 a0 a1 a2 a3 a4 0 * 1 + oT s 10 a0 a1 a2 a3 a4 1 * tm (gR l i) 1 + oT s 10 a0 a1 a2 a3 a4 2 * tm (gR l i) 2 ≤ _; omega)]
    rw [ch2 (x := (gR l i).1 / 360) (m := 10) (by omega) t4 (by show _ ≤ 0 + oT s 10 a0 a1 a2 a3 a4 0 * 1 + oT s 10 a0 a1 a2 a3 a4 1 * tm (gR l i) 1 + oT s 10 a0 a1 a2 a3 a4 2 * tm (gR l i) 2 + oT s 10 a0 a1 a2 a3 a4 3 * tm (gR l i) 3 ∧ 0 + oT s 10 a0 a1 a2 a3 a4 0 * 1 + oT s 10 a0 a1 a2 a3 a4 1 * tm (gR l i) 1 + oT s 10 a0 a1 a2 a3 a4 2 * tm (gR l i) 2 + oT s 10 a0 a1 a2 a3 a4 3 * tm (gR l i) 3 ≤ _; omega)]
    simp only [obnd_s]
    show some (Sum.inl (((i + 1 : Nat) : Int), (exS l (oT s 10 a0 a1 a2 a3 a4) i).set i (exR l (oT s 10 a0 a1 a2 a3 a4) i))) = _
    rw [exS_s]
  · simp only [ilt_f (Int.le_refl ((l.length : Nat) : Int)), oite_f, exS_len, beq_t rfl, ogrd_t]; rfl
end
end Go.Proofs.YtacgibkgojnfeaaGreat.AM
