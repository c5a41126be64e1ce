/- Plain laws: Solve: the only solution, or a sign that there is not just one. Conditions: none. -/
import Derived.Test.YtgfglinlmnbjbaaGreatAmD0
import Derived.Test.YtgfglinlmnbjbaaGreatAmLf
import Derived.Test.YtgfglinlmnbjbaaGreatAmP0
namespace Go.Proofs.YtgfglinlmnbjbaaGreat.AM
section
set_option linter.unusedSimpArgs false
set_option linter.unusedVariables false
open Go Go.RowKit
def dv : List Int → Int
 | [] => 0
 | d :: t => d + 1000000000 * dv t
def dig (l : List Int) : Prop := ∀ d, d ∈ l → 0 ≤ d ∧ d < 1000000000
theorem dig_nil : dig [] := fun d h => by cases h
theorem dig_cons {d : Int} {t : List Int} (h : dig (d :: t)) : (0 ≤ d ∧ d < 1000000000) ∧ dig t := ⟨h d List.mem_cons_self, fun x hx => h x (List.mem_cons_of_mem _ hx)⟩
theorem dig_app {a b : List Int} (h : dig a) (k : dig b) : dig (a ++ b) := fun d hd => by
 rcases List.mem_append.1 hd with hd | hd
 · exact h d hd
 · exact k d hd
theorem dig_one {d : Int} (h : 0 ≤ d ∧ d < 1000000000) : dig [d] := fun x hx => by
 simp at hx; subst hx; exact h
theorem dig_take {l : List Int} {n : Nat} (h : dig l) : dig (l.take n) := fun d hd => h d (List.mem_of_mem_take hd)
theorem dig_get {l : List Int} {i : Nat} (h : dig l) (hi : i < l.length) : 0 ≤ l[i] ∧ l[i] < 1000000000 := h _ (List.getElem_mem hi)
theorem dig_set {l : List Int} {i : Nat} {x : Int} (h : dig l) (hx : 0 ≤ x ∧ x < 1000000000) : dig (l.set i x) := fun d hd => by
 rcases List.mem_or_eq_of_mem_set hd with hd | rfl
 · exact h d hd
 · exact hx
theorem dv_nn : ∀ {l : List Int}, dig l → 0 ≤ dv l
  | [], _ => Int.le_refl _
  | d :: t, h => by
    have ⟨h1, h2⟩ := dig_cons h
    have := dv_nn h2
    simp only [dv]; omega
theorem pw_pos (n : Nat) : (0 : Int) < 1000000000 ^ n := Int.pow_pos (by omega)
theorem pw_s (n : Nat) : (1000000000 : Int) ^ (n + 1) = 1000000000 * 1000000000 ^ n := by rw [Int.pow_succ, Int.mul_comm]
theorem pw_mono {m n : Nat} (h : m ≤ n) : (1000000000 : Int) ^ m ≤ 1000000000 ^ n := by
 obtain ⟨k, rfl⟩ : ∃ k, n = m + k := ⟨n - m, by omega⟩
 rw [Int.pow_add]
 have h1 := pw_pos m
 have h2 := Int.mul_le_mul_of_nonneg_left (show (1 : Int) ≤ 1000000000 ^ k by have := pw_pos k; omega) (Int.le_of_lt h1)
 omega
theorem dv_lt : ∀ {l : List Int}, dig l → dv l < 1000000000 ^ l.length
  | [], _ => by simp [dv]
  | d :: t, h => by
    have ⟨h1, h2⟩ := dig_cons h
    have := dv_lt h2
    rw [List.length_cons, pw_s]
    simp only [dv]; omega
theorem dv_app : ∀ {a b : List Int}, dv (a ++ b) = dv a + 1000000000 ^ a.length * dv b
  | [], b => by simp [dv]
  | d :: t, b => by
    rw [List.cons_append, List.length_cons, pw_s]
    simp only [dv]
    rw [dv_app]; grind
theorem dv_set : ∀ {l : List Int} {j : Nat} {x : Int} (hj : j < l.length), dv (l.set j x) = dv l + 1000000000 ^ j * (x - l[j])
  | [], j, x, hj => by simp at hj
  | d :: t, 0, x, hj => by simp [dv]; omega
  | d :: t, j + 1, x, hj => by
    simp only [List.set_cons_succ, dv, List.getElem_cons_succ]
    rw [dv_set (by simpa using hj), pw_s]; grind
theorem dv_zero : ∀ {l : List Int}, (∀ j, j < l.length → l.getD j 0 = 0) → dv l = 0
  | [], _ => rfl
  | d :: t, h => by
    have h0 := h 0 (by simp)
    simp at h0
    simp only [dv]
    rw [dv_zero (l := t) fun j hj => by simpa using h (j + 1) (by simpa using hj), h0]; rfl
theorem dv_take {l : List Int} {k : Nat} (hk : k < l.length) : dv (l.take (k + 1)) = dv (l.take k) + 1000000000 ^ k * l[k] := by
 rw [List.take_succ_eq_append_getElem hk, dv_app, List.length_take, Nat.min_eq_left (by omega)]
 simp [dv]
theorem dv_rep (n : Nat) : dv (List.replicate n 0) = 0 := dv_zero fun j hj => by
 rw [List.length_replicate] at hj
 simp [hj]
theorem dig_rep (n : Nat) : dig (List.replicate n 0) := fun d hd => by
 have := (List.mem_replicate.1 hd).2
 omega
def trm (l : List Int) : Prop := l = [] ∨ l.getD (l.length - 1) 0 ≠ 0
theorem dv_pos {l : List Int} (h : dig l) (ht : trm l) (hn : l ≠ []) : 1000000000 ^ (l.length - 1) ≤ dv l := by
 have ht := ht.resolve_left hn
 have hl : 0 < l.length := List.length_pos_iff.2 hn
 have e : l = l.take (l.length - 1) ++ [l[l.length - 1]'(by omega)] := by
  rw [← List.take_succ_eq_append_getElem, List.take_of_length_le (by omega)]
 have hd := dig_get h (i := l.length - 1) (by omega)
 simp [show l.length - 1 < l.length by omega] at ht
 have h1 := dv_nn (dig_take (n := l.length - 1) h)
 have h2 : dv l = dv (l.take (l.length - 1)) + 1000000000 ^ (l.length - 1) * l[l.length - 1] := by
  have := congrArg dv e
  rw [dv_app, List.length_take, Nat.min_eq_left (by omega)] at this
  simpa [dv] using this
 have h3 := Int.mul_le_mul_of_nonneg_left (show (1 : Int) ≤ l[l.length - 1] by omega) (Int.le_of_lt (pw_pos (l.length - 1)))
 omega
theorem f295_e {l : List Int} (hl : l.length ≤ 1000000) : ∃ r, f295 l = some r ∧ (∃ n, n ≤ l.length ∧ r = l.take n ∧ (∀ j, n ≤ j → j < l.length → l.getD j 0 = 0) ∧ (n = 0 ∨ l.getD (n - 1) 0 ≠ 0)) := by
 unfold f295
 refine obnd_ex (R := fun e => ∃ n : Nat, e = (n : Int) ∧ n ≤ l.length ∧ (∀ j, n ≤ j → j < l.length → l.getD j 0 = 0) ∧ (n = 0 ∨ l.getD (n - 1) 0 ≠ 0)) (oloop_ex (fun i e => e = ((l.length - i : Nat) : Int) ∧ ∀ j, l.length - i ≤ j → j < l.length → l.getD j 0 = 0) l.length ⟨by simp, fun j h1 h2 => by omega⟩ ?_ ?_) ?_
 · rintro i _ hi ⟨rfl, hz⟩
   have h1 : l.length - (i + 1) < l.length := by omega
   have e1 : IntKind.i64.wrap (((l.length - i : Nat) : Int) - 1) = ((l.length - (i + 1) : Nat) : Int) := by rw [wr (by omega) (by omega)]; omega
   simp only [ilt_t (show (0 : Int) < ((l.length - i : Nat) : Int) by omega), oite_t, e1, ile_t (show (0 : Int) ≤ ((l.length - (i + 1) : Nat) : Int) by omega), ogrd_t, Int.toNat_natCast, get_i h1, obnd_s, ieq_eq]
   by_cases h0 : l[l.length - (i + 1)] = 0
   · rw [decide_eq_true h0, oite_t]
     refine .inl ⟨_, rfl, rfl, fun j h2 h3 => ?_⟩
     by_cases hj : j = l.length - (i + 1)
     · subst hj; simp [h1, h0]
     · exact hz j (by omega) h3
   · rw [decide_eq_false h0, oite_f]
     refine .inr ⟨_, rfl, l.length - i, rfl, by omega, hz, .inr ?_⟩
     rw [show l.length - i - 1 = l.length - (i + 1) by omega]
     simp [h1, h0]
 · rintro _ ⟨rfl, hz⟩
   rw [Nat.sub_self] at hz ⊢
   simp only [ilt_f (show ((0 : Nat) : Int) ≤ 0 by omega), oite_f]
   exact ⟨_, rfl, 0, rfl, by omega, hz, .inl rfl⟩
 · rintro e ⟨n, rfl, hn, hz, h0⟩
   have : oslH l (n : Int) = some (l.take n) := by
     unfold oslH
     rw [if_pos ⟨by omega, by omega⟩]; rfl
   rw [this]
   exact ⟨_, rfl, n, hn, rfl, hz, h0⟩
structure WD (s : Int) (l : List Int) (v : Int) : Prop where
 dg : dig l
 tr : trm l
 vl : v = s * dv l
 sg : s = 0 ∧ l = [] ∨ (s = 1 ∨ s = -1) ∧ l ≠ []
theorem WD.pos {s v : Int} {l : List Int} (h : WD s l v) : s = 0 ∧ v = 0 ∨ s = 1 ∧ 0 < v ∨ s = -1 ∧ v < 0 := by
 rcases h.sg with ⟨rfl, rfl⟩ | ⟨h1, h2⟩
 · exact .inl ⟨rfl, by rw [h.vl]; simp⟩
 · have h3 := dv_pos h.dg h.tr h2
   have h4 := pw_pos (l.length - 1)
   have := h.vl
   rcases h1 with rfl | rfl
   · exact .inr (.inl ⟨rfl, by omega⟩)
   · exact .inr (.inr ⟨rfl, by omega⟩)
theorem WD.len {s v : Int} {l : List Int} {n : Nat} (h : WD s l v) (h1 : -(1000000000 ^ n) < v) (h2 : v < 1000000000 ^ n) : l.length ≤ n := by
 rcases h.sg with ⟨rfl, rfl⟩ | ⟨h3, h4⟩
 · simp
 · have h5 := dv_pos h.dg h.tr h4
   have hl : 0 < l.length := List.length_pos_iff.2 h4
   rcases Nat.lt_or_ge n l.length with hn | hn
   · have h6 : (1000000000 : Int) ^ n ≤ 1000000000 ^ (l.length - 1) := pw_mono (by omega)
     have := h.vl
     rcases h3 with rfl | rfl <;> omega
   · exact hn
theorem f285_e {s : Int} {l : List Int} (hl : l.length ≤ 1000000) (hd : dig l) (hs : s = 1 ∨ s = -1 ∨ s = 0 ∧ dv l = 0) : ∃ s' l', f285 s l = some (s', l') ∧ WD s' l' (s * dv l) := by
 unfold f285
 obtain ⟨_, h1, n, hn, rfl, hz, h0⟩ := f295_e hl
 rw [h1]
 have hlen : (l.take n).length = n := by rw [List.length_take]; omega
 have hv : dv l = dv (l.take n) := by
   have := dv_app (a := l.take n) (b := l.drop n)
   rw [List.take_append_drop] at this
   rw [this, dv_zero (l := l.drop n) fun j hj => by
     rw [List.length_drop] at hj
     have := hz (n + j) (by omega) (by omega)
     simpa [List.getD_eq_getElem?_getD] using this]
   omega
 have ht : trm (l.take n) := by
   rcases h0 with rfl | h0
   · exact .inl (by simp)
   · refine .inr ?_
     rw [hlen, List.getD_eq_getElem?_getD, List.getElem?_take]
     rw [List.getD_eq_getElem?_getD] at h0
     rcases Nat.eq_zero_or_pos n with hz0 | hz0
     · exfalso
       subst hz0
       rcases Nat.eq_zero_or_pos l.length with hq | hq
       · simp [show l = [] from List.length_eq_zero_iff.1 hq] at h0
       · exact h0 (by have := hz 0 (by omega) hq; simpa [List.getD_eq_getElem?_getD] using this)
     · rw [if_pos (by omega)]; exact h0
 simp only [obnd_s, List.length_map, hlen, ieq_eq]
 by_cases hn0 : n = 0
 · subst hn0
   rw [decide_eq_true (by omega), oite_t]
   refine ⟨0, [], by simp [obnd_s], dig_nil, .inl rfl, ?_, .inl ⟨rfl, rfl⟩⟩
   rw [hv]; simp [dv]
 · rw [decide_eq_false (by omega), oite_f]
   refine ⟨s, l.take n, rfl, dig_take hd, ht, by rw [hv], .inr ⟨?_, ?_⟩⟩
   · rcases hs with h | h | ⟨h, h2⟩
     · exact .inl h
     · exact .inr h
     · have hp := dv_pos (dig_take (n := n) hd) ht (by intro e; rw [e] at hlen; simp at hlen; omega)
       have := pw_pos ((l.take n).length - 1)
       omega
   · intro e; rw [e] at hlen; simp at hlen; omega
end
section
set_option linter.unusedSimpArgs false
set_option linter.unusedVariables false
open Go Go.RowKit
theorem tmod_nn {a : Int} (h : 0 ≤ a) : a.tmod 1000000000 = a % 1000000000 := Int.tmod_eq_emod_of_nonneg h
theorem tdiv_nn {a : Int} (h : 0 ≤ a) : a.tdiv 1000000000 = a / 1000000000 := Int.tdiv_eq_ediv_of_nonneg h
theorem imax_s {a : Int} (h : -9223372036854775807 ≤ a ∧ a ≤ 9223372036854775807) : imax a (IntKind.i64.wrap (0 - a)) = (a.natAbs : Int) := by
 rw [imax_e, wr (by omega) (by omega)]; omega
theorem natAbs_mod (a : Int) : ((a.tmod 1000000000).natAbs : Int) = (a.natAbs : Int) % 1000000000 := by
 rw [Int.natAbs_tmod, show (1000000000 : Int).natAbs = 1000000000 from rfl]; omega
theorem natAbs_div (a : Int) : ((a.tdiv 1000000000).natAbs : Int) = (a.natAbs : Int) / 1000000000 := by
 rw [Int.natAbs_tdiv, show (1000000000 : Int).natAbs = 1000000000 from rfl]; exact Int.natCast_ediv ..
theorem f273_e {n : Int} (h : -9223372036854775807 ≤ n ∧ n ≤ 9223372036854775807) : ∃ z, f273 n = some z ∧ WD z.1 z.2 n := by
 unfold f273
 refine obnd_ex (R := fun s => s = 1 ∧ 0 ≤ n ∨ s = -1 ∧ n < 0) ?_ fun s hs => ?_
 · by_cases h0 : n < 0
   · rw [ilt_t h0, oite_t]; exact ⟨_, rfl, .inr ⟨rfl, h0⟩⟩
   · rw [ilt_f (by omega), oite_f]; exact ⟨_, rfl, .inl ⟨rfl, by omega⟩⟩
 refine obnd_ex (R := fun l => dig l ∧ l.length ≤ 3 ∧ dv l = (n.natAbs : Int)) (oloop_ex (fun i e => dig e.2 ∧ e.2.length = i ∧ (n.natAbs : Int) = dv e.2 + 1000000000 ^ i * (e.1.natAbs : Int)) 3 ⟨dig_nil, rfl, by simp [dv]⟩ ?_ ?_) ?_
 · rintro i ⟨m, l⟩ hi ⟨hd, hl, hv⟩
   have hd : dig l := hd
   have hl : l.length = i := hl
   have hv : (n.natAbs : Int) = dv l + 1000000000 ^ i * (m.natAbs : Int) := hv
   have hp := pw_pos i
   have hdn := dv_nn hd
   simp only [ieq_eq]
   by_cases h0 : m = 0
   · subst h0
     rw [decide_eq_true rfl]
     exact .inr ⟨_, rfl, hd, by omega, by simp at hv; omega⟩
   · rw [decide_eq_false h0, Bool.not_false, oite_t]
     have hm : (m.natAbs : Int) ≤ (n.natAbs : Int) := by
      have := Int.mul_le_mul_of_nonneg_right (show (1 : Int) ≤ 1000000000 ^ i by omega) (show (0 : Int) ≤ (m.natAbs : Int) by omega)
      omega
     have hq := natAbs_mod m
     have hdv := natAbs_div m
     unfold f109
     rw [imax_s (by omega), obnd_s, ogrd_fits (by simp; omega) (by simp; omega), wr (by omega) (by omega), natAbs_mod]
     refine .inl ⟨_, rfl, dig_app hd (dig_one (by omega)), by simp [hl], ?_⟩
     show (n.natAbs : Int) = dv (l ++ [(m.natAbs : Int) % 1000000000]) + 1000000000 ^ (i + 1) * ((m.tdiv 1000000000).natAbs : Int)
     rw [dv_app, hl, hdv, pw_s, hv]
     simp only [dv]
     have := Int.emod_add_mul_ediv (m.natAbs : Int) 1000000000
     grind
 · rintro ⟨m, l⟩ ⟨hd, hl, hv⟩
   have hd : dig l := hd
   have hl : l.length = 3 := hl
   have hv : (n.natAbs : Int) = dv l + 1000000000 ^ 3 * (m.natAbs : Int) := hv
   have hdn := dv_nn hd
   have h0 : m = 0 := by omega
   subst h0
   exact ⟨_, rfl, hd, by omega, by simp at hv; omega⟩
 · rintro l ⟨hd, hl, hv⟩
   obtain ⟨s', l', h1, h2⟩ := f285_e (s := s) (l := l) (by omega) hd (by rcases hs with ⟨h, _⟩ | ⟨h, _⟩ <;> simp [h])
   rw [h1]
   refine ⟨_, rfl, ?_⟩
   have : s * dv l = n := by rw [hv]; rcases hs with ⟨rfl, h⟩ | ⟨rfl, h⟩ <;> omega
   rw [this] at h2; exact h2
def dg0 (l : List Int) (i : Nat) : Int := l.getD i 0
theorem dg0_b {l : List Int} (h : dig l) (i : Nat) : 0 ≤ dg0 l i ∧ dg0 l i < 1000000000 := by
 unfold dg0
 by_cases hi : i < l.length
 · have := dig_get h hi; simpa [hi] using this
 · simp [show l.length ≤ i by omega]
theorem f297_e {l : List Int} {i : Nat} : f297 l (i : Int) = some (dg0 l i) := by
 unfold f297 dg0
 simp only [List.length_map]
 by_cases hi : i < l.length
 · rw [ilt_t (by omega), oite_t, ile_t (by omega), ogrd_t, Int.toNat_natCast, get_i hi]
   simp [obnd_s, hi]
 · rw [ilt_f (by omega), oite_f]
   simp [show l.length ≤ i by omega]
theorem dv_take0 {l : List Int} (k : Nat) : dv (l.take (k + 1)) = dv (l.take k) + 1000000000 ^ k * dg0 l k := by
 by_cases hk : k < l.length
 · rw [dv_take hk]; simp [dg0, hk]
 · rw [List.take_of_length_le (by omega), List.take_of_length_le (by omega)]
   simp [dg0, show l.length ≤ k by omega]
theorem f290_e {a b : List Int} (ha : dig a) (hb : dig b) (hl : a.length ≤ 500000) (hk : b.length ≤ 500000) : ∃ l, f290 a b = some l ∧ dig l ∧ dv l = dv a + dv b ∧ l.length ≤ a.length + b.length + 1 := by
 unfold f290
 refine obnd_ex (R := fun l => dig l ∧ dv l = dv a + dv b ∧ l.length ≤ a.length + b.length + 1) (oloop_ex (fun i e => e.2.2 = (i : Int) ∧ dig e.1 ∧ e.1.length = i ∧ (0 ≤ e.2.1 ∧ e.2.1 ≤ 1) ∧ dv e.1 + 1000000000 ^ i * e.2.1 = dv (a.take i) + dv (b.take i) ∧ (max a.length b.length < i → e.2.1 = 0)) (max a.length b.length + 1) ⟨rfl, dig_nil, rfl, by simp, by simp [dv], fun h => by omega⟩ ?_ ?_) fun l h => ⟨l, rfl, h⟩
 · rintro i ⟨l, c, j⟩ hi ⟨hj, hd, hn, hc, hv, h0⟩
   have hj : j = (i : Int) := hj
   subst hj
   have hd : dig l := hd
   have hn : l.length = i := hn
   have hc : 0 ≤ c ∧ c ≤ 1 := hc
   have hv : dv l + 1000000000 ^ i * c = dv (a.take i) + dv (b.take i) := hv
   have hx := dg0_b ha i
   have hy := dg0_b hb i
   by_cases hgo : i < a.length ∨ i < b.length ∨ 0 < c
   · have hin : ∃ r, (obnd (obnd (oite (ilt (i : Int) ((a.map eI).length : Int)) (some true) (some (ilt (i : Int) ((b.map eI).length : Int)))) fun r12 => oite r12 (some (.inl () : Unit ⊕ ((List Int × Int × Int) ⊕ List Int))) (oite (ilt 0 c) (some (.inl ())) (some (.inr (.inr l))))) fun r => some r) = some (.inl ()) ∧ r = () := by
       refine ⟨(), ?_, rfl⟩
       simp only [List.length_map]
       by_cases h1 : i < a.length
       · rw [ilt_t (by omega), oite_t]; rfl
       · rw [ilt_f (by omega), oite_f]
         by_cases h2 : i < b.length
         · rw [ilt_t (by omega)]; rfl
         · rw [ilt_f (by omega), ilt_t (show (0 : Int) < c by omega)]; rfl
     have hin2 : (obnd (oite (ilt (i : Int) ((a.map eI).length : Int)) (some true) (some (ilt (i : Int) ((b.map eI).length : Int)))) fun r12 => oite r12 (some (.inl () : Unit ⊕ ((List Int × Int × Int) ⊕ List Int))) (oite (ilt 0 c) (some (.inl ())) (some (.inr (.inr l))))) = some (.inl ()) := by
       obtain ⟨_, h, _⟩ := hin
       revert h
       generalize (obnd (oite (ilt (i : Int) ((a.map eI).length : Int)) (some true) (some (ilt (i : Int) ((b.map eI).length : Int)))) fun r12 => oite r12 (some (.inl () : Unit ⊕ ((List Int × Int × Int) ⊕ List Int))) (oite (ilt 0 c) (some (.inl ())) (some (.inr (.inr l))))) = q
       cases q with
       | none => intro h; cases h
       | some q => intro h; exact h
     refine .inl ?_
     simp only [hin2, obndS_l, f297_e, obnd_s]
     rw [wr (n := dg0 a i + dg0 b i) (by omega) (by omega), wr (n := dg0 a i + dg0 b i + c) (by omega) (by omega), tmod_nn (by omega), tdiv_nn (by omega), wr (n := (dg0 a i + dg0 b i + c) / 1000000000) (by omega) (by omega), w_succ (by omega), ogrd_fits (by simp; omega) (by simp; omega)]
     refine ⟨_, rfl, rfl, dig_app hd (dig_one (by omega)), by simp [hn], ⟨by show 0 ≤ _ / _; omega, by show _ / _ ≤ (1 : Int); omega⟩, ?_, fun hm => by
       show (dg0 a i + dg0 b i + c) / 1000000000 = 0
       have : dg0 a i = 0 := by simp [dg0, show a.length ≤ i by omega]
       have : dg0 b i = 0 := by simp [dg0, show b.length ≤ i by omega]
       omega⟩
     show dv (l ++ [(dg0 a i + dg0 b i + c) % 1000000000]) + 1000000000 ^ (i + 1) * ((dg0 a i + dg0 b i + c) / 1000000000) = dv (a.take (i + 1)) + dv (b.take (i + 1))
     rw [dv_take0, dv_take0, dv_app, hn, pw_s]
     simp only [dv]
     have := Int.emod_add_mul_ediv (dg0 a i + dg0 b i + c) 1000000000
     grind
   · have c0 : c = 0 := by omega
     subst c0
     refine .inr ⟨l, ?_, hd, ?_, ?_⟩
     · simp only [List.length_map]
       rw [ilt_f (show ((a.length : Nat) : Int) ≤ (i : Int) by omega), ilt_f (show ((b.length : Nat) : Int) ≤ (i : Int) by omega)]; rfl
     · rw [List.take_of_length_le (by omega), List.take_of_length_le (by omega)] at hv
       omega
     · omega
 · rintro ⟨l, c, j⟩ ⟨hj, hd, hn, hc, hv, h0⟩
   have hj : j = ((max a.length b.length + 1 : Nat) : Int) := hj
   have hn : l.length = max a.length b.length + 1 := hn
   have c0 : c = 0 := h0 (by omega)
   subst c0
   have hv : dv l + 1000000000 ^ (max a.length b.length + 1) * 0 = dv (a.take (max a.length b.length + 1)) + dv (b.take (max a.length b.length + 1)) := hv
   refine ⟨l, ?_, hd, ?_, ?_⟩
   · subst hj
     simp only [List.length_map]
     rw [ilt_f (show ((a.length : Nat) : Int) ≤ ((max a.length b.length + 1 : Nat) : Int) by omega), ilt_f (show ((b.length : Nat) : Int) ≤ ((max a.length b.length + 1 : Nat) : Int) by omega)]; rfl
   · rw [List.take_of_length_le (by omega), List.take_of_length_le (by omega)] at hv
     omega
   · omega
end
section
set_option linter.unusedSimpArgs false
set_option linter.unusedVariables false
open Go Go.RowKit
theorem dv_split {l : List Int} (k : Nat) : dv l = dv (l.take k) + 1000000000 ^ (l.take k).length * dv (l.drop k) := by
 rw [← dv_app, List.take_append_drop]
theorem f292_e {a b : List Int} (ha : dig a) (hb : dig b) (hl : a.length ≤ 500000) (hk : b.length ≤ a.length) (hv : dv b ≤ dv a) : ∃ l, f292 a b = some l ∧ dig l ∧ trm l ∧ dv l = dv a - dv b ∧ l.length ≤ a.length := by
 unfold f292
 refine obnd_ex (R := fun l => dig l ∧ l.length = a.length ∧ dv l = dv a - dv b) (oloop_ex (fun i e => e.2.2 = (i : Int) ∧ dig e.1 ∧ e.1.length = i ∧ (e.2.1 = 0 ∨ e.2.1 = 1) ∧ dv e.1 - 1000000000 ^ i * e.2.1 = dv (a.take i) - dv (b.take i)) a.length ⟨rfl, dig_nil, rfl, .inl rfl, by simp [dv]⟩ ?_ ?_) ?_
 · rintro i ⟨l, c, j⟩ hi ⟨hj, hd, hn, hc, hw⟩
   have hj : j = (i : Int) := hj
   subst hj
   have hd : dig l := hd
   have hn : l.length = i := hn
   have hc : c = 0 ∨ c = 1 := hc
   have hw : dv l - 1000000000 ^ i * c = dv (a.take i) - dv (b.take i) := hw
   have hx := dig_get ha hi
   have hy := dg0_b hb i
   simp only [List.length_map]
   rw [ilt_t (by omega), oite_t, ile_t (by omega), ogrd_t, Int.toNat_natCast, get_i hi]
   simp only [obnd_s, f297_e]
   rw [wr (n := a[i] - dg0 b i) (by omega) (by omega), wr (n := a[i] - dg0 b i - c) (by omega) (by omega)]
   by_cases h0 : a[i] - dg0 b i - c < 0
   · rw [ilt_t h0, oite_t, wr (n := a[i] - dg0 b i - c + 1000000000) (by omega) (by omega)]
     simp only [obnd_s]
     rw [w_succ (by omega), ogrd_fits (by simp; omega) (by simp; omega)]
     refine .inl ⟨_, rfl, rfl, dig_app hd (dig_one (by omega)), by simp [hn], .inr rfl, ?_⟩
     show dv (l ++ [a[i] - dg0 b i - c + 1000000000]) - 1000000000 ^ (i + 1) * 1 = dv (a.take (i + 1)) - dv (b.take (i + 1))
     rw [dv_take hi, dv_take0, dv_app, hn, pw_s]
     simp only [dv]; grind
   · rw [ilt_f (by omega), oite_f]
     simp only [obnd_s]
     rw [w_succ (by omega), ogrd_fits (by simp; omega) (by simp; omega)]
     refine .inl ⟨_, rfl, rfl, dig_app hd (dig_one (by omega)), by simp [hn], .inl rfl, ?_⟩
     show dv (l ++ [a[i] - dg0 b i - c]) - 1000000000 ^ (i + 1) * 0 = dv (a.take (i + 1)) - dv (b.take (i + 1))
     rw [dv_take hi, dv_take0, dv_app, hn, pw_s]
     simp only [dv]; grind
 · rintro ⟨l, c, j⟩ ⟨hj, hd, hn, hc, hw⟩
   have hj : j = ((a.length : Nat) : Int) := hj
   have hn : l.length = a.length := hn
   have hc : c = 0 ∨ c = 1 := hc
   have hw : dv l - 1000000000 ^ a.length * c = dv (a.take a.length) - dv (b.take a.length) := hw
   rw [List.take_length, List.take_of_length_le hk] at hw
   subst hj
   refine ⟨l, ?_, hd, hn, ?_⟩
   · simp only [List.length_map]
     rw [ilt_f (Int.le_refl _), oite_f]
   · have h1 : dv l < 1000000000 ^ l.length := dv_lt hd
     rw [hn] at h1
     have h2 := pw_pos a.length
     rcases hc with rfl | rfl <;> omega
 · rintro l ⟨hd, hn, hw⟩
   obtain ⟨_, h1, n, h2, rfl, hz, h0⟩ := f295_e (l := l) (by omega)
   rw [h1]
   have hlen : (l.take n).length = n := by rw [List.length_take]; omega
   have hv : dv l = dv (l.take n) := by
     rw [dv_split n (l := l), dv_zero (l := l.drop n) fun j hj => by
      rw [List.length_drop] at hj
      have := hz (n + j) (by omega) (by omega)
      simpa [List.getD_eq_getElem?_getD] using this]
     omega
   refine ⟨_, rfl, dig_take hd, ?_, by rw [← hv, hw], by omega⟩
   rcases Nat.eq_zero_or_pos n with hz0 | hz0
   · exact .inl (by simp [hz0])
   · refine .inr ?_
     have h0 := h0.resolve_left (by omega)
     rw [hlen, List.getD_eq_getElem?_getD, List.getElem?_take, if_pos (by omega)]
     rwa [List.getD_eq_getElem?_getD] at h0
theorem dv_less {a b : List Int} (ha : dig a) (hb : dig b) (tb : trm b) (h : a.length < b.length) : dv a < dv b := by
 have h1 := dv_lt ha
 have h2 := dv_pos hb tb (by intro e; simp [e] at h)
 have h3 := pw_mono (show a.length ≤ b.length - 1 by omega)
 omega
theorem dv_top {a b : List Int} (ha : dig a) {k : Nat} (hab : a.length = b.length) (hk : k < a.length) (he : ∀ j, k < j → j < a.length → dg0 a j = dg0 b j) (hl : dg0 a k < dg0 b k) (hb : dig b) : dv a < dv b := by
 have h1 := dv_split (l := a) (k + 1)
 have h2 := dv_split (l := b) (k + 1)
 have e1 : a.drop (k + 1) = b.drop (k + 1) := by
  refine List.ext_getElem (by simp; omega) fun j hj hj' => ?_
  simp only [List.length_drop] at hj hj'
  have := he (k + 1 + j) (by omega) (by omega)
  simp only [List.getElem_drop]
  unfold dg0 at this
  simpa [List.getD_eq_getElem?_getD, show k + 1 + j < a.length by omega, show k + 1 + j < b.length by omega] using this
 rw [show (a.take (k + 1)).length = k + 1 by simp; omega, dv_take0] at h1
 rw [show (b.take (k + 1)).length = k + 1 by simp; omega, dv_take0, ← e1] at h2
 have h3 := dv_lt (dig_take (n := k) ha)
 rw [show (a.take k).length = k by simp; omega] at h3
 have h4 := dv_nn (dig_take (n := k) hb)
 have h5 := Int.mul_le_mul_of_nonneg_left (show dg0 a k + 1 ≤ dg0 b k by omega) (Int.le_of_lt (pw_pos k))
 rw [Int.mul_add] at h5
 omega
def cmpP (a b c : Int) : Prop := c = -1 ∧ a < b ∨ c = 0 ∧ a = b ∨ c = 1 ∧ b < a
def cmpR (a b : List Int) : Unit ⊕ Int → Prop
 | .inl _ => dv a = dv b
 | .inr c => cmpP (dv a) (dv b) c
theorem f291_e {a b : List Int} (ha : dig a) (hb : dig b) (ta : trm a) (tb : trm b) (hl : a.length ≤ 500000) (hk : b.length ≤ 500000) : ∃ c, f291 a b = some c ∧ cmpP (dv a) (dv b) c := by
 unfold f291
 simp only [List.length_map, ieq_eq]
 by_cases hab : a.length = b.length
 case neg =>
   rw [decide_eq_false (by omega), Bool.not_false, oite_t]
   by_cases h1 : a.length < b.length
   · rw [ilt_t (by omega), oite_t]
     exact ⟨_, rfl, .inl ⟨rfl, dv_less ha hb tb h1⟩⟩
   · rw [ilt_f (by omega), oite_f]
     exact ⟨_, rfl, .inr (.inr ⟨rfl, dv_less hb ha ta (by omega)⟩)⟩
 rw [decide_eq_true (by omega), Bool.not_true, oite_f]
 refine obndS_ex (R := cmpR a b) (Q := cmpP (dv a) (dv b)) (oloop_ex (R := cmpR a b) (fun i e => e = (a.length : Int) - 1 - i ∧ ∀ j, a.length - i ≤ j → j < a.length → dg0 a j = dg0 b j) a.length ⟨by rw [wr (by omega) (by omega)]; omega, fun j h1 h2 => by omega⟩ ?_ ?_) (fun _ h => ⟨0, rfl, .inr (.inl ⟨rfl, h⟩)⟩) (fun c h => h)
 · rintro i _ hi ⟨rfl, he⟩
   have hk1 : a.length - 1 - i < a.length := by omega
   have hk2 : a.length - 1 - i < b.length := by omega
   have e1 : (a.length : Int) - 1 - i = ((a.length - 1 - i : Nat) : Int) := by omega
   have g1 : dg0 a (a.length - 1 - i) = a[a.length - 1 - i] := by simp [dg0, hk1]
   have g2 : dg0 b (a.length - 1 - i) = b[a.length - 1 - i] := by simp [dg0, hk2]
   rw [e1]
   simp only [ile_t (show (0 : Int) ≤ ((a.length - 1 - i : Nat) : Int) by omega), oite_t, ogrd_t, Int.toNat_natCast, get_i hk1, get_i hk2, obnd_s]
   rw [← g1, ← g2]
   have he' : ∀ j, a.length - 1 - i < j → j < a.length → dg0 a j = dg0 b j := fun j h1 h2 => he j (by omega) h2
   by_cases h1 : dg0 a (a.length - 1 - i) < dg0 b (a.length - 1 - i)
   · rw [ilt_t h1, oite_t]
     exact .inr ⟨_, rfl, .inl ⟨rfl, dv_top ha hab hk1 he' h1 hb⟩⟩
   · rw [ilt_f (by omega), oite_f]
     by_cases h2 : dg0 b (a.length - 1 - i) < dg0 a (a.length - 1 - i)
     · rw [ilt_t h2, oite_t]
       exact .inr ⟨_, rfl, .inr (.inr ⟨rfl, dv_top hb hab.symm hk2 (fun j h3 h4 => (he' j h3 (by omega)).symm) h2 ha⟩)⟩
     · rw [ilt_f (by omega), oite_f]
       refine .inl ⟨_, rfl, by rw [wr (by omega) (by omega)]; omega, fun j h3 h4 => ?_⟩
       by_cases hj : j = a.length - 1 - i
       · subst hj; omega
       · exact he j (by omega) h4
 · rintro _ ⟨rfl, he⟩
   rw [ile_f (show (a.length : Int) - 1 - (a.length : Nat) < 0 by omega), oite_f]
   refine ⟨_, rfl, ?_⟩
   show dv a = dv b
   refine congrArg dv (List.ext_getElem hab fun j h1 h2 => ?_)
   have := he j (by omega) h1
   simpa [dg0, h1, h2] using this
theorem trm_nil : trm [] := .inl rfl
theorem WD.nz {s v : Int} {l : List Int} (h : WD s l v) (h0 : s ≠ 0) : s = 1 ∨ s = -1 := by
 rcases h.sg with ⟨h1, _⟩ | ⟨h1, _⟩
 · exact absurd h1 h0
 · exact h1
theorem f281_e {s t v w : Int} {a b : List Int} (ha : WD s a v) (hb : WD t b w) (hl : a.length ≤ 200000) (hk : b.length ≤ 200000) : ∃ z, f281 s a t b = some z ∧ WD z.1 z.2 (v + w) ∧ z.2.length ≤ a.length + b.length + 1 := by
 unfold f281
 simp only [ieq_eq]
 have pa := ha.pos
 have pb := hb.pos
 by_cases h1 : s = 0
 · rw [decide_eq_true h1, oite_t]
   have : v = 0 := by omega
   subst this
   exact ⟨_, rfl, by rw [Int.zero_add]; exact hb, by simp; omega⟩
 rw [decide_eq_false h1, oite_f]
 by_cases h2 : t = 0
 · rw [decide_eq_true h2, oite_t]
   have : w = 0 := by omega
   subst this
   exact ⟨_, rfl, by rw [Int.add_zero]; exact ha, by simp; omega⟩
 rw [decide_eq_false h2, oite_f]
 have sa := ha.nz h1
 have sb := hb.nz h2
 have len : ∀ {s' l' : _} {s : Int} {l : List Int}, f285 s l = some (s', l') → l.length ≤ 1000000 → l'.length ≤ l.length := by
   intro s' l' s l h hl
   unfold f285 at h
   obtain ⟨r, h1, n, hn, rfl, _⟩ := f295_e hl
   rw [h1] at h
   simp only [obnd_s] at h
   obtain ⟨q, _, h⟩ := obnd_some h
   injection h with h; injection h with _ h; subst h
   simp; omega
 by_cases h3 : s = t
 · rw [decide_eq_true h3, oite_t]
   obtain ⟨l, e1, d1, v1, n1⟩ := f290_e ha.dg hb.dg (by omega) (by omega)
   rw [e1]
   obtain ⟨s', l', e2, h4⟩ := f285_e (s := s) (l := l) (by omega) d1 (by omega)
   have := len e2 (by omega)
   simp only [obnd_s, e2]
   refine ⟨_, rfl, ?_, by show l'.length ≤ _; omega⟩
   rw [v1, Int.mul_add] at h4
   rw [ha.vl, hb.vl, ← h3]; exact h4
 rw [decide_eq_false h3, oite_f]
 obtain ⟨c, e1, hc⟩ := f291_e ha.dg hb.dg ha.tr hb.tr (by omega) (by omega)
 rw [e1]
 simp only [obnd_s]
 have hva := ha.vl
 have hvb := hb.vl
 rcases hc with ⟨rfl, hc⟩ | ⟨rfl, hc⟩ | ⟨rfl, hc⟩
 · rw [decide_eq_false (by omega), oite_f, ilt_f (by omega), oite_f]
   have hab : a.length ≤ b.length := by
    rcases Nat.lt_or_ge b.length a.length with h | h
    · have := dv_less hb.dg ha.dg ha.tr h; omega
    · exact h
   obtain ⟨l, e2, d2, t2, v2, n2⟩ := f292_e hb.dg ha.dg (by omega) hab (by omega)
   rw [e2]
   obtain ⟨s', l', e3, h4⟩ := f285_e (s := t) (l := l) (by omega) d2 (by omega)
   have := len e3 (by omega)
   simp only [obnd_s, e3]
   refine ⟨_, rfl, ?_, by show l'.length ≤ _; omega⟩
   rw [v2] at h4
   have : t * (dv b - dv a) = v + w := by rcases sa with rfl | rfl <;> rcases sb with rfl | rfl <;> omega
   rw [this] at h4; exact h4
 · rw [decide_eq_true rfl, oite_t]
   refine ⟨_, rfl, ?_, by simp⟩
   have : v + w = 0 := by rcases sa with rfl | rfl <;> rcases sb with rfl | rfl <;> omega
   rw [this]
   exact ⟨dig_nil, trm_nil, rfl, .inl ⟨rfl, rfl⟩⟩
 · rw [decide_eq_false (by omega), oite_f, ilt_t (by omega), oite_t]
   have hab : b.length ≤ a.length := by
    rcases Nat.lt_or_ge a.length b.length with h | h
    · have := dv_less ha.dg hb.dg hb.tr h; omega
    · exact h
   obtain ⟨l, e2, d2, t2, v2, n2⟩ := f292_e ha.dg hb.dg (by omega) hab (by omega)
   rw [e2]
   obtain ⟨s', l', e3, h4⟩ := f285_e (s := s) (l := l) (by omega) d2 (by omega)
   have := len e3 (by omega)
   simp only [obnd_s, e3]
   refine ⟨_, rfl, ?_, by show l'.length ≤ _; omega⟩
   rw [v2] at h4
   have : s * (dv a - dv b) = v + w := by rcases sa with rfl | rfl <;> rcases sb with rfl | rfl <;> omega
   rw [this] at h4; exact h4
theorem WD.neg {s v : Int} {l : List Int} (h : WD s l v) : f287 s l = some (-s, l) ∧ WD (-s) l (-v) := by
 have hs : s = 0 ∨ s = 1 ∨ s = -1 := by rcases h.sg with ⟨h1, _⟩ | ⟨h1, _⟩ <;> omega
 refine ⟨?_, h.dg, h.tr, by rw [h.vl, Int.neg_mul], ?_⟩
 · unfold f287; rw [wr (by omega) (by omega), Int.zero_sub]
 · rcases h.sg with ⟨h1, h2⟩ | ⟨h1, h2⟩
   · exact .inl ⟨by omega, h2⟩
   · exact .inr ⟨by omega, h2⟩
theorem f280_e {s t v w : Int} {a b : List Int} (ha : WD s a v) (hb : WD t b w) (hl : a.length ≤ 200000) (hk : b.length ≤ 200000) : ∃ z, f280 s a t b = some z ∧ WD z.1 z.2 (v - w) ∧ z.2.length ≤ a.length + b.length + 1 := by
 unfold f280
 obtain ⟨h1, h2⟩ := hb.neg
 rw [h1, obnd_s]
 obtain ⟨z, h3, h4, h5⟩ := f281_e ha h2 hl hk
 rw [h3]
 exact ⟨_, rfl, by rw [Int.sub_eq_add_neg]; exact h4, h5⟩
theorem f268_e {s t v w : Int} {a b : List Int} (ha : WD s a v) (hb : WD t b w) (hl : a.length ≤ 200000) (hk : b.length ≤ 200000) : ∃ c, f268 s a t b = some c ∧ cmpP v w c := by
 unfold f268
 obtain ⟨z, h1, h2, _⟩ := f280_e ha hb hl hk
 rw [h1, obnd_s]
 refine ⟨_, rfl, ?_⟩
 have := h2.pos
 unfold cmpP; omega
end
section
set_option linter.unusedSimpArgs false
set_option linter.unusedVariables false
open Go Go.RowKit
theorem mul9 {a b : Int} (ha : 0 ≤ a ∧ a < 1000000000) (hb : 0 ≤ b ∧ b < 1000000000) : 0 ≤ a * b ∧ a * b ≤ 999999998000000001 := by
 refine ⟨Int.mul_nonneg ha.1 hb.1, ?_⟩
 have h1 := Int.mul_le_mul_of_nonneg_left (show b ≤ 999999999 by omega) ha.1
 omega
theorem blt_t' {a b : Nat} (h : a < b) : Nat.blt a b = true := Nat.blt_eq.mpr h
theorem f274_e {s t v w : Int} {a b : List Int} (ha : WD s a v) (hb : WD t b w) (hl : a.length ≤ 200000) (hk : b.length ≤ 200000) : ∃ z, f274 s a t b = some z ∧ WD z.1 z.2 (v * w) ∧ z.2.length ≤ a.length + b.length + 1 := by
 have da := ha.dg
 have db := hb.dg
 have e1 : IntKind.i64.wrap (IntKind.i64.wrap (((a.length : Nat) : Int) + ((b.length : Nat) : Int)) + 1) = ((a.length + b.length + 1 : Nat) : Int) := by
   rw [wr (n := (a.length : Int) + b.length) (by omega) (by omega), wr (by omega) (by omega)]; omega
 have e2 : mfits 8 ((a.length + b.length + 1 : Nat) : Int) ((a.length + b.length + 1 : Nat) : Int) = true := by
   simp only [mfits, ile_eq, Bool.and_eq_true, decide_eq_true_eq]; omega
 unfold f274
 simp only [List.length_map, e1, e2, ogrd_t, Int.toNat_natCast]
 refine obnd_ex (R := fun m => dig m ∧ m.length = a.length + b.length + 1 ∧ dv m = dv a * dv b) (oloop_ex (fun i e => e.1 = (i : Int) ∧ dig e.2 ∧ e.2.length = a.length + b.length + 1 ∧ dv e.2 = dv (a.take i) * dv b ∧ ∀ j, i + b.length ≤ j → dg0 e.2 j = 0) a.length ⟨rfl, dig_rep _, by simp, by simp [dv_rep, dv], fun j _ => by simp [dg0, List.getElem?_replicate]; split <;> rfl⟩ ?_ ?_) ?_
 · rintro i ⟨j, o⟩ hi ⟨hj, hd, hn, hv, hz⟩
   have hj : j = (i : Int) := hj
   subst hj
   have hd : dig o := hd
   have hn : o.length = a.length + b.length + 1 := hn
   have hv : dv o = dv (a.take i) * dv b := hv
   have hz : ∀ j, i + b.length ≤ j → dg0 o j = 0 := hz
   have hx := dig_get da hi
   rw [ilt_t (by omega), oite_t]
   refine .inl (inl_ex ?_)
   refine obnd_ex (R := fun (r : Int × List Int) => (0 ≤ r.1 ∧ r.1 < 1000000000) ∧ dig r.2 ∧ r.2.length = a.length + b.length + 1 ∧ dv r.2 + 1000000000 ^ (i + b.length) * r.1 = dv (a.take i) * dv b + 1000000000 ^ i * (a[i] * dv b) ∧ ∀ j, i + b.length ≤ j → dg0 r.2 j = 0)
     (oloop_ex (e0 := ((0 : Int), (0 : Int), o)) (fun k (e : Int × Int × List Int) => e.2.1 = (k : Int) ∧ (0 ≤ e.1 ∧ e.1 < 1000000000) ∧ dig e.2.2 ∧ e.2.2.length = a.length + b.length + 1 ∧ dv e.2.2 + 1000000000 ^ (i + k) * e.1 = dv (a.take i) * dv b + 1000000000 ^ i * (a[i] * dv (b.take k)) ∧ ∀ j, i + b.length ≤ j → dg0 e.2.2 j = 0) b.length ⟨rfl, by simp, hd, hn, by simp [dv, hv], hz⟩ ?_ ?_) ?_
   · rintro k ⟨c, j, o⟩ hk ⟨hj, hc, hd, hn, hv, hz⟩
     have hj : j = (k : Int) := hj
     subst hj
     have hc : 0 ≤ c ∧ c < 1000000000 := hc
     have hd : dig o := hd
     have hn : o.length = a.length + b.length + 1 := hn
     have hv : dv o + 1000000000 ^ (i + k) * c = dv (a.take i) * dv b + 1000000000 ^ i * (a[i] * dv (b.take k)) := hv
     have hz : ∀ j, i + b.length ≤ j → dg0 o j = 0 := hz
     have hy := dig_get db hk
     have hik : i + k < o.length := by omega
     have hw := dig_get hd hik
     have hm := mul9 hx hy
     have e3 : IntKind.i64.wrap ((i : Int) + (k : Int)) = ((i + k : Nat) : Int) := by rw [wr (by omega) (by omega)]; omega
     rw [ilt_t (by omega), oite_t]
     simp only [e3]
     rw [ile_t (by omega), ogrd_t, ilt_t (by omega), ogrd_t, Int.toNat_natCast, get_i hik]
     simp only [obnd_s]
     rw [ile_t (by omega), ogrd_t, Int.toNat_natCast, get_i hi]
     simp only [obnd_s]
     rw [ile_t (by omega), ogrd_t, Int.toNat_natCast, get_i hk]
     simp only [obnd_s]
     rw [blt_t' hik, ogrd_t, wr (n := a[i] * b[k]) (by omega) (by omega), wr (n := o[i + k] + a[i] * b[k]) (by omega) (by omega), wr (n := o[i + k] + a[i] * b[k] + c) (by omega) (by omega), tmod_nn (by omega), tdiv_nn (by omega), wr (n := (o[i + k] + a[i] * b[k] + c) / 1000000000) (by omega) (by omega), w_succ (by omega)]
     refine .inl ⟨_, rfl, rfl, ⟨by show 0 ≤ _ / _; omega, by show (o[i + k] + a[i] * b[k] + c) / 1000000000 < 1000000000; omega⟩, dig_set hd (by omega), by simp [hn], ?_, fun j hj => ?_⟩
     · show dv (o.set (i + k) ((o[i + k] + a[i] * b[k] + c) % 1000000000)) + 1000000000 ^ (i + (k + 1)) * ((o[i + k] + a[i] * b[k] + c) / 1000000000) = dv (a.take i) * dv b + 1000000000 ^ i * (a[i] * dv (b.take (k + 1)))
       rw [dv_set hik, dv_take hk, show i + (k + 1) = (i + k) + 1 by omega, pw_s, Int.pow_add] at *
       have := Int.emod_add_mul_ediv (o[i + k] + a[i] * b[k] + c) 1000000000
       grind
     · show dg0 (o.set (i + k) _) j = 0
       have := hz j hj
       unfold dg0 at this ⊢
       rw [List.getD_eq_getElem?_getD] at this ⊢
       rw [List.getElem?_set_ne (by omega)]; exact this
   · rintro ⟨c, j, o⟩ ⟨hj, hc, hd, hn, hv, hz⟩
     have hj : j = ((b.length : Nat) : Int) := hj
     subst hj
     rw [ilt_f (Int.le_refl _), oite_f]
     rw [List.take_length] at hv
     exact ⟨_, rfl, hc, hd, hn, hv, hz⟩
   · rintro ⟨c, o⟩ ⟨hc, hd, hn, hv, hz⟩
     have hc : 0 ≤ c ∧ c < 1000000000 := hc
     have hd : dig o := hd
     have hn : o.length = a.length + b.length + 1 := hn
     have hv : dv o + 1000000000 ^ (i + b.length) * c = dv (a.take i) * dv b + 1000000000 ^ i * (a[i] * dv b) := hv
     have hz : ∀ j, i + b.length ≤ j → dg0 o j = 0 := hz
     have hib : i + b.length < o.length := by omega
     have e3 : IntKind.i64.wrap ((i : Int) + ((b.length : Nat) : Int)) = ((i + b.length : Nat) : Int) := by rw [wr (by omega) (by omega)]; omega
     have h0 : o[i + b.length] = 0 := by have := hz _ (Nat.le_refl _); simpa [dg0, hib] using this
     simp only [e3]
     rw [ile_t (by omega), ogrd_t, ilt_t (by omega), ogrd_t, Int.toNat_natCast, get_i hib]
     simp only [obnd_s]
     rw [blt_t' hib, ogrd_t, h0, Int.zero_add, wr (n := c) (by omega) (by omega), w_succ (by omega)]
     refine ⟨_, rfl, _, rfl, rfl, dig_set hd hc, by simp [hn], ?_, fun j hj => ?_⟩
     · show dv (o.set (i + b.length) c) = dv (a.take (i + 1)) * dv b
       rw [dv_set hib, h0, dv_take hi]
       grind
     · show dg0 (o.set (i + b.length) c) j = 0
       have := hz j (by omega)
       unfold dg0 at this ⊢
       rw [List.getD_eq_getElem?_getD] at this ⊢
       rw [List.getElem?_set_ne (by omega)]; exact this
 · rintro ⟨j, o⟩ ⟨hj, hd, hn, hv, hz⟩
   have hj : j = ((a.length : Nat) : Int) := hj
   subst hj
   have hn : o.length = a.length + b.length + 1 := hn
   rw [List.take_length] at hv
   rw [ilt_f (Int.le_refl _), oite_f]
   refine ⟨o, ?_, hd, hn, hv⟩
   show oinr (ogrd (Nat.beq (a.length + b.length + 1) o.length) (some o)) = _
   rw [hn, Nat.beq_refl]; rfl
 · rintro o ⟨hd, hn, hv⟩
   have pa := ha.pos
   have pb := hb.pos
   have hva := ha.vl
   have hvb := hb.vl
   have hsa : s = 0 ∨ s = 1 ∨ s = -1 := by omega
   have hsb : t = 0 ∨ t = 1 ∨ t = -1 := by omega
   have hst : s * t = 1 ∨ s * t = -1 ∨ s * t = 0 ∧ dv o = 0 := by
     rcases ha.sg with ⟨rfl, rfl⟩ | ⟨h1, _⟩
     · exact .inr (.inr ⟨by omega, by rw [hv]; simp [dv]⟩)
     · rcases hb.sg with ⟨rfl, rfl⟩ | ⟨h2, _⟩
       · exact .inr (.inr ⟨by omega, by rw [hv]; simp [dv]⟩)
       · rcases h1 with rfl | rfl <;> rcases h2 with rfl | rfl <;> omega
   rw [wr (n := s * t) (by omega) (by omega)]
   obtain ⟨s', l', e3, h4⟩ := f285_e (s := s * t) (l := o) (by omega) hd hst
   have hlen : l'.length ≤ o.length := by
     unfold f285 at e3
     obtain ⟨r, h1, n, hn, rfl, _⟩ := f295_e (l := o) (by omega)
     rw [h1] at e3
     simp only [obnd_s] at e3
     obtain ⟨q, _, h⟩ := obnd_some e3
     injection h with h; injection h with _ h; subst h
     simp; omega
   rw [e3]
   refine ⟨_, rfl, ?_, by show l'.length ≤ _; omega⟩
   rw [hv] at h4
   rw [hva, hvb, show s * dv a * (t * dv b) = s * t * (dv a * dv b) by grind]
   exact h4
end
section
set_option linter.unusedSimpArgs false
set_option linter.unusedVariables false
open Go Go.RowKit
def szb (v : Int) (n : Nat) : Prop := v.natAbs < 1000000000 ^ n
theorem szb.mono {v : Int} {m n : Nat} (h : szb v m) (hn : m ≤ n) : szb v n := Nat.lt_of_lt_of_le h (Nat.pow_le_pow_right (by omega) hn)
theorem szb.mul {v w : Int} {m n : Nat} (h : szb v m) (k : szb w n) : szb (v * w) (m + n) := by
 unfold szb at *
 rw [Int.natAbs_mul, Nat.pow_add]
 exact Nat.mul_lt_mul'' h k
theorem szb.neg {v : Int} {n : Nat} (h : szb v n) : szb (-v) n := by
 unfold szb at *; rw [Int.natAbs_neg]; exact h
theorem szb.add {v w : Int} {n : Nat} (h : szb v n) (k : szb w n) : szb (v + w) (n + 1) := by
 unfold szb at *; rw [Nat.pow_succ]; omega
theorem szb.one : szb 1 1 := by unfold szb; decide
theorem szb.le {v w : Int} {n : Nat} (h : szb v n) (k : w.natAbs ≤ v.natAbs) : szb w n := Nat.lt_of_le_of_lt k h
theorem WD.dvn {s v : Int} {l : List Int} (h : WD s l v) : dv l = (v.natAbs : Int) := by
 have hv := h.vl
 have hd := dv_nn h.dg
 rcases h.sg with ⟨rfl, rfl⟩ | ⟨rfl | rfl, _⟩
 · simp [dv] at hv ⊢; omega
 · omega
 · omega
theorem WD.lenB {s v : Int} {l : List Int} {n : Nat} (h : WD s l v) (k : szb v n) : l.length ≤ n := by
 have e : ((1000000000 ^ n : Nat) : Int) = (1000000000 : Int) ^ n := Int.natCast_pow _ _
 unfold szb at k
 exact h.len (by omega) (by omega)
theorem WD.szb {s v : Int} {l : List Int} (h : WD s l v) : AM.szb v l.length := by
 have e : ((1000000000 ^ l.length : Nat) : Int) = (1000000000 : Int) ^ l.length := Int.natCast_pow _ _
 have := dv_lt h.dg
 rw [h.dvn] at this
 unfold AM.szb
 omega
theorem f295_d {l : List Int} (hl : l.length ≤ 1000000) (hd : dig l) : ∃ r, f295 l = some r ∧ dig r ∧ trm r ∧ dv r = dv l := by
 obtain ⟨_, h1, n, hn, rfl, hz, h0⟩ := f295_e hl
 have hlen : (l.take n).length = n := by rw [List.length_take]; omega
 refine ⟨_, h1, dig_take hd, ?_, ?_⟩
 · rcases h0 with rfl | h0
   · exact .inl (by simp)
   · refine .inr ?_
     rw [hlen, List.getD_eq_getElem?_getD, List.getElem?_take]
     rw [List.getD_eq_getElem?_getD] at h0
     rcases Nat.eq_zero_or_pos n with hz0 | hz0
     · exfalso
       subst hz0
       rcases Nat.eq_zero_or_pos l.length with hq | hq
       · simp [show l = [] from List.length_eq_zero_iff.1 hq] at h0
       · exact h0 (by have := hz 0 (by omega) hq; simpa [List.getD_eq_getElem?_getD] using this)
     · rw [if_pos (by omega)]; exact h0
 · have := dv_app (a := l.take n) (b := l.drop n)
   rw [List.take_append_drop] at this
   rw [this, dv_zero (l := l.drop n) fun j hj => by
     rw [List.length_drop] at hj
     have := hz (n + j) (by omega) (by omega)
     simpa [List.getD_eq_getElem?_getD] using this]
   omega
theorem dlen {a b : List Int} (da : dig a) (ta : trm a) (db : dig b) (h : dv a < dv b) : a.length ≤ b.length := by
 rcases Nat.lt_or_ge b.length a.length with h1 | h1
 · have := dv_less db da ta h1; omega
 · exact h1
theorem mul_dig {b : List Int} {d : Int} (db : dig b) (hl : b.length ≤ 100000) (hd : 0 ≤ d ∧ d ≤ 999999999) : ∃ z : Int × List Int, (obnd (f285 (1 : Int) b) fun (y23 : Int × (List Int)) => obnd (f273 d) fun (y25 : Int × (List Int)) => f274 y23.1 y23.2 y25.1 y25.2) = some z ∧ dig z.2 ∧ trm z.2 ∧ dv z.2 = dv b * d ∧ z.2.length ≤ 100001 := by
 obtain ⟨s', l', h1, h2⟩ := f285_e (s := 1) (l := b) (by omega) db (.inl rfl)
 obtain ⟨y, h3, h4⟩ := f273_e (n := d) (by omega)
 have hb := dv_lt db
 have nb := dv_nn db
 have e : ((1000000000 ^ b.length : Nat) : Int) = (1000000000 : Int) ^ b.length := Int.natCast_pow _ _
 have z2 : szb (1 * dv b) b.length := by unfold szb; omega
 have z4 : szb d 1 := by unfold szb; omega
 have l2 := h2.lenB z2
 have l4 := h4.lenB z4
 obtain ⟨z, h5, h6, h7⟩ := f274_e h2 h4 (by omega) (by omega)
 refine ⟨z, by rw [h1, obnd_s, h3, obnd_s, h5], h6.dg, h6.tr, ?_, ?_⟩
 · rw [h6.dvn, Int.one_mul]
   have := Int.mul_nonneg nb hd.1
   omega
 · have := h6.lenB (z2.mul z4); omega
theorem dig_find {b r : List Int} (db : dig b) (hl : b.length ≤ 100000) (hn : 0 < dv b) (dr : dig r) (tr : trm r) (hr : r.length ≤ 100001) (h : dv r < 1000000000 * dv b) : ∃ d, oloop (τ := Int × Int) (ρ := Int) (fun e19 =>
        oite ((ilt e19.1 e19.2)) (
         obnd (f285 (1 : Int) b) fun (y23 : Int × (List Int)) =>
         obnd (f273 ((IntKind.i64.wrap ((IntKind.i64.wrap ((IntKind.i64.wrap (e19.1 + e19.2)) + (1 : Int))).tdiv (2 : Int))))) fun (y25 : Int × (List Int)) =>
         obnd (f274 y23.1 y23.2 y25.1 y25.2) fun (y27 : Int × (List Int)) =>
         obnd (f291 y27.2 r) fun (y29 : Int) =>
         oite ((ile y29 (0 : Int))) (
          some (.inl (((IntKind.i64.wrap ((IntKind.i64.wrap ((IntKind.i64.wrap (e19.1 + e19.2)) + (1 : Int))).tdiv (2 : Int))), e19.2)))
           ) (
          some (.inl ((e19.1, (IntKind.i64.wrap ((IntKind.i64.wrap ((IntKind.i64.wrap ((IntKind.i64.wrap (e19.1 + e19.2)) + (1 : Int))).tdiv (2 : Int))) - (1 : Int))))))
           )
          ) (
         some (.inr (e19.1))
          )
         ) (((0 : Int), (999999999 : Int))) = some d ∧ ((0 ≤ d ∧ d ≤ 999999999) ∧ dv b * d ≤ dv r ∧ dv r < dv b * d + dv b) := by
  refine oloop_ex (fun i e => (0 ≤ e.1 ∧ e.1 ≤ e.2 ∧ e.2 ≤ 999999999) ∧ dv b * e.1 ≤ dv r ∧ dv r < dv b * e.2 + dv b ∧ e.2 - e.1 < ((2 ^ (30 - i) : Nat) : Int)) 30 ⟨by simp, by have := dv_nn dr; simp; omega, by show dv r < dv b * 999999999 + dv b; omega, by decide⟩ ?_ ?_
  · rintro i ⟨lo, hi⟩ hi30 ⟨h1, h2, h3, h4⟩
    have h1 : 0 ≤ lo ∧ lo ≤ hi ∧ hi ≤ 999999999 := h1
    have h2 : dv b * lo ≤ dv r := h2
    have h3 : dv r < dv b * hi + dv b := h3
    have h4 : hi - lo < ((2 ^ (30 - i) : Nat) : Int) := h4
    rw [show 30 - i = (30 - (i + 1)) + 1 by omega, Nat.pow_succ] at h4
    by_cases hlt : lo < hi
    · have em : IntKind.i64.wrap ((IntKind.i64.wrap ((IntKind.i64.wrap (lo + hi)) + (1 : Int))).tdiv (2 : Int)) = (lo + hi + 1) / 2 := by
        rw [wr (n := lo + hi) (by omega) (by omega), wr (n := lo + hi + 1) (by omega) (by omega), Int.tdiv_eq_ediv_of_nonneg (by omega), wr (by omega) (by omega)]
      obtain ⟨m, hm⟩ : ∃ m, (lo + hi + 1) / 2 = m := ⟨_, rfl⟩
      obtain ⟨z, q1, q2, q3, q4, q5⟩ := mul_dig (d := m) db hl (by omega)
      obtain ⟨c, c1, c2⟩ := f291_e (a := z.2) (b := r) q2 dr q3 tr (by omega) (by omega)
      have em1 : IntKind.i64.wrap (m - 1) = m - 1 := wr (by omega) (by omega)
      have key : ∀ k : Int × List Int → Option ((Int × Int) ⊕ Int), (obnd (f285 (1 : Int) b) fun (y23 : Int × (List Int)) => obnd (f273 m) fun (y25 : Int × (List Int)) => obnd (f274 y23.1 y23.2 y25.1 y25.2) k) = k z := by
        intro k
        cases u1 : f285 (1 : Int) b with
        | none => rw [u1] at q1; cases q1
        | some y =>
          rw [u1] at q1; simp only [obnd_s] at q1 ⊢
          cases u2 : f273 m with
          | none => rw [u2] at q1; cases q1
          | some y2 => rw [u2] at q1; simp only [obnd_s] at q1 ⊢; rw [q1]; rfl
      simp only [em, hm, em1]
      rw [ilt_t hlt, oite_t, key, c1, obnd_s]
      rcases c2 with ⟨rfl, c2⟩ | ⟨rfl, c2⟩ | ⟨rfl, c2⟩
      · exact .inl ⟨_, rfl, ⟨show (0 : Int) ≤ m by omega, show m ≤ hi by omega, h1.2.2⟩, show dv b * m ≤ dv r by omega, h3, show hi - m < _ by omega⟩
      · exact .inl ⟨_, rfl, ⟨show (0 : Int) ≤ m by omega, show m ≤ hi by omega, h1.2.2⟩, show dv b * m ≤ dv r by omega, h3, show hi - m < _ by omega⟩
      · refine .inl ⟨_, rfl, ⟨h1.1, ?_, ?_⟩, h2, ?_, ?_⟩
        · show lo ≤ m - 1; omega
        · show m - 1 ≤ 999999999; omega
        · show dv r < dv b * (m - 1) + dv b
          rw [Int.mul_sub]; omega
        · show m - 1 - lo < _; omega
    · have : lo = hi := by omega
      subst this
      rw [ilt_f (by omega), oite_f]
      exact .inr ⟨lo, rfl, ⟨h1.1, h1.2.2⟩, h2, h3⟩
  · rintro ⟨lo, hi⟩ ⟨h1, h2, h3, h4⟩
    have h1 : 0 ≤ lo ∧ lo ≤ hi ∧ hi ≤ 999999999 := h1
    have h4 : hi - lo < 1 := h4
    have : lo = hi := by omega
    subst this
    rw [ilt_f (by omega), oite_f]
    exact ⟨lo, rfl, ⟨h1.1, h1.2.2⟩, h2, h3⟩
end
section
set_option linter.unusedSimpArgs false
set_option linter.unusedVariables false
open Go Go.RowKit
theorem mul_digk {b : List Int} {d : Int} (db : dig b) (hl : b.length ≤ 100000) (hd : 0 ≤ d ∧ d ≤ 999999999) : ∃ z : Int × List Int, (∀ {β : Type} (k : Int × List Int → Option β), (obnd (f285 (1 : Int) b) fun (y23 : Int × (List Int)) => obnd (f273 d) fun (y25 : Int × (List Int)) => obnd (f274 y23.1 y23.2 y25.1 y25.2) k) = k z) ∧ dig z.2 ∧ trm z.2 ∧ dv z.2 = dv b * d ∧ z.2.length ≤ 100001 := by
  obtain ⟨z, q1, q⟩ := mul_dig (d := d) db hl hd
  refine ⟨z, fun k => ?_, q⟩
  cases u1 : f285 (1 : Int) b with
  | none => rw [u1] at q1; cases q1
  | some y =>
    rw [u1] at q1; simp only [obnd_s] at q1 ⊢
    cases u2 : f273 d with
    | none => rw [u2] at q1; cases q1
    | some y2 => rw [u2] at q1; simp only [obnd_s] at q1 ⊢; rw [q1]; rfl
theorem drop_set {q : List Int} {j : Nat} {d : Int} (hj : j < q.length) : (q.set j d).drop j = d :: q.drop (j + 1) := by
 rw [List.set_eq_take_append_cons_drop, if_pos hj, List.drop_append, List.drop_of_length_le (by rw [List.length_take]; omega)]
 rw [List.length_take, Nat.min_eq_left (by omega), Nat.sub_self]; rfl
theorem f289_e {s t v w : Int} {a b : List Int} (ha : WD s a v) (hb : WD t b w) (hw : 0 < w) (hl : a.length ≤ 100000) (hk : b.length ≤ 100000) : ∃ z, f289 s a t b = some z ∧ WD z.1 z.2 (v / w) := by
 have da := ha.dg
 have db := hb.dg
 have hdb : dv b = w := by rw [hb.dvn]; omega
 unfold f289
 rcases ha.sg with ⟨rfl, rfl⟩ | ⟨hs, hne⟩
 · refine ⟨_, by rw [ieq_eq, decide_eq_true rfl, oite_t], ?_⟩
   have : v = 0 := by rw [ha.vl]; simp
   subst this
   rw [Int.zero_ediv]
   exact ⟨dig_nil, .inl rfl, by simp, .inl ⟨rfl, rfl⟩⟩
 · have hs0 : s ≠ 0 := by rcases hs with rfl | rfl <;> decide
   have e2 : mfits 8 ((a.length : Nat) : Int) ((a.length : Nat) : Int) = true := by
     simp only [mfits, ile_eq, Bool.and_eq_true, decide_eq_true_eq]; omega
   rw [ieq_eq, decide_eq_false hs0, oite_f]
   simp only [List.length_map, e2, ogrd_t, Int.toNat_natCast]
   refine obnd_ex (R := fun (r : List Int × List Int) => dig r.1 ∧ r.1.length = a.length ∧ dig r.2 ∧ trm r.2 ∧ dv a = dv r.1 * w + dv r.2 ∧ dv r.2 < w)
     (oloop_ex (fun k (e : List Int × Int × List Int) => k ≤ a.length ∧ e.2.1 = ((a.length - k : Nat) : Int) - 1 ∧ dig e.1 ∧ trm e.1 ∧ dig e.2.2 ∧ e.2.2.length = a.length ∧ dv (a.drop (a.length - k)) = dv (e.2.2.drop (a.length - k)) * w + dv e.1 ∧ dv e.1 < w) a.length
       ⟨Nat.zero_le _, by show IntKind.i64.wrap _ = _; rw [wr (by omega) (by omega)]; simp, dig_nil, .inl rfl, dig_rep _, by simp, by simp [dv], by simpa [dv] using hw⟩ ?_ ?_) ?_
   · rintro k ⟨rm, i, q⟩ hka hP
     obtain ⟨_, hi, hd, ht, hq, hqn, hv, hlt⟩ : k ≤ a.length ∧ i = ((a.length - k : Nat) : Int) - 1 ∧ dig rm ∧ trm rm ∧ dig q ∧ q.length = a.length ∧ dv (a.drop (a.length - k)) = dv (q.drop (a.length - k)) * w + dv rm ∧ dv rm < w := hP
     obtain ⟨j, hj⟩ : ∃ j, a.length - k = j + 1 := ⟨a.length - k - 1, by omega⟩
     rw [hj] at hi hv
     obtain rfl : i = (j : Int) := by omega
     have hja : j < a.length := by omega
     have hjq : j < q.length := by omega
     have hx := dig_get da hja
     have hrl : rm.length ≤ b.length := dlen hd ht db (by omega)
     have e3 : IntKind.i64.wrap ((j : Int) - 1) = ((a.length - (k + 1) : Nat) : Int) - 1 := by rw [wr (by omega) (by omega)]; omega
     simp only [ile_t (show (0 : Int) ≤ (j : Int) by omega), oite_t, ogrd_t, Int.toNat_natCast, get_i hja, obnd_s]
     rw [ogrd_fits (by simp; omega) (by simp; omega)]
     obtain ⟨r, r1, r2, r3, r4⟩ := f295_d (l := [a[j]] ++ rm) (by simp; omega) (dig_app (dig_one hx) hd)
     rw [r1, obnd_s]
     have r4' : dv r = a[j] + 1000000000 * dv rm := by rw [r4]; simp [dv]
     have hrl2 : r.length ≤ 100001 := by
       rcases Nat.lt_or_ge ([a[j]] ++ rm).length r.length with h9 | h9
       · have := dv_less (dig_app (dig_one hx) hd) r2 r3 h9; omega
       · simp at h9; omega
     obtain ⟨d, d1, d2, d3, d4⟩ := dig_find (b := b) (r := r) db hk (by omega) r2 r3 hrl2 (by rw [r4', hdb]; omega)
     rw [d1, obnd_s, ilt_t (by omega), ogrd_t, blt_t' hjq, ogrd_t]
     obtain ⟨z, q1, q2, q3, q4, q5⟩ := mul_digk (d := d) db hk d2
     rw [q1]
     obtain ⟨m, m1, m2, m3, m4, m5⟩ := f292_e (a := r) (b := z.2) r2 q2 (by omega) (by
       rcases Nat.lt_or_ge r.length z.2.length with h9 | h9
       · have := dv_less r2 q2 q3 h9; omega
       · exact h9) (by omega)
     rw [m1, obnd_s, e3]
     refine .inl ⟨_, rfl, by omega, rfl, m2, m3, dig_set hq (by omega), by simp [hqn], ?_, by show dv m < w; omega⟩
     show dv (a.drop (a.length - (k + 1))) = dv ((q.set j d).drop (a.length - (k + 1))) * w + dv m
     rw [show a.length - (k + 1) = j by omega, drop_set hjq, List.drop_eq_getElem_cons hja]
     simp only [dv]
     rw [hv, m4, q4, r4', hdb]
     grind
   · rintro ⟨rm, i, q⟩ hP
     obtain ⟨_, hi, hd, ht, hq, hqn, hv, hlt⟩ : a.length ≤ a.length ∧ i = ((a.length - a.length : Nat) : Int) - 1 ∧ dig rm ∧ trm rm ∧ dig q ∧ q.length = a.length ∧ dv (a.drop (a.length - a.length)) = dv (q.drop (a.length - a.length)) * w + dv rm ∧ dv rm < w := hP
     rw [Nat.sub_self] at hi hv
     simp only [ile_f (show i < (0 : Int) by omega), oite_f]
     rw [show Nat.beq a.length q.length = true by rw [hqn]; exact Nat.beq_refl _, ogrd_t]
     exact ⟨(q, rm), rfl, hq, hqn, hd, ht, by simpa using hv, hlt⟩
   · rintro ⟨q, rm⟩ hP
     obtain ⟨hq, hqn, hd, ht, hv, hlt⟩ : dig q ∧ q.length = a.length ∧ dig rm ∧ trm rm ∧ dv a = dv q * w + dv rm ∧ dv rm < w := hP
     have h0 := dv_nn hd
     have h1 := dv_nn hq
     obtain ⟨s', l', y1, y2⟩ := f285_e (s := s) (l := q) (by omega) hq (by rcases hs with h | h <;> simp [h])
     simp only []
     rw [y1, obnd_s]
     rcases hs with rfl | rfl
     · refine ⟨(s', l'), rfl, ?_⟩
       have hv' := ha.vl
       have : v / w = 1 * dv q := by
         rw [hv', hv, Int.one_mul, Int.one_mul, Int.add_comm, Int.add_mul_ediv_right _ _ (by omega), Int.ediv_eq_zero_of_lt h0 hlt]; omega
       rw [this]; exact y2
     · have hv' := ha.vl
       have ev : v = -(dv q * w) - dv rm := by omega
       rw [show ilt (-1) 0 = true from rfl, oite_t, obnd_s]
       by_cases hz : rm = []
       · subst hz
         have : v / w = -1 * dv q := by
          rw [ev]; simp only [dv]
          rw [show -(dv q * w) - 0 = (-1 * dv q) * w by grind, Int.mul_ediv_cancel _ (by omega)]
         refine ⟨(s', l'), rfl, ?_⟩
         rw [this]; exact y2
       · have hp : 0 < rm.length := List.length_pos_iff.2 hz
         have hp2 := dv_pos hd ht hz
         have hp3 := pw_pos (rm.length - 1)
         have : v / w = -1 * dv q - 1 := by
          rw [ev, show -(dv q * w) - dv rm = (w - dv rm) + (-1 * dv q - 1) * w by grind, Int.add_mul_ediv_right _ _ (by omega), Int.ediv_eq_zero_of_lt (by omega) (by omega)]; omega
         rw [ilt_t (show (0 : Int) < ((rm.length : Nat) : Int) by omega), oite_t]
         obtain ⟨o, o1, o2⟩ := f273_e (n := 1) (by omega)
         have z1 : szb (-1 * dv q) a.length := by
          have := dv_lt hq
          rw [hqn] at this
          have e : ((1000000000 ^ a.length : Nat) : Int) = (1000000000 : Int) ^ a.length := Int.natCast_pow _ _
          unfold szb; omega
         obtain ⟨u, u1, u2, _⟩ := f280_e y2 o2 (by have := y2.lenB z1; omega) (by have := o2.lenB szb.one; omega)
         rw [o1, obnd_s, u1, obnd_s]
         exact ⟨(u.1, u.2), rfl, by rw [this]; exact u2⟩
end
section
set_option linter.unusedSimpArgs false
set_option linter.unusedVariables false
open Go Go.RowKit
theorem f296_e {s v : Int} {a : List Int} (ha : WD s a v) : ∃ z, f296 s a = some z ∧ WD z.1 z.2 (v.natAbs : Int) := by
 unfold f296
 rcases ha.pos with ⟨rfl, rfl⟩ | ⟨rfl, h⟩ | ⟨rfl, h⟩
 · exact ⟨_, rfl, ha⟩
 · exact ⟨_, rfl, by rw [show (v.natAbs : Int) = v by omega]; exact ha⟩
 · rw [show ilt (-1) 0 = true from rfl, oite_t, ha.neg.1]
   exact ⟨_, rfl, by rw [show (v.natAbs : Int) = -v by omega]; exact ha.neg.2⟩
theorem wgcd_e : ∀ (n : Nat) (e : Int × List Int × Int × List Int) (v w N : Nat), w ≤ n → WD e.1 e.2.1 (v : Int) → WD e.2.2.1 e.2.2.2 (w : Int) → szb v N → szb w N → N ≤ 90000 → ∃ r, oloop (τ := Int × (List Int) × Int × (List Int)) (ρ := Int × (List Int) × Int × (List Int)) (fun e9 =>
    obnd (f286 e9.2.2.1 e9.2.2.2) fun (y12 : Int) =>
    oite ((!(ieq y12 (0 : Int)))) (
     obnd (
      obnd (f289 e9.1 e9.2.1 e9.2.2.1 e9.2.2.2) fun (y19 : Int × (List Int)) =>
      obnd (f274 y19.1 y19.2 e9.2.2.1 e9.2.2.2) fun (y21 : Int × (List Int)) =>
      obnd (f280 e9.1 e9.2.1 y21.1 y21.2) fun (y23 : Int × (List Int)) =>
      some (y23.1, y23.2)
       ) fun (r15 : Int × (List Int)) =>
     some (.inl (e9.2.2.1, e9.2.2.2, r15.1, r15.2))
      ) (
     some (.inr ((e9.1, e9.2.1, e9.2.2.1, e9.2.2.2)))
      )
     ) e = some r ∧ WD r.1 r.2.1 (Nat.gcd v w : Int) := by
  intro n
  induction n with
  | zero =>
    intro e v w N hw hv hb h1 h2 hN
    obtain rfl : w = 0 := by omega
    rcases hb.pos with ⟨h, _⟩ | ⟨_, h⟩ | ⟨_, h⟩
    · refine ⟨(e.1, e.2.1, e.2.2.1, e.2.2.2), oloop_done ?_, by simpa using hv⟩
      unfold f286
      rw [obnd_s, ieq_eq, decide_eq_true h]; rfl
    · simp at h
    · simp at h
  | succ n ih =>
    intro e v w N hw hv hb h1 h2 hN
    rcases hb.pos with ⟨h, hw0⟩ | ⟨h, hw0⟩ | ⟨_, h⟩
    · obtain rfl : w = 0 := by omega
      refine ⟨(e.1, e.2.1, e.2.2.1, e.2.2.2), oloop_done ?_, by simpa using hv⟩
      unfold f286
      rw [obnd_s, ieq_eq, decide_eq_true h]; rfl
    · have hvl := hv.lenB h1
      have hwl := hb.lenB h2
      obtain ⟨q, q1, q2⟩ := f289_e hv hb hw0 (by omega) (by omega)
      have e1 : (v : Int) / (w : Int) = ((v / w : Nat) : Int) := by simp
      have qs : szb ((v : Int) / w) N := h1.le (by rw [e1]; simp only [Int.natAbs_natCast]; exact Nat.div_le_self _ _)
      have hql := q2.lenB qs
      obtain ⟨p, p1, p2, _⟩ := f274_e q2 hb (by omega) (by omega)
      have hdm := Nat.div_add_mod v w
      have e2 : (v : Int) / (w : Int) * w = ((w * (v / w) : Nat) : Int) := by rw [e1, Nat.mul_comm]; simp
      rw [e2] at p2
      have ps : szb ((w * (v / w) : Nat) : Int) N := h1.le (by simp only [Int.natAbs_natCast]; omega)
      have hpl := p2.lenB ps
      obtain ⟨m, m1, m2, _⟩ := f280_e hv p2 (by omega) (by omega)
      have e3 : (v : Int) - ((w * (v / w) : Nat) : Int) = ((v % w : Nat) : Int) := by omega
      rw [e3] at m2
      have hlt : v % w < w := Nat.mod_lt _ (by omega)
      obtain ⟨r, r1, r2⟩ := ih (e.2.2.1, e.2.2.2, m.1, m.2) w (v % w) N (by omega) hb m2 h2 (h2.le (by simp only [Int.natAbs_natCast]; omega)) hN
      refine ⟨r, ?_, by rw [Nat.gcd_comm, ← Nat.gcd_rec, Nat.gcd_comm] at r2; rw [Nat.gcd_comm]; first | exact r2 | (rw [Nat.gcd_comm]; exact r2)⟩
      rw [oloop_step (e' := (e.2.2.1, e.2.2.2, m.1, m.2)) ?_, r1]
      unfold f286
      rw [obnd_s, ieq_eq, decide_eq_false (by omega), Bool.not_false, oite_t, q1, obnd_s, p1, obnd_s, m1]; rfl
    · omega
theorem f288_e {s t v w : Int} {a b : List Int} {N : Nat} (ha : WD s a v) (hb : WD t b w) (h1 : szb v N) (h2 : szb w N) (hN : N ≤ 90000) : ∃ z, f288 s a t b = some z ∧ WD z.1 z.2 (Nat.gcd v.natAbs w.natAbs : Int) := by
 unfold f288
 obtain ⟨x, x1, x2⟩ := f296_e ha
 obtain ⟨y, y1, y2⟩ := f296_e hb
 rw [x1, obnd_s, y1, obnd_s]
 obtain ⟨r, r1, r2⟩ := wgcd_e w.natAbs (x.1, x.2, y.1, y.2) v.natAbs w.natAbs N (Nat.le_refl _) x2 y2 (h1.le (by simp)) (h2.le (by simp)) hN
 rw [r1, obnd_s]
 exact ⟨_, rfl, r2⟩
structure RT (r : Int × List Int × Int × List Int) (q : Rat) : Prop where
 n : WD r.1 r.2.1 q.num
 d : WD r.2.2.1 r.2.2.2 (q.den : Int)
def qsz (q : Rat) (n : Nat) : Prop := szb q.num n ∧ szb q.den n
theorem qsz.mono {q : Rat} {m n : Nat} (h : qsz q m) (hn : m ≤ n) : qsz q n := ⟨h.1.mono hn, h.2.mono hn⟩
theorem divInt_pos {v : Int} {m : Nat} (h : m ≠ 0) : (Rat.divInt v m).num = v / (Nat.gcd v.natAbs m : Int) ∧ (Rat.divInt v m).den = m / Nat.gcd v.natAbs m := by
 rw [Rat.divInt_ofNat, ← Rat.normalize_eq_mkRat h, Rat.normalize_eq]
 exact ⟨rfl, rfl⟩
theorem divInt_sz {v w : Int} {n : Nat} (hw : w ≠ 0) (h1 : szb v n) (h2 : szb w n) : qsz (Rat.divInt v w) n := by
 have key : ∀ (v : Int) (m : Nat), m ≠ 0 → szb v n → szb m n → qsz (Rat.divInt v m) n := by
   intro v m hm h1 h2
   obtain ⟨e1, e2⟩ := divInt_pos (v := v) hm
   unfold qsz
   rw [e1, e2]
   refine ⟨h1.le ?_, h2.le ?_⟩
   · have : (v / (Nat.gcd v.natAbs m : Int)).natAbs = v.natAbs / Nat.gcd v.natAbs m := by
      rw [Int.natAbs_ediv_of_dvd (by exact Int.ofNat_dvd_left.2 (Nat.gcd_dvd_left _ _))]; simp
     rw [this]; exact Nat.div_le_self _ _
   · simp only [Int.natAbs_natCast]; exact Nat.div_le_self _ _
 rcases Int.lt_or_gt_of_ne hw with h | h
 · have := key (-v) w.natAbs (by omega) h1.neg (h2.le (by simp))
   rw [show ((w.natAbs : Nat) : Int) = -w by omega, Rat.neg_divInt_neg] at this
   exact this
 · have := key v w.natAbs (by omega) h1 (h2.le (by simp))
   rw [show ((w.natAbs : Nat) : Int) = w by omega] at this
   exact this
theorem make_pos {s t v : Int} {m N : Nat} {a b : List Int} (ha : WD s a v) (hb : WD t b (m : Int)) (hm : m ≠ 0) (h1 : szb v N) (h2 : szb m N) (hN : N ≤ 90000) : ∃ z : Int × List Int × Int × List Int, (obnd (f288 s a t b) fun (y12 : Int × (List Int)) =>
 obnd (f273 (1 : Int)) fun (y14 : Int × (List Int)) =>
 obnd (f268 y12.1 y12.2 y14.1 y14.2) fun (y16 : Int) =>
 oite ((ieq y16 (0 : Int))) (
  some (s, a, t, b)
   ) (
  obnd (f289 s a y12.1 y12.2) fun (y19 : Int × (List Int)) =>
  obnd (f289 t b y12.1 y12.2) fun (y21 : Int × (List Int)) =>
  some (y19.1, y19.2, y21.1, y21.2)
   )) = some z ∧ RT z (Rat.divInt v m) := by
 obtain ⟨g, g1, g2⟩ := f288_e ha hb h1 h2 hN
 simp only [Int.natAbs_natCast] at g2
 obtain ⟨o, o1, o2⟩ := f273_e (n := 1) (by omega)
 obtain ⟨e1, e2⟩ := divInt_pos (v := v) hm
 have gle : Nat.gcd v.natAbs m ≤ m := Nat.gcd_le_right _ (by omega)
 have gp : 0 < Nat.gcd v.natAbs m := Nat.gcd_pos_of_pos_right _ (by omega)
 have gl := g2.lenB (h2.le (w := (Nat.gcd v.natAbs m : Int)) (by simp only [Int.natAbs_natCast]; exact gle))
 have ol := o2.lenB szb.one
 have al := ha.lenB h1
 have bl := hb.lenB h2
 obtain ⟨c, c1, c2⟩ := f268_e g2 o2 (by omega) (by omega)
 rw [g1, obnd_s, o1, obnd_s, c1, obnd_s, ieq_eq]
 by_cases hg : Nat.gcd v.natAbs m = 1
 · have : c = 0 := by rcases c2 with h | h | h <;> omega
   rw [decide_eq_true this, oite_t]
   refine ⟨_, rfl, ?_, ?_⟩
   · rw [e1, hg]; simpa using ha
   · rw [e2, hg]; simpa using hb
 · have : c ≠ 0 := by rcases c2 with h | h | h <;> omega
   rw [decide_eq_false this, oite_f]
   obtain ⟨x, x1, x2⟩ := f289_e ha g2 (by omega) (by omega) (by omega)
   obtain ⟨y, y1, y2⟩ := f289_e hb g2 (by omega) (by omega) (by omega)
   rw [x1, obnd_s, y1, obnd_s]
   refine ⟨_, rfl, by rw [e1]; exact x2, ?_⟩
   rw [e2]
   simpa using y2
theorem f275_e {s t v w : Int} {N : Nat} {a b : List Int} (ha : WD s a v) (hb : WD t b w) (hw : w ≠ 0) (h1 : szb v N) (h2 : szb w N) (hN : N ≤ 90000) : ∃ z, f275 s a t b = some z ∧ RT z (Rat.divInt v w) := by
 unfold f275 f286
 rw [obnd_s]
 rcases hb.pos with ⟨_, h⟩ | ⟨rfl, h⟩ | ⟨rfl, h⟩
 · exact absurd h hw
 · rw [show ilt 1 0 = false from rfl, oite_f, obnd_s]
   have e : ((w.natAbs : Nat) : Int) = w := by omega
   rw [← e] at hb
   have := make_pos ha hb (by omega) h1 (h2.le (by simp)) hN
   rw [e] at this
   exact this
 · rw [show ilt (-1) 0 = true from rfl, oite_t, ha.neg.1, obnd_s, hb.neg.1, obnd_s, obnd_s]
   have e : ((w.natAbs : Nat) : Int) = -w := by omega
   have hb' := hb.neg.2
   rw [← e] at hb'
   have := make_pos ha.neg.2 hb' (by omega) h1.neg (h2.le (by simp)) hN
   rw [e, Rat.neg_divInt_neg] at this
   exact this
theorem divInt_nd (p : Rat) : Rat.divInt p.num p.den = p := Rat.num_divInt_den p
section
variable {x y : Int × List Int × Int × List Int} {p q : Rat} {m n : Nat}
theorem den_ne (p : Rat) : (p.den : Int) ≠ 0 := by have := p.den_pos; omega
theorem f277_e (hx : RT x p) (hy : RT y q) (h1 : qsz p m) (h2 : qsz q n) (hN : m + n ≤ 90000) : (∃ z, f277 x.1 x.2.1 x.2.2.1 x.2.2.2 y.1 y.2.1 y.2.2.1 y.2.2.2 = some z ∧ RT z (p * q)) ∧ qsz (p * q) (m + n) := by
 have e : p * q = Rat.divInt (p.num * q.num) ((p.den : Int) * (q.den : Int)) := by
  rw [← Rat.divInt_mul_divInt, divInt_nd, divInt_nd]
 have hd : (p.den : Int) * (q.den : Int) ≠ 0 := Int.mul_ne_zero (den_ne p) (den_ne q)
 rw [e]
 refine ⟨?_, divInt_sz hd (h1.1.mul h2.1) (h1.2.mul h2.2)⟩
 unfold f277
 obtain ⟨a, a1, a2, _⟩ := f274_e hx.n hy.n (by have := hx.n.lenB h1.1; omega) (by have := hy.n.lenB h2.1; omega)
 obtain ⟨b, b1, b2, _⟩ := f274_e hx.d hy.d (by have := hx.d.lenB h1.2; omega) (by have := hy.d.lenB h2.2; omega)
 obtain ⟨c, c1, c2⟩ := f275_e a2 b2 hd (h1.1.mul h2.1) (h1.2.mul h2.2) hN
 rw [a1, obnd_s, b1, obnd_s, c1, obnd_s]
 exact ⟨_, rfl, c2⟩
theorem f283_e (hx : RT x p) (hy : RT y q) (hq : q ≠ 0) (h1 : qsz p m) (h2 : qsz q n) (hN : m + n ≤ 90000) : (∃ z, f283 x.1 x.2.1 x.2.2.1 x.2.2.2 y.1 y.2.1 y.2.2.1 y.2.2.2 = some z ∧ RT z (p / q)) ∧ qsz (p / q) (m + n) := by
 have e : p / q = Rat.divInt (p.num * (q.den : Int)) ((p.den : Int) * q.num) := by
  rw [← Rat.divInt_mul_divInt, divInt_nd, ← Rat.inv_divInt, divInt_nd, Rat.div_def]
 have hd : (p.den : Int) * q.num ≠ 0 := Int.mul_ne_zero (den_ne p) (fun h => hq (Rat.num_eq_zero.1 h))
 rw [e]
 refine ⟨?_, divInt_sz hd (h1.1.mul h2.2) (h1.2.mul h2.1)⟩
 unfold f283
 obtain ⟨a, a1, a2, _⟩ := f274_e hx.n hy.d (by have := hx.n.lenB h1.1; omega) (by have := hy.d.lenB h2.2; omega)
 obtain ⟨b, b1, b2, _⟩ := f274_e hx.d hy.n (by have := hx.d.lenB h1.2; omega) (by have := hy.n.lenB h2.1; omega)
 obtain ⟨c, c1, c2⟩ := f275_e a2 b2 hd (h1.1.mul h2.2) (h1.2.mul h2.1) hN
 rw [a1, obnd_s, b1, obnd_s, c1, obnd_s]
 exact ⟨_, rfl, c2⟩
theorem f293_e (hx : RT x p) (hy : RT y q) (h1 : qsz p m) (h2 : qsz q n) (hN : m + n + 1 ≤ 90000) : (∃ z, f293 x.1 x.2.1 x.2.2.1 x.2.2.2 y.1 y.2.1 y.2.2.1 y.2.2.2 = some z ∧ RT z (p + q)) ∧ qsz (p + q) (m + n + 1) := by
 have e : p + q = Rat.divInt (p.num * (q.den : Int) + q.num * (p.den : Int)) ((p.den : Int) * (q.den : Int)) := by
  rw [← Rat.divInt_add_divInt _ _ (den_ne p) (den_ne q), divInt_nd, divInt_nd]
 have hd : (p.den : Int) * (q.den : Int) ≠ 0 := Int.mul_ne_zero (den_ne p) (den_ne q)
 have s1 := h1.1.mul h2.2
 have s2 := h2.1.mul h1.2
 rw [Nat.add_comm n m] at s2
 have s3 := s1.add s2
 have s4 := (h1.2.mul h2.2).mono (Nat.le_succ _)
 rw [e]
 refine ⟨?_, divInt_sz hd s3 s4⟩
 unfold f293
 obtain ⟨a, a1, a2, _⟩ := f274_e hx.n hy.d (by have := hx.n.lenB h1.1; omega) (by have := hy.d.lenB h2.2; omega)
 obtain ⟨b, b1, b2, _⟩ := f274_e hy.n hx.d (by have := hy.n.lenB h2.1; omega) (by have := hx.d.lenB h1.2; omega)
 obtain ⟨d, d1, d2, _⟩ := f281_e a2 b2 (by have := a2.lenB s1; omega) (by have := b2.lenB s2; omega)
 obtain ⟨f, f1, f2, _⟩ := f274_e hx.d hy.d (by have := hx.d.lenB h1.2; omega) (by have := hy.d.lenB h2.2; omega)
 obtain ⟨c, c1, c2⟩ := f275_e d2 f2 hd s3 s4 hN
 rw [a1, obnd_s, b1, obnd_s, d1, obnd_s, f1, obnd_s, c1, obnd_s]
 exact ⟨_, rfl, c2⟩
theorem f294_e (hy : RT y q) : ∃ z, f294 y.1 y.2.1 y.2.2.1 y.2.2.2 = some z ∧ RT z (-q) := by
 unfold f294
 rw [hy.n.neg.1, obnd_s]
 exact ⟨_, rfl, by rw [Rat.neg_num]; exact hy.n.neg.2, by rw [Rat.neg_den]; exact hy.d⟩
theorem qsz.neg (h : qsz q n) : qsz (-q) n := ⟨by rw [Rat.neg_num]; exact h.1.neg, by rw [Rat.neg_den]; exact h.2⟩
theorem f284_e (hx : RT x p) (hy : RT y q) (h1 : qsz p m) (h2 : qsz q n) (hN : m + n + 1 ≤ 90000) : (∃ z, f284 x.1 x.2.1 x.2.2.1 x.2.2.2 y.1 y.2.1 y.2.2.1 y.2.2.2 = some z ∧ RT z (p - q)) ∧ qsz (p - q) (m + n + 1) := by
 obtain ⟨u, u1, u2⟩ := f294_e hy
 obtain ⟨⟨z, z1, z2⟩, z3⟩ := f293_e hx u2 h1 h2.neg hN
 rw [← Rat.sub_eq_add_neg] at z2 z3
 refine ⟨?_, z3⟩
 unfold f284
 rw [u1, obnd_s, z1, obnd_s]
 exact ⟨_, rfl, z2⟩
theorem f282_e (hx : RT x p) : ∃ c, f282 x.1 x.2.1 x.2.2.1 x.2.2.2 = some c ∧ (c = 0 ↔ p = 0) := by
 unfold f282 f286
 rw [obnd_s]
 refine ⟨_, rfl, ?_⟩
 rw [← Rat.num_eq_zero]
 rcases hx.n.pos with ⟨h, k⟩ | ⟨h, k⟩ | ⟨h, k⟩ <;> omega
theorem f278_e (hx : RT x p) (h1 : qsz p m) (hN : m ≤ 90000) : ∃ z, f278 x.1 x.2.1 x.2.2.1 x.2.2.2 = some z ∧ WD z.1 z.2 p.floor := by
 obtain ⟨z, z1, z2⟩ := f289_e hx.n hx.d (by have := p.den_pos; omega) (by have := hx.n.lenB h1.1; omega) (by have := hx.d.lenB h1.2; omega)
 unfold f278
 rw [z1, obnd_s]
 exact ⟨_, rfl, by rw [Rat.floor_def]; exact z2⟩
theorem f271_e {v : Int} (h : -9223372036854775807 ≤ v ∧ v ≤ 9223372036854775807) : ∃ z, f271 v = some z ∧ RT z (v : Rat) := by
 obtain ⟨a, a1, a2⟩ := f273_e h
 obtain ⟨b, b1, b2⟩ := f273_e (n := 1) (by omega)
 unfold f271
 rw [a1, obnd_s, b1, obnd_s]
 exact ⟨_, rfl, by rw [Rat.num_intCast]; exact a2, by rw [Rat.den_intCast]; exact b2⟩
end
end
section
set_option linter.unusedSimpArgs false
set_option linter.unusedVariables false
open Go Go.RowKit
def sumQ : Nat → (Nat → Rat) → Rat
 | 0, _ => 0
 | n + 1, F => sumQ n F + F n
theorem sumQ_congr : ∀ {n : Nat} {F G : Nat → Rat}, (∀ k, k < n → F k = G k) → sumQ n F = sumQ n G
  | 0, _, _, _ => rfl
  | n + 1, F, G, h => by
    simp only [sumQ]
    rw [sumQ_congr fun k hk => h k (by omega), h n (by omega)]
theorem sumQ_sm {f : Rat} : ∀ {n : Nat} {F G : Nat → Rat}, sumQ n (fun k => F k - f * G k) = sumQ n F - f * sumQ n G
  | 0, _, _ => by simp only [sumQ]; grind
  | n + 1, F, G => by
    simp only [sumQ]
    rw [sumQ_sm]; grind
theorem sumQ_mul {f : Rat} : ∀ {n : Nat} {F : Nat → Rat}, sumQ n (fun k => f * F k) = f * sumQ n F
  | 0, _ => by simp only [sumQ]; grind
  | n + 1, F => by
    simp only [sumQ]
    rw [sumQ_mul]; grind
theorem sumQ_add : ∀ {n : Nat} {F G : Nat → Rat}, sumQ n (fun k => F k + G k) = sumQ n F + sumQ n G
  | 0, _, _ => by simp only [sumQ]; grind
  | n + 1, F, G => by
    simp only [sumQ]
    rw [sumQ_add]; grind
theorem sumQ_z : ∀ {n : Nat} {F : Nat → Rat}, (∀ k, k < n → F k = 0) → sumQ n F = 0
  | 0, _, _ => rfl
  | n + 1, F, h => by
    simp only [sumQ]
    rw [sumQ_z fun k hk => h k (by omega), h n (by omega)]; grind
theorem sumQ_one : ∀ {n : Nat} {F : Nat → Rat} {j : Nat}, j < n → (∀ k, k < n → k ≠ j → F k = 0) → sumQ n F = F j
  | 0, _, _, h, _ => absurd h (Nat.not_lt_zero _)
  | n + 1, F, j, hj, h => by
    simp only [sumQ]
    by_cases e : j = n
    · subst e
      rw [sumQ_z fun k hk => h k (by omega) (by omega)]; grind
    · rw [sumQ_one (j := j) (by omega) fun k hk hn => h k (by omega) hn, h n (by omega) (by omega)]; grind
theorem sumQ_two {n : Nat} {F : Nat → Rat} {i c : Nat} (hi : i < n) (hc : c < n) (hic : i ≠ c) (h : ∀ k, k < n → k ≠ i → k ≠ c → F k = 0) : sumQ n F = F i + F c := by
 have e : sumQ n F = sumQ n (fun k => (if k = c then 0 else F k) + (if k = c then F c else 0)) := by
   refine sumQ_congr fun k _ => ?_
   by_cases hk : k = c
   · subst hk; rw [if_pos rfl, if_pos rfl]; grind
   · rw [if_neg hk, if_neg hk]; grind
 rw [e, sumQ_add, sumQ_one (j := i) hi, sumQ_one (j := c) hc, if_neg hic, if_pos rfl]
 · intro k _ hk; exact if_neg hk
 · intro k hk hki
   by_cases hkc : k = c
   · exact if_pos hkc
   · rw [if_neg hkc]; exact h k hk hki hkc
def solE (n : Nat) (M : Nat → Nat → Rat) (Y : Nat → Rat) (t : Rat) : Prop := ∀ i, i < n → sumQ n (fun j => M i j * Y j) = t * M i n
theorem elim_sol {n c : Nat} (hc : c < n) {M M' : Nat → Nat → Rat} {f : Nat → Rat} (h0 : ∀ j, j ≤ n → M' c j = M c j) (h : ∀ i, i < n → i ≠ c → ∀ j, j ≤ n → M' i j = M i j - f i * M c j) {Y : Nat → Rat} {t : Rat} : solE n M' Y t ↔ solE n M Y t := by
 have ec : sumQ n (fun j => M' c j * Y j) = sumQ n (fun j => M c j * Y j) := sumQ_congr fun j hj => by rw [h0 j (by omega)]
 have ei : ∀ i, i < n → i ≠ c → sumQ n (fun j => M' i j * Y j) = sumQ n (fun j => M i j * Y j) - f i * sumQ n (fun j => M c j * Y j) := by
   intro i hi hic
   rw [← sumQ_sm]
   exact sumQ_congr fun j hj => by rw [h i hi hic j (by omega)]; grind
 constructor
 · intro H i hi
   have hcc := H c hc
   rw [ec, h0 n (by omega)] at hcc
   by_cases hic : i = c
   · subst hic; exact hcc
   · have := H i hi
     rw [ei i hi hic, h i hi hic n (by omega), hcc] at this
     grind
 · intro H i hi
   have hcc := H c hc
   by_cases hic : i = c
   · subst hic; rw [ec, h0 n (by omega)]; exact hcc
   · have := H i hi
     rw [ei i hi hic, h i hi hic n (by omega), hcc]
     grind
theorem swap_sol {n : Nat} {M M' : Nat → Nat → Rat} {σ : Nat → Nat} (hσ : ∀ i, i < n → σ i < n) (h2 : ∀ i, i < n → σ (σ i) = i) (h : ∀ i, i < n → ∀ j, j ≤ n → M' i j = M (σ i) j) {Y : Nat → Rat} {t : Rat} : solE n M' Y t ↔ solE n M Y t := by
 have e : ∀ i, i < n → sumQ n (fun j => M' i j * Y j) = sumQ n (fun j => M (σ i) j * Y j) := fun i hi => sumQ_congr fun j hj => by rw [h i hi j (by omega)]
 constructor
 · intro H i hi
   have := H (σ i) (hσ i hi)
   rw [e _ (hσ i hi), h2 i hi, h _ (hσ i hi) n (by omega), h2 i hi] at this
   exact this
 · intro H i hi
   rw [e i hi, h i hi n (by omega)]
   exact H (σ i) (hσ i hi)
structure Dg (n c : Nat) (M : Nat → Nat → Rat) : Prop where
 z : ∀ i, i < n → ∀ j, j < c → i ≠ j → M i j = 0
 nz : ∀ j, j < c → M j j ≠ 0
theorem Dg.hom {n c : Nat} {M : Nat → Nat → Rat} (h : Dg n c M) (hc : c < n) (hp : ∀ i, c ≤ i → i < n → M i c = 0) : ∃ Y, solE n M Y 0 ∧ Y c = 1 := by
 obtain ⟨Y, y1, y2, y3⟩ : ∃ Y : Nat → Rat, Y c = 1 ∧ (∀ j, j < c → Y j = -(M j c) / M j j) ∧ ∀ j, c < j → Y j = 0 :=
   ⟨fun j => if j = c then 1 else if j < c then -(M j c) / M j j else 0, if_pos rfl, fun j hj => (if_neg (by omega)).trans (if_pos hj), fun j hj => (if_neg (by omega)).trans (if_neg (by omega))⟩
 refine ⟨Y, fun i hi => ?_, y1⟩
 by_cases hic : i < c
 · rw [sumQ_two (i := i) (c := c) hi hc (by omega)]
   · rw [y1, y2 i hic]
     have := h.nz i hic
     grind
   · intro k hk hki hkc
     by_cases hk2 : k < c
     · rw [h.z i hi k hk2 (by omega)]; grind
     · rw [y3 k (by omega)]; grind
 · rw [sumQ_z]
   · grind
   · intro k hk
     by_cases hkc : k = c
     · subst hkc; rw [hp i (by omega) hi]; grind
     · by_cases hk2 : k < c
       · rw [h.z i hi k hk2 (by omega)]; grind
       · rw [y3 k (by omega)]; grind
theorem Dg.one {n : Nat} {M : Nat → Nat → Rat} (h : Dg n n M) : solE n M (fun j => M j n / M j j) 1 := by
 intro i hi
 rw [sumQ_one (j := i) hi fun k hk hki => by rw [h.z i hi k hk (by omega)]; grind]
 have := h.nz i hi
 grind
theorem Dg.only {n : Nat} {M : Nat → Nat → Rat} (h : Dg n n M) {Y : Nat → Rat} (hy : solE n M Y 0) {j : Nat} (hj : j < n) : Y j = 0 := by
 have h1 := hy j hj
 rw [sumQ_one (j := j) hj fun k hk hki => by rw [h.z j hj k hk (by omega)]; grind] at h1
 have := h.nz j hj
 grind
end
section
set_option linter.unusedSimpArgs false
set_option linter.unusedVariables false
open Go Go.RowKit
structure MS (n : Nat) (R : List (List R4)) (P : List Nat) (M : Nat → Nat → Rat) (sz : Nat → Nat → Nat) : Prop where
 rl : R.length = n
 pl : P.length = n
 pb : ∀ i, i < n → ∃ b, P[i]? = some b ∧ b < n
 pi : ∀ (i j : Nat) (b : Nat), P[i]? = some b → P[j]? = some b → i = j
 en : ∀ i b, P[i]? = some b → ∃ r, R[b]? = some r ∧ r.length = n + 1 ∧ ∀ j, j ≤ n → ∃ x, r[j]? = some x ∧ RT x (M i j) ∧ qsz (M i j) (sz i j)
variable {n : Nat} {R : List (List R4)} {P : List Nat} {M : Nat → Nat → Rat} {sz : Nat → Nat → Nat}
theorem MS.lt (h : MS n R P M sz) {i b : Nat} (hb : P[i]? = some b) : i < n ∧ b < n := by
 have hi : i < P.length := (List.getElem?_eq_some_iff.1 hb).1
 rw [h.pl] at hi
 obtain ⟨b', h1, h2⟩ := h.pb i hi
 rw [hb] at h1; injection h1 with h1; subst h1
 exact ⟨hi, h2⟩
theorem MS.prm (h : MS n R P M sz) (hn : n ≤ 1000) : prmB P = true := by
 unfold prmB
 rw [List.all_eq_true]
 intro b hb
 obtain ⟨i, hi, rfl⟩ := List.getElem_of_mem hb
 have := (h.lt (List.getElem?_eq_getElem hi)).2
 exact Nat.blt_eq.mpr (by omega)
theorem MS.rowAt (h : MS n R P M sz) {i : Nat} (hi : i < n) : ∃ b r, P[i]? = some b ∧ b < n ∧ R[b]? = some r ∧ r.length = n + 1 ∧ ∀ j, j ≤ n → ∃ x, r[j]? = some x ∧ RT x (M i j) ∧ qsz (M i j) (sz i j) := by
 obtain ⟨b, h1, h2⟩ := h.pb i hi
 obtain ⟨r, h3, h4, h5⟩ := h.en i b h1
 exact ⟨b, r, h1, h2, h3, h4, h5⟩
theorem MS.congr (h : MS n R P M sz) {M' : Nat → Nat → Rat} {sz' : Nat → Nat → Nat} (hM : ∀ i, i < n → ∀ j, j ≤ n → M' i j = M i j) (hs : ∀ i, i < n → ∀ j, j ≤ n → sz i j ≤ sz' i j) : MS n R P M' sz' :=
 ⟨h.rl, h.pl, h.pb, h.pi, fun i b hb => by
  have hi := (h.lt hb).1
  obtain ⟨r, h3, h4, h5⟩ := h.en i b hb
  refine ⟨r, h3, h4, fun j hj => ?_⟩
  obtain ⟨x, h6, h7, h8⟩ := h5 j hj
  rw [hM i hi j hj]
  exact ⟨x, h6, h7, h8.mono (hs i hi j hj)⟩⟩
theorem MS.put (h : MS n R P M sz) {i b k s : Nat} {r : List R4} {y : R4} {q : Rat} (hb : P[i]? = some b) (hr : R[b]? = some r) (hk : k ≤ n) (hy : RT y q) (hq : qsz q s) :
   MS n (R.set b (r.set k y)) P (fun i' j' => if i' = i ∧ j' = k then q else M i' j') (fun i' j' => if i' = i ∧ j' = k then s else sz i' j') := by
 refine ⟨by rw [List.length_set]; exact h.rl, h.pl, h.pb, h.pi, fun i' b' hb' => ?_⟩
 by_cases e : b' = b
 · subst e
   obtain rfl := h.pi _ _ _ hb' hb
   obtain ⟨r', h3, h4, h5⟩ := h.en i' b' hb
   rw [hr] at h3; injection h3 with h3; subst h3
   refine ⟨r.set k y, ?_, by rw [List.length_set]; exact h4, fun j hj => ?_⟩
   · rw [List.getElem?_set_self (by rw [h.rl]; exact (h.lt hb).2)]
   · by_cases ej : j = k
     · subst ej
       exact ⟨y, List.getElem?_set_self (by omega), by rw [if_pos ⟨rfl, rfl⟩]; exact hy, by rw [if_pos ⟨rfl, rfl⟩, if_pos ⟨rfl, rfl⟩]; exact hq⟩
     · obtain ⟨x, h6, h7, h8⟩ := h5 j hj
       exact ⟨x, by rw [List.getElem?_set_ne (Ne.symm ej)]; exact h6, by rw [if_neg fun hh => ej hh.2]; exact h7, by rw [if_neg fun hh => ej hh.2, if_neg fun hh => ej hh.2]; exact h8⟩
 · have ei : i' ≠ i := fun hh => by subst hh; rw [hb] at hb'; injection hb' with hb'; exact e hb'.symm
   obtain ⟨r', h3, h4, h5⟩ := h.en i' b' hb'
   refine ⟨r', by rw [List.getElem?_set_ne (Ne.symm e)]; exact h3, h4, fun j hj => ?_⟩
   obtain ⟨x, h6, h7, h8⟩ := h5 j hj
   exact ⟨x, h6, by rw [if_neg fun hh => ei hh.1]; exact h7, by rw [if_neg fun hh => ei hh.1, if_neg fun hh => ei hh.1]; exact h8⟩
def swp (c p i : Nat) : Nat := if i = p then c else if i = c then p else i
theorem swp_lt {c p i : Nat} (hc : c < n) (hp : p < n) (hi : i < n) : swp c p i < n := by unfold swp; split <;> (try split) <;> omega
theorem swp_2 {c p i : Nat} : swp c p (swp c p i) = i := by
 unfold swp
 by_cases h1 : i = p
 · subst h1
   rw [if_pos rfl]
   by_cases h2 : c = i
   · rw [if_pos h2]; exact h2
   · rw [if_neg h2, if_pos rfl]
 · rw [if_neg h1]
   by_cases h2 : i = c
   · rw [if_pos h2, if_pos rfl]; exact h2.symm
   · rw [if_neg h2, if_neg h1, if_neg h2]
theorem swp_set {c p : Nat} {x47 x52 : Nat} (hc : P[c]? = some x52) (hp : P[p]? = some x47) (i : Nat) : ((P.set c x47).set p x52)[i]? = P[swp c p i]? := by
 have hcl := (List.getElem?_eq_some_iff.1 hc).1
 have hpl := (List.getElem?_eq_some_iff.1 hp).1
 unfold swp
 by_cases h1 : i = p
 · subst h1
   rw [if_pos rfl, List.getElem?_set_self (by rw [List.length_set]; exact hpl), hc]
 · rw [if_neg h1, List.getElem?_set_ne (Ne.symm h1)]
   by_cases h2 : i = c
   · subst h2
     rw [if_pos rfl, List.getElem?_set_self hcl, hp]
   · rw [if_neg h2, List.getElem?_set_ne (Ne.symm h2)]
theorem MS.swap (h : MS n R P M sz) {c p x47 x52 : Nat} (hc : P[c]? = some x52) (hp : P[p]? = some x47) : MS n R ((P.set c x47).set p x52) (fun i j => M (swp c p i) j) (fun i j => sz (swp c p i) j) := by
 refine ⟨h.rl, by rw [List.length_set, List.length_set]; exact h.pl, fun i hi => ?_, fun i j b hi hj => ?_, fun i b hb => ?_⟩
 · rw [swp_set hc hp]
   exact h.pb _ (swp_lt (h.lt hc).1 (h.lt hp).1 hi)
 · rw [swp_set hc hp] at hi hj
   have := congrArg (swp c p) (h.pi _ _ _ hi hj)
   rwa [swp_2, swp_2] at this
 · rw [swp_set hc hp] at hb
   exact h.en _ b hb
theorem pivot_e {c : Nat} (h : MS n R P M sz) (hn : n ≤ 1000) (hc : c < n) : ∃ r, (ogrd (Nat.ble R.length 1000) (
      ogrd (prmB P) (
      oloop (τ := Int) (ρ := Int) (fun e23 =>
       oite ((ilt e23 ((n : Nat) : Int))) (
        ogrd ((ile 0 e23)) (
        ogrd ((ilt e23 ((n : Nat) : Int))) (
        obnd (P[e23.toNat]?) fun (x29 : Nat) =>
        ogrd ((ile 0 ((c : Nat) : Int))) (
        ogrd ((ilt ((c : Nat) : Int) ((n + 1 : Nat) : Int))) (
        obnd (R[x29]?) fun (r35 : List (Int × (List Int) × Int × (List Int))) =>
        obnd (r35[((c : Nat) : Int).toNat]?) fun (x34 : Int × (List Int) × Int × (List Int)) =>
        obnd (f282 x34.1 x34.2.1 x34.2.2.1 x34.2.2.2) fun (y38 : Int) =>
        oite ((ieq y38 (0 : Int))) (
         some (.inl (IntKind.i64.wrap (e23 + (1 : Int))))
          ) (
         some (.inr (e23))
          )
        )
        )
        )
        )
         ) (
        some (.inr (e23))
         )
        ) ((c : Nat) : Int)
      )
      )) = some r ∧ ∃ p : Nat, r = (p : Int) ∧ c ≤ p ∧ p ≤ n ∧ (∀ i, c ≤ i → i < p → M i c = 0) ∧ (p < n → M p c ≠ 0) := by
 rw [h.prm hn, ogrd_t, show Nat.ble R.length 1000 = true from Nat.ble_eq_true_of_le (by rw [h.rl]; exact hn), ogrd_t]
 refine oloop_ex (fun k (e : Int) => ∃ i : Nat, e = (i : Int) ∧ i = c + k ∧ ∀ j, c ≤ j → j < i → M j c = 0) (n - c) ⟨c, rfl, rfl, fun j _ _ => by omega⟩ ?_ ?_
 · rintro k _ hk ⟨i, rfl, rfl, hz⟩
   obtain ⟨b, r, h1, h2, h3, h4, h5⟩ := h.rowAt (i := c + k) (by omega)
   obtain ⟨x, h6, h7, h8⟩ := h5 c (by omega)
   obtain ⟨y, y1, y2⟩ := f282_e h7
   rw [ilt_t (by omega), oite_t, ile_t (by omega), ogrd_t, ogrd_t, Int.toNat_natCast, h1, obnd_s, ile_t (by omega), ogrd_t, ilt_t (by omega), ogrd_t, h3, obnd_s, Int.toNat_natCast, h6, obnd_s, y1, obnd_s, ieq_eq]
   by_cases hy : y = 0
   · rw [decide_eq_true hy, oite_t, w_succ (by omega)]
     refine .inl ⟨_, rfl, c + k + 1, rfl, by omega, fun j hj hj2 => ?_⟩
     by_cases e : j = c + k
     · subst e; exact y2.1 hy
     · exact hz j hj (by omega)
   · rw [decide_eq_false hy, oite_f]
     exact .inr ⟨_, rfl, c + k, rfl, by omega, by omega, hz, fun _ h0 => hy (y2.2 h0)⟩
 · rintro _ ⟨i, rfl, hi, hz⟩
   rw [ilt_f (by omega), oite_f]
   exact ⟨_, rfl, i, rfl, by omega, by omega, hz, fun _ => by omega⟩
end
section
set_option linter.unusedSimpArgs false
set_option linter.unusedVariables false
open Go Go.RowKit
variable {n : Nat} {R : List (List R4)} {P : List Nat} {M : Nat → Nat → Rat} {sz : Nat → Nat → Nat}
theorem MS.ble (h : MS n R P M sz) (hn : n ≤ 1000) : Nat.ble R.length 1000 = true := Nat.ble_eq_true_of_le (by rw [h.rl]; exact hn)
theorem row_e {c i s : Nat} {f : R4} {fq : Rat} (h : MS n R P M sz) (hn : n ≤ 1000) (hc : c < n) (hi : i < n) (hic : i ≠ c) (hf : RT f fq) (hfs : qsz fq (2 * s)) (hs1 : 1 ≤ s) (hs : 5 * s ≤ 90000) (hsi : ∀ j, j ≤ n → sz i j = s) (hsc : ∀ j, j ≤ n → sz c j = s) :
   ∃ R', oloop (τ := Int × (List (List (Int × (List Int) × Int × (List Int))))) (ρ := (List (List (Int × (List Int) × Int × (List Int))))) (fun e103 =>
          oite ((ile e103.1 ((n : Nat) : Int))) (
           obnd (P[((i : Nat) : Int).toNat]?) fun (x107 : Nat) =>
           obnd (P[((i : Nat) : Int).toNat]?) fun (x110 : Nat) =>
           ogrd ((ile 0 e103.1)) (
           ogrd ((ilt e103.1 ((n + 1 : Nat) : Int))) (
           ogrd (Nat.ble e103.2.length 1000) (
           obnd (e103.2[x110]?) fun (r117 : List (Int × (List Int) × Int × (List Int))) =>
           obnd (r117[e103.1.toNat]?) fun (x116 : Int × (List Int) × Int × (List Int)) =>
           obnd (P[((c : Nat) : Int).toNat]?) fun (x120 : Nat) =>
           obnd (e103.2[x120]?) fun (r124 : List (Int × (List Int) × Int × (List Int))) =>
           obnd (r124[e103.1.toNat]?) fun (x123 : Int × (List Int) × Int × (List Int)) =>
           obnd (f277 f.1 f.2.1 f.2.2.1 f.2.2.2 x123.1 x123.2.1 x123.2.2.1 x123.2.2.2) fun (y127 : Int × (List Int) × Int × (List Int)) =>
           obnd (f284 x116.1 x116.2.1 x116.2.2.1 x116.2.2.2 y127.1 y127.2.1 y127.2.2.1 y127.2.2.2) fun (y129 : Int × (List Int) × Int × (List Int)) =>
           obnd (e103.2[x107]?) fun (r131 : List (Int × (List Int) × Int × (List Int))) =>
           ogrd (Nat.blt e103.1.toNat r131.length) (
           some (.inl (((IntKind.i64.wrap (e103.1 + (1 : Int))), (e103.2.set x107 (r131.set e103.1.toNat (y129.1, y129.2.1, y129.2.2.1, y129.2.2.2))))))
           )
           )
           )
           )
            ) (
           oinr (
             ogrd (Nat.ble e103.2.length 1000) (
             some e103.2
             )
             )
            )
           ) (((c : Nat) : Int), R) = some R' ∧ MS n R' P (fun i' j' => if i' = i ∧ c ≤ j' then M i' j' - fq * M c j' else M i' j') (fun i' j' => if i' = i then 5 * s else sz i' j') := by
 refine oloop_ex (fun k (e : Int × List (List R4)) => ∃ m : Nat, e.1 = (m : Int) ∧ m = c + k ∧ MS n e.2 P (fun i' j' => if i' = i ∧ c ≤ j' ∧ j' < m then M i' j' - fq * M c j' else M i' j') (fun i' j' => if i' = i ∧ c ≤ j' ∧ j' < m then 5 * s else sz i' j')) (n + 1 - c)
   ⟨c, rfl, rfl, h.congr (fun i' _ j' _ => if_neg (by omega)) fun i' _ j' _ => by rw [if_neg (by omega)]; exact Nat.le_refl _⟩ ?_ ?_
 · rintro k ⟨_, R1⟩ hk ⟨m, rfl, hm, hS⟩
   have hS : MS n R1 P (fun i' j' => if i' = i ∧ c ≤ j' ∧ j' < m then M i' j' - fq * M c j' else M i' j') (fun i' j' => if i' = i ∧ c ≤ j' ∧ j' < m then 5 * s else sz i' j') := hS
   have hmn : m ≤ n := by omega
   obtain ⟨b, r, h1, h2, h3, h4, h5⟩ := hS.rowAt hi
   obtain ⟨b', r', h1', h2', h3', h4', h5'⟩ := hS.rowAt hc
   obtain ⟨x, x1, x2, x3⟩ := h5 m hmn
   obtain ⟨y, y1, y2, y3⟩ := h5' m hmn
   rw [if_neg (by omega)] at x2 x3
   rw [if_neg (by omega), hsi m hmn] at x3
   rw [if_neg (by omega)] at y2 y3
   rw [if_neg (by omega), hsc m hmn] at y3
   obtain ⟨⟨u, u1, u2⟩, u3⟩ := f277_e hf y2 hfs y3 (by omega)
   obtain ⟨⟨v, v1, v2⟩, v3⟩ := f284_e x2 u2 x3 u3 (by omega)
   simp only [Int.toNat_natCast]
   rw [ile_t (by omega), oite_t, h1, obnd_s, obnd_s, ile_t (by omega), ogrd_t, ilt_t (by omega), ogrd_t, hS.ble hn, ogrd_t, h3, obnd_s, x1, obnd_s, h1', obnd_s, h3', obnd_s, y1, obnd_s, u1, obnd_s, v1, obnd_s, obnd_s, blt_t' (by omega), ogrd_t, w_succ (by omega)]
   refine .inl ⟨_, rfl, m + 1, rfl, by omega, ?_⟩
   refine (hS.put h1 h3 hmn v2 (v3.mono (show s + (2 * s + s) + 1 ≤ 5 * s by omega))).congr (fun i' _ j' _ => ?_) fun i' _ j' _ => ?_
   · by_cases e : i' = i ∧ j' = m
     · obtain ⟨rfl, rfl⟩ := e
       rw [if_pos ⟨rfl, by omega, by omega⟩, if_pos ⟨rfl, rfl⟩]
     · rw [if_neg e]
       by_cases e2 : i' = i ∧ c ≤ j' ∧ j' < m
       · rw [if_pos e2, if_pos ⟨e2.1, e2.2.1, by omega⟩]
       · rw [if_neg e2, if_neg (by omega)]
   · by_cases e : i' = i ∧ j' = m
     · rw [if_pos e, if_pos ⟨e.1, by omega, by omega⟩]; exact Nat.le_refl _
     · rw [if_neg e]
       by_cases e2 : i' = i ∧ c ≤ j' ∧ j' < m
       · rw [if_pos e2, if_pos ⟨e2.1, e2.2.1, by omega⟩]; exact Nat.le_refl _
       · rw [if_neg e2, if_neg (by omega)]; exact Nat.le_refl _
 · rintro ⟨_, R1⟩ ⟨m, rfl, hm, hS⟩
   have hS : MS n R1 P (fun i' j' => if i' = i ∧ c ≤ j' ∧ j' < m then M i' j' - fq * M c j' else M i' j') (fun i' j' => if i' = i ∧ c ≤ j' ∧ j' < m then 5 * s else sz i' j') := hS
   rw [ile_f (by omega), oite_f, hS.ble hn, ogrd_t]
   refine ⟨R1, rfl, hS.congr (fun i' _ j' hj => ?_) fun i' hi' j' hj => ?_⟩
   · by_cases e : i' = i ∧ c ≤ j'
     · rw [if_pos e, if_pos ⟨e.1, e.2, by omega⟩]
     · rw [if_neg e, if_neg (by omega)]
   · by_cases e : i' = i
     · rw [if_pos e]
       split
       · exact Nat.le_refl _
       · subst e; rw [hsi j' hj]; omega
     · rw [if_neg e, if_neg (by omega)]; exact Nat.le_refl _
theorem rows_e {α β : Type} {K : List (List R4) × List Nat → α ⊕ β} {c s : Nat} (h : MS n R P M sz) (hn : n ≤ 1000) (hc : c < n) (hs1 : 1 ≤ s) (hs : 5 * s ≤ 90000) (hsz : ∀ i j, sz i j = s) (hp : M c c ≠ 0) (hz : ∀ j, j < c → M c j = 0) :
    ∃ r, oloop (τ := Int × (List (List (Int × (List Int) × Int × (List Int))))) (ρ := α ⊕ β) (fun e59 =>
        oite ((ilt e59.1 ((n : Nat) : Int))) (
         obnd (
          oite ((ieq e59.1 ((c : Nat) : Int))) (
           ogrd (Nat.ble e59.2.length 1000) (
           some e59.2
           )
            ) (
           ogrd ((ile 0 e59.1)) (
           ogrd ((ilt e59.1 ((n : Nat) : Int))) (
           obnd (P[e59.1.toNat]?) fun (x71 : Nat) =>
           ogrd ((ilt ((c : Nat) : Int) ((n + 1 : Nat) : Int))) (
           ogrd (Nat.ble e59.2.length 1000) (
           obnd (e59.2[x71]?) fun (r77 : List (Int × (List Int) × Int × (List Int))) =>
           obnd (r77[((c : Nat) : Int).toNat]?) fun (x76 : Int × (List Int) × Int × (List Int)) =>
           obnd (f282 x76.1 x76.2.1 x76.2.2.1 x76.2.2.2) fun (y80 : Int) =>
           oite ((ieq y80 (0 : Int))) (
            some e59.2
             ) (
            obnd (
             obnd (P[e59.1.toNat]?) fun (x87 : Nat) =>
             obnd (e59.2[x87]?) fun (r91 : List (Int × (List Int) × Int × (List Int))) =>
             obnd (r91[((c : Nat) : Int).toNat]?) fun (x90 : Int × (List Int) × Int × (List Int)) =>
             obnd (P[((c : Nat) : Int).toNat]?) fun (x94 : Nat) =>
             obnd (e59.2[x94]?) fun (r98 : List (Int × (List Int) × Int × (List Int))) =>
             obnd (r98[((c : Nat) : Int).toNat]?) fun (x97 : Int × (List Int) × Int × (List Int)) =>
             obnd (f283 x90.1 x90.2.1 x90.2.2.1 x90.2.2.2 x97.1 x97.2.1 x97.2.2.1 x97.2.2.2) fun (y101 : Int × (List Int) × Int × (List Int)) =>
             some (y101.1, y101.2.1, y101.2.2.1, y101.2.2.2)
              ) fun (r83 : Int × (List Int) × Int × (List Int)) =>
            oloop (τ := Int × (List (List (Int × (List Int) × Int × (List Int))))) (ρ := (List (List (Int × (List Int) × Int × (List Int))))) (fun e103 =>
             oite ((ile e103.1 ((n : Nat) : Int))) (
              obnd (P[e59.1.toNat]?) fun (x107 : Nat) =>
              obnd (P[e59.1.toNat]?) fun (x110 : Nat) =>
              ogrd ((ile 0 e103.1)) (
              ogrd ((ilt e103.1 ((n + 1 : Nat) : Int))) (
              ogrd (Nat.ble e103.2.length 1000) (
              obnd (e103.2[x110]?) fun (r117 : List (Int × (List Int) × Int × (List Int))) =>
              obnd (r117[e103.1.toNat]?) fun (x116 : Int × (List Int) × Int × (List Int)) =>
              obnd (P[((c : Nat) : Int).toNat]?) fun (x120 : Nat) =>
              obnd (e103.2[x120]?) fun (r124 : List (Int × (List Int) × Int × (List Int))) =>
              obnd (r124[e103.1.toNat]?) fun (x123 : Int × (List Int) × Int × (List Int)) =>
              obnd (f277 r83.1 r83.2.1 r83.2.2.1 r83.2.2.2 x123.1 x123.2.1 x123.2.2.1 x123.2.2.2) fun (y127 : Int × (List Int) × Int × (List Int)) =>
              obnd (f284 x116.1 x116.2.1 x116.2.2.1 x116.2.2.2 y127.1 y127.2.1 y127.2.2.1 y127.2.2.2) fun (y129 : Int × (List Int) × Int × (List Int)) =>
              obnd (e103.2[x107]?) fun (r131 : List (Int × (List Int) × Int × (List Int))) =>
              ogrd (Nat.blt e103.1.toNat r131.length) (
              some (.inl (((IntKind.i64.wrap (e103.1 + (1 : Int))), (e103.2.set x107 (r131.set e103.1.toNat (y129.1, y129.2.1, y129.2.2.1, y129.2.2.2))))))
              )
              )
              )
              )
               ) (
              oinr (
                ogrd (Nat.ble e103.2.length 1000) (
                some e103.2
                )
                )
               )
              ) (((c : Nat) : Int), e59.2)
             )
           )
           )
           )
           )
            )
           ) fun (r63 : (List (List (Int × (List Int) × Int × (List Int))))) =>
         ogrd (Nat.ble r63.length 1000) (
         some (.inl ((IntKind.i64.wrap (e59.1 + (1 : Int))), r63))
         )
          ) (
         oinr (
           ogrd (Nat.ble e59.2.length 1000) (
           some (K (e59.2, P))
           )
           )
          )
         ) ((0 : Int), R) = some r ∧ ∃ R', r = K (R', P) ∧ MS n R' P (fun i j => if i = c then M i j else M i j - (M i c / M c c) * M c j) (fun _ _ => 5 * s) := by
  refine oloop_ex (fun k (e : Int × List (List R4)) => e.1 = (k : Int) ∧ k ≤ n ∧ MS n e.2 P (fun i j => if i < k ∧ i ≠ c then M i j - (M i c / M c c) * M c j else M i j) (fun i j => if i < k ∧ i ≠ c then 5 * s else s)) n
    ⟨rfl, Nat.zero_le _, h.congr (fun i' _ j' _ => if_neg (by omega)) fun i' _ j' _ => by rw [if_neg (by omega), hsz]; exact Nat.le_refl _⟩ ?_ ?_
  · rintro k ⟨_, R1⟩ hk ⟨rfl, _, hS⟩
    have hS : MS n R1 P (fun i j => if i < k ∧ i ≠ c then M i j - (M i c / M c c) * M c j else M i j) (fun i j => if i < k ∧ i ≠ c then 5 * s else s) := hS
    simp only [Int.toNat_natCast]
    rw [ilt_t (by omega), oite_t]
    have key : ∀ R2, MS n R2 P (fun i j => if i < k + 1 ∧ i ≠ c then M i j - (M i c / M c c) * M c j else M i j) (fun i j => if i < k + 1 ∧ i ≠ c then 5 * s else s) → ∃ e' : Int × List (List R4), (ogrd (Nat.ble R2.length 1000) (some (.inl ((IntKind.i64.wrap ((k : Int) + (1 : Int))), R2))) : Option ((Int × List (List R4)) ⊕ (α ⊕ β))) = some (.inl e') ∧ e'.1 = ((k + 1 : Nat) : Int) ∧ k + 1 ≤ n ∧ MS n e'.2 P (fun i j => if i < k + 1 ∧ i ≠ c then M i j - (M i c / M c c) * M c j else M i j) (fun i j => if i < k + 1 ∧ i ≠ c then 5 * s else s) := by
      intro R2 h2
      rw [h2.ble hn, ogrd_t, w_succ (by omega)]
      exact ⟨_, rfl, rfl, by omega, h2⟩
    refine .inl ?_
    rw [ieq_eq]
    by_cases hkc : k = c
    · subst hkc
      rw [decide_eq_true rfl, oite_t, hS.ble hn, ogrd_t, obnd_s]
      refine key R1 (hS.congr (fun i _ j _ => ?_) fun i _ j _ => ?_)
      · by_cases e : i < k + 1 ∧ i ≠ k
        · rw [if_pos e, if_pos (by omega)]
        · rw [if_neg e, if_neg (by omega)]
      · by_cases e : i < k + 1 ∧ i ≠ k
        · rw [if_pos e, if_pos (by omega)]; exact Nat.le_refl _
        · rw [if_neg e, if_neg (by omega)]; exact Nat.le_refl _
    · rw [decide_eq_false (by omega), oite_f]
      obtain ⟨b, r, h1, h2, h3, h4, h5⟩ := hS.rowAt hk
      obtain ⟨b', r', h1', h2', h3', h4', h5'⟩ := hS.rowAt hc
      obtain ⟨x, x1, x2, x3⟩ := h5 c (by omega)
      obtain ⟨y, y1, y2, y3⟩ := h5' c (by omega)
      rw [if_neg (by omega)] at x2 x3
      rw [if_neg (by omega)] at x3
      rw [if_neg (by omega)] at y2 y3
      rw [if_neg (by omega)] at y3
      obtain ⟨z, z1, z2⟩ := f282_e x2
      rw [ile_t (by omega), ogrd_t, ogrd_t, h1, obnd_s, ilt_t (by omega), ogrd_t, hS.ble hn, ogrd_t, h3, obnd_s, x1, obnd_s, z1, obnd_s, ieq_eq]
      by_cases hz0 : z = 0
      · rw [decide_eq_true hz0, oite_t, obnd_s]
        have h0 := z2.1 hz0
        refine key R1 (hS.congr (fun i _ j _ => ?_) fun i _ j _ => ?_)
        · by_cases e : i < k ∧ i ≠ c
          · rw [if_pos e, if_pos (by omega)]
          · rw [if_neg e]
            by_cases e2 : i < k + 1 ∧ i ≠ c
            · rw [if_pos e2]
              obtain rfl : i = k := by omega
              rw [h0]; grind
            · rw [if_neg e2]
        · by_cases e : i < k ∧ i ≠ c
          · rw [if_pos e, if_pos (by omega)]; exact Nat.le_refl _
          · rw [if_neg e]; split <;> omega
      · rw [decide_eq_false hz0, oite_f]
        obtain ⟨⟨f, f1, f2⟩, f3⟩ := f283_e x2 y2 hp x3 y3 (by omega)
        simp only [h1', obnd_s, h3, x1, h3', y1, f1]
        obtain ⟨R2, q1, q2⟩ := row_e (i := k) (f := (f.1, f.2.1, f.2.2.1, f.2.2.2)) hS hn hc hk hkc f2 (f3.mono (by omega)) hs1 hs (fun j _ => if_neg (by omega)) (fun j _ => if_neg (by omega))
        simp only [Int.toNat_natCast, h1, h1', obnd_s] at q1
        rw [q1, obnd_s]
        refine key R2 (q2.congr (fun i _ j _ => ?_) fun i _ j _ => ?_)
        · by_cases ei : i = k
          · subst ei
            rw [if_pos (by omega)]
            by_cases ej : c ≤ j
            · rw [if_pos ⟨rfl, ej⟩, if_neg (by omega), if_neg (by omega)]
            · rw [if_neg (by omega), if_neg (by omega), hz j (by omega)]; grind
          · by_cases e2 : i < k ∧ i ≠ c
            · rw [if_pos (show i < k + 1 ∧ i ≠ c by omega), if_neg (show ¬(i = k ∧ c ≤ j) by omega), if_pos e2]
            · rw [if_neg (show ¬(i < k + 1 ∧ i ≠ c) by omega), if_neg (show ¬(i = k ∧ c ≤ j) by omega), if_neg e2]
        · by_cases ei : i = k
          · rw [if_pos ei, if_pos (by omega)]; exact Nat.le_refl _
          · rw [if_neg ei]
            by_cases e2 : i < k ∧ i ≠ c
            · rw [if_pos e2, if_pos (by omega)]; exact Nat.le_refl _
            · rw [if_neg e2, if_neg (by omega)]; exact Nat.le_refl _
  · rintro ⟨_, R1⟩ ⟨rfl, _, hS⟩
    have hS : MS n R1 P (fun i j => if i < n ∧ i ≠ c then M i j - (M i c / M c c) * M c j else M i j) (fun i j => if i < n ∧ i ≠ c then 5 * s else s) := hS
    rw [ilt_f (by omega), oite_f, hS.ble hn, ogrd_t]
    refine ⟨_, rfl, R1, rfl, hS.congr (fun i hi j _ => ?_) fun i hi j _ => ?_⟩
    · by_cases e : i = c
      · rw [if_pos e, if_neg (by omega)]
      · rw [if_neg e, if_pos ⟨hi, e⟩]
    · split <;> omega
end
section
set_option linter.unusedSimpArgs false
set_option linter.unusedVariables false
open Go Go.RowKit
def SOL (n : Nat) (M0 : Nat → Nat → Rat) (z : List R4 × Bool) : Prop :=
 z.2 = true ∧ (∃ X, solE n M0 X 1 ∧ (∀ Y, solE n M0 Y 0 → ∀ j, j < n → Y j = 0) ∧ z.1.length = n ∧ ∀ j, j < n → ∃ x, z.1[j]? = some x ∧ RT x (X j) ∧ qsz (X j) 6250) ∨ z.2 = false ∧ ∃ Y c, solE n M0 Y 0 ∧ c < n ∧ Y c = 1
theorem Dg.swap {n c p : Nat} {M : Nat → Nat → Rat} (h : Dg n c M) (hc : c < n) (hcp : c ≤ p) (hp : p < n) : Dg n c (fun i j => M (swp c p i) j) := by
 have hs : ∀ j, j < c → swp c p j = j := fun j hj => by unfold swp; rw [if_neg (by omega), if_neg (by omega)]
 have hs2 : ∀ i, c ≤ i → c ≤ swp c p i := fun i hi => by unfold swp; split <;> (try split) <;> omega
 refine ⟨fun i hi j hj hij => h.z _ (swp_lt hc hp hi) j hj ?_, fun j hj => by rw [hs j hj]; exact h.nz j hj⟩
 rcases Nat.lt_or_ge i c with h1 | h1
 · rw [hs i h1]; exact hij
 · have := hs2 i h1; omega
theorem Dg.elim {n c : Nat} {M : Nat → Nat → Rat} (h : Dg n c M) (hc : c < n) (hp : M c c ≠ 0) : Dg n (c + 1) (fun i j => if i = c then M i j else M i j - (M i c / M c c) * M c j) := by
 refine ⟨fun i hi j hj hij => ?_, fun j hj => ?_⟩
 · by_cases e : j = c
   · subst e
     rw [if_neg hij]; grind
   · have h0 := h.z c hc j (by omega) (by omega)
     by_cases ei : i = c
     · rw [if_pos ei]; subst ei; exact h0
     · rw [if_neg ei, h0, h.z i hi j (by omega) hij]; grind
 · by_cases e : j = c
   · rw [if_pos e]; subst e; exact hp
   · rw [if_neg e, h.z c hc j (by omega) (by omega)]
     have := h.nz j (by omega)
     grind
theorem pow5 {c : Nat} (h : c ≤ 5) : 1 ≤ 5 ^ c ∧ 5 ^ c ≤ 3125 := by
 refine ⟨Nat.one_le_pow _ _ (by omega), ?_⟩
 have := Nat.pow_le_pow_right (n := 5) (by omega) h
 omega
theorem f272_e {a0 : List (List R4)} {M0 : Nat → Nat → Rat} (hn1 : 1 ≤ a0.length) (hn5 : a0.length ≤ 5) (hr : ∀ i, i < a0.length → ∃ r, a0[i]? = some r ∧ r.length = a0.length + 1 ∧ ∀ j, j ≤ a0.length → ∃ x, r[j]? = some x ∧ RT x (M0 i j) ∧ qsz (M0 i j) 1) : ∃ z, f272 a0 = some z ∧ SOL a0.length M0 z := by
 obtain ⟨n, hn⟩ : ∃ n, a0.length = n := ⟨_, rfl⟩
 have hlen : ∀ r, r ∈ a0 → r.length = n + 1 := by
   intro r hm
   obtain ⟨i, hi, rfl⟩ := List.getElem_of_mem hm
   obtain ⟨r, h1, h2, _⟩ := hr i hi
   rw [List.getElem?_eq_getElem hi] at h1; injection h1 with h1
   rw [h1, h2, hn]
 have hhd : (a0.headD []).length = n + 1 := by
   cases a0 with
   | nil => simp at hn1
   | cons r t => exact hlen r (List.mem_cons_self ..)
 have hw : mtxW a0 = some (n + 1) := by
   unfold mtxW
   rw [if_pos ⟨hn1, by omega, by omega, by omega, fun r hm => by rw [hhd]; exact hlen r hm⟩, hhd]
 have hS0 : MS n a0 (List.range n) M0 (fun _ _ => 1) := by
   refine ⟨hn, by simp, fun i hi => ⟨i, by simp [hi], hi⟩, fun i j b hi hj => ?_, fun i b hb => ?_⟩
   · have hi' : i < n := by have := (List.getElem?_eq_some_iff.1 hi).1; simpa using this
     have hj' : j < n := by have := (List.getElem?_eq_some_iff.1 hj).1; simpa using this
     rw [List.getElem?_range hi'] at hi
     rw [List.getElem?_range hj'] at hj
     injection hi with hi; injection hj with hj; omega
   · have hi : i < n := by have := (List.getElem?_eq_some_iff.1 hb).1; simpa using this
     have : b = i := by rw [List.getElem?_range hi] at hb; injection hb with hb; exact hb.symm
     subst this
     obtain ⟨r, h1, h2, h3⟩ := hr b (by omega)
     exact ⟨r, h1, by omega, fun j hj => h3 j (by omega)⟩
 unfold f272
 rw [hw, obnd_s]
 simp only [List.length_map, hn]
 rw [hn] at hn1 hn5
 refine obndS_ex (R := fun r => match r with
   | .inl e => ∃ M, MS n e.1 e.2 M (fun _ _ => 5 ^ n) ∧ Dg n n M ∧ ∀ Y t, solE n M Y t ↔ solE n M0 Y t
   | .inr z => SOL n M0 z) ?_ ?_ (fun r h => h)
 · rw [show Nat.ble n 1000 = true from Nat.ble_eq_true_of_le (by omega), ogrd_t, hS0.prm (by omega), ogrd_t]
   refine oloop_ex (fun c (e : Int × List (List R4) × List Nat) => e.1 = (c : Int) ∧ ∃ M, MS n e.2.1 e.2.2 M (fun _ _ => 5 ^ c) ∧ Dg n c M ∧ ∀ Y t, solE n M Y t ↔ solE n M0 Y t) n
     ⟨rfl, M0, hS0, ⟨fun _ _ j hj => absurd hj (Nat.not_lt_zero _), fun j hj => absurd hj (Nat.not_lt_zero _)⟩, fun _ _ => Iff.rfl⟩ ?_ ?_
   · rintro c ⟨_, R1, P1⟩ hc ⟨rfl, M, hS, hD, hM⟩
     have hS : MS n R1 P1 M (fun _ _ => 5 ^ c) := hS
     dsimp only
     have hp5 := pow5 (c := c + 1) (by omega)
     rw [Nat.pow_succ] at hp5
     have hp51 := pow5 (c := c) (by omega)
     obtain ⟨r, r1, p, rfl, p1, p2, p3, p4⟩ := pivot_e hS (by omega) hc
     rw [ilt_t (by omega), oite_t, r1, obnd_s, ieq_eq]
     by_cases hpn : p = n
     · subst hpn
       rw [decide_eq_true rfl, oite_t, obndS_r]
       refine .inr ⟨_, rfl, ?_⟩
       obtain ⟨Y, y1, y2⟩ := hD.hom hc p3
       exact .inr ⟨rfl, Y, c, (hM Y 0).1 y1, hc, y2⟩
     · have hpn : p < n := by omega
       obtain ⟨x47, q1, q2⟩ := hS.pb p hpn
       obtain ⟨x52, q3, q4⟩ := hS.pb c hc
       have hS' := hS.swap q3 q1
       have hpiv : M p c ≠ 0 := p4 hpn
       have esw : swp c p c = p := by unfold swp; split <;> simp_all
       have hD' := hD.swap hc p1 hpn
       obtain ⟨_, v1, R2, rfl, v2⟩ := rows_e (α := List (List R4) × List Nat) (β := (Int × List (List R4) × List Nat) ⊕ ((List (List R4) × List Nat) ⊕ (List R4 × Bool))) (K := Sum.inl) (s := 5 ^ c) hS' (by omega) hc hp51.1 (by omega) (fun _ _ => rfl) (by show M (swp c p c) c ≠ 0; rw [esw]; exact hpiv) (fun j hj => hD'.z c hc j hj (by omega))
       have hD2 := hD'.elim hc (by show M (swp c p c) c ≠ 0; rw [esw]; exact hpiv)
       have hpl : (P1.set c x47).length = n := by rw [List.length_set]; exact hS.pl
       rw [decide_eq_false (by omega), oite_f]
       simp only [Int.toNat_natCast]
       simp only [Int.toNat_natCast] at v1
       rw [ile_t (show (0 : Int) ≤ ((p : Nat) : Int) by omega), ogrd_t, ilt_t (show ((p : Nat) : Int) < ((n : Nat) : Int) by omega), ogrd_t, q1, obnd_s, ile_t (show (0 : Int) ≤ ((c : Nat) : Int) by omega), ogrd_t, ogrd_t, q3, obnd_s, blt_t' (by rw [hS.pl]; exact hc), ogrd_t, blt_t' (by rw [hpl]; exact hpn), ogrd_t, hS.ble (by omega), ogrd_t, hS'.prm (by omega), ogrd_t, v1, obndS_l, v2.ble (by omega), ogrd_t, v2.prm (by omega), ogrd_t, w_succ (by omega)]
       refine .inl ⟨_, rfl, rfl, _, v2.congr (fun _ _ _ _ => rfl) (fun _ _ _ _ => by rw [Nat.pow_succ]; omega), hD2, fun Y t => ?_⟩
       rw [elim_sol hc (M := fun i j => M (swp c p i) j) (f := fun i => M (swp c p i) c / M (swp c p c) c) (fun j _ => if_pos rfl) (fun i _ hic j _ => if_neg hic), swap_sol (M := M) (σ := swp c p) (fun i hi => swp_lt hc hpn hi) (fun i _ => swp_2) (fun _ _ _ _ => rfl)]
       exact hM Y t
   · rintro ⟨_, R1, P1⟩ ⟨rfl, M, hS, hD, hM⟩
     have hS : MS n R1 P1 M (fun _ _ => 5 ^ n) := hS
     dsimp only
     rw [ilt_f (by omega), oite_f, hS.ble (by omega), ogrd_t, hS.prm (by omega), ogrd_t]
     exact ⟨_, rfl, M, hS, hD, hM⟩
 · rintro ⟨R1, P1⟩ ⟨M, hS, hD, hM⟩
   have hS : MS n R1 P1 M (fun _ _ => 5 ^ n) := hS
   have hp5 := pow5 hn5
   dsimp only
   rw [hS.ble (by omega), ogrd_t, hS.prm (by omega), ogrd_t]
   refine obnd_ex (R := fun x => x.length = n ∧ ∀ j, j < n → ∃ y, x[j]? = some y ∧ RT y (M j n / M j j) ∧ qsz (M j n / M j j) 6250) (oloop_ex (fun i (e : List R4 × Int) => e.2 = (i : Int) ∧ e.1.length = i ∧ ∀ j, j < i → ∃ y, e.1[j]? = some y ∧ RT y (M j n / M j j) ∧ qsz (M j n / M j j) 6250) n ⟨rfl, rfl, fun j hj => absurd hj (Nat.not_lt_zero _)⟩ ?_ ?_) ?_
   · rintro i ⟨l, _⟩ hi ⟨rfl, hl, hy⟩
     have hl : l.length = i := hl
     have hy : ∀ j, j < i → ∃ y, l[j]? = some y ∧ RT y (M j n / M j j) ∧ qsz (M j n / M j j) 6250 := hy
     obtain ⟨b, r, h1, h2, h3, h4, h5⟩ := hS.rowAt hi
     obtain ⟨x, x1, x2, x3⟩ := h5 n (Nat.le_refl _)
     obtain ⟨y, y1, y2, y3⟩ := h5 i (by omega)
     obtain ⟨⟨z, z1, z2⟩, z3⟩ := f283_e x2 y2 (hD.nz i hi) x3 y3 (by omega)
     simp only [Int.toNat_natCast]
     rw [ilt_t (show ((i : Nat) : Int) < ((n : Nat) : Int) by omega), oite_t, ile_t (show (0 : Int) ≤ ((i : Nat) : Int) by omega), ogrd_t, ogrd_t, h1, obnd_s, ilt_t (show ((n : Nat) : Int) < ((n + 1 : Nat) : Int) by omega), ogrd_t, h3, obnd_s, x1, obnd_s, obnd_s, ilt_t (show ((i : Nat) : Int) < ((n + 1 : Nat) : Int) by omega), ogrd_t, h3, obnd_s, y1, obnd_s, z1, obnd_s, ogrd_fits (by simp; omega) (by simp; omega), w_succ (by omega)]
     refine .inl ⟨_, rfl, rfl, by simp [hl], fun j hj => ?_⟩
     rcases Nat.lt_or_ge j i with h | h
     · obtain ⟨w, w1, w2⟩ := hy j h
       exact ⟨w, by show (l ++ _)[j]? = _; rw [List.getElem?_append_left (by omega)]; exact w1, w2⟩
     · obtain rfl : j = i := by omega
       exact ⟨_, by show (l ++ _)[j]? = _; rw [List.getElem?_append_right (by omega), hl, Nat.sub_self]; rfl, z2, z3.mono (by omega)⟩
   · rintro ⟨l, _⟩ ⟨rfl, hl, hy⟩
     rw [ilt_f (by omega), oite_f]
     exact ⟨l, rfl, hl, hy⟩
   · rintro x ⟨hl, hx⟩
     exact ⟨_, rfl, .inl ⟨rfl, fun j => M j n / M j j, (hM _ _).1 hD.one, fun Y hY j hj => hD.only ((hM Y 0).2 hY) hj, hl, hx⟩⟩
end
end Go.Proofs.YtgfglinlmnbjbaaGreat.AM
