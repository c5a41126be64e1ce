/- Plain laws: the program's determinant is the determinant of the matrix's columns. Conditions: none. -/
import Derived.Test.YtacgibkgojnfeaaGreatDoorAmD1
import Derived.Test.YtacgibkgojnfeaaGreatDoorAmDet
namespace Go.Proofs.YtacgibkgojnfeaaGreatDoor.AM
set_option linter.unusedSimpArgs false
set_option linter.unusedVariables false
open Go Go.RowKit

def rI (b : List Int) (e : Int) : Unit ⊕ Int → Prop
  | .inl _ => e ∉ b
  | .inr y => 0 ≤ y ∧ e ∈ b
theorem f145_e {b : List Int} {e : Int} (hl : b.length ≤ 1000) : ∃ y, f145 b e = some y ∧ (0 ≤ y ↔ e ∈ b) := by
  unfold f145
  refine obndS_ex (R := rI b e) (Q := fun y => 0 ≤ y ↔ e ∈ b) (oloop_ex (R := rI b e) (fun i j => j = (i : Int) ∧ e ∉ b.take i) b.length ⟨rfl, by simp⟩ ?_ ?_) ?_ (fun y h => ⟨fun _ => h.2, fun _ => h.1⟩)
  · rintro i _ hi ⟨rfl, hn⟩
    have t1 : ilt (i : Int) ((b.length : Nat) : Int) = true := ilt_t (by omega)
    have t2 : ile 0 (i : Int) = true := ile_t (by omega)
    simp only [List.length_map, t1, t2, oite_t, ogrd_t, Int.toNat_natCast, get_i hi, obnd_s, w_succ (show i < 1000000 by omega), ieq_eq]
    by_cases he : e = b[i]
    · rw [decide_eq_true he]
      exact .inr ⟨_, rfl, by omega, he ▸ List.getElem_mem hi⟩
    · rw [decide_eq_false he]
      refine .inl ⟨_, rfl, rfl, ?_⟩
      rw [List.take_succ_eq_append_getElem hi, List.mem_append]
      rintro (h | h)
      · exact hn h
      · simp at h; exact he h
  · rintro _ ⟨rfl, hn⟩
    have t1 : ilt ((b.length : Nat) : Int) ((b.length : Nat) : Int) = false := ilt_f (by omega)
    simp only [List.length_map, t1, oite_f]
    exact ⟨_, rfl, by rw [List.take_length] at hn; exact hn⟩
  · intro _ h
    exact ⟨-1, rfl, ⟨fun h0 => absurd h0 (by omega), fun h2 => absurd h2 h⟩⟩
theorem f138_e {b : List Int} {e : Int} (hl : b.length ≤ 1000) : f138 b e = some (decide (e ∈ b)) := by
  unfold f138
  obtain ⟨y, h1, h2⟩ := f145_e (e := e) hl
  rw [h1, obnd_s]
  by_cases h : e ∈ b
  · rw [ile_t (h2.2 h), decide_eq_true h]
  · rw [ile_f (by have := mt h2.1 h; omega), decide_eq_false h]
structure sq (m : List (List Int)) (k : Nat) : Prop where
  len : m.length = k
  row : ∀ r, r ∈ m → r.length = k
  few : k ≤ 5
/-- A matrix's columns. -/
def mcol (m : List (List Int)) (j : Nat) : Col := fun i => (m.getD i []).getD j 0
/-- The product along an order. -/
def oprd (m : List (List Int)) : Nat → List Int → Int
  | _, [] => 1
  | r, x :: t => mcol m x.toNat r * oprd m (r + 1) t
theorem prd_app {m : List (List Int)} {x : Int} : ∀ {b : List Int} {r : Nat}, oprd m r (b ++ [x]) = oprd m r b * mcol m x.toNat (r + b.length)
  | [], r => by simp [oprd]
  | c :: b, r => by
    show mcol m c.toNat r * oprd m (r + 1) (b ++ [x]) = mcol m c.toNat r * oprd m (r + 1) b * _
    rw [prd_app, show r + 1 + b.length = r + (c :: b).length by simp; omega, Int.mul_assoc]
theorem stepD_e {m : List (List Int)} {k : Nat} (hm : sq m k) {o : List Int} (ho : o.length = k) (hi : ∀ x, x ∈ o → 0 ≤ x ∧ x < k) (sg s : Int) : stepD m o sg s = some (IntKind.i64.wrap (s + sg * oprd m 0 o)) := by
  have hk := hm.few
  unfold stepD
  refine ex_eq (obnd_ex (R := fun r => Cg r (sg * oprd m 0 o)) (oloop_ex (fun i e => e.2 = (i : Int) ∧ Cg e.1 (sg * oprd m 0 (o.take i))) k ⟨rfl, .of (by simp [oprd])⟩ ?_ ?_) fun p hp => ⟨_, rfl, ?_⟩)
  · rintro i ⟨p, j⟩ hik ⟨hj, hp⟩
    have hj : j = (i : Int) := hj
    have hp : Cg p (sg * oprd m 0 (o.take i)) := hp
    subst hj
    have h1 : i < o.length := by omega
    have h2 : i < m.length := by rw [hm.len]; exact hik
    have h3 := hi _ (List.getElem_mem h1)
    have h4 := hm.row _ (List.getElem_mem h2)
    have h5 : (o[i]).toNat < (m[i]).length := by omega
    have t1 : ilt (i : Int) ((o.length : Nat) : Int) = true := ilt_t (by omega)
    have t2 : ile 0 (i : Int) = true := ile_t (by omega)
    have t3 : ile 0 o[i] = true := ile_t h3.1
    simp only [List.length_map, t1, t2, t3, oite_t, ogrd_t, Int.toNat_natCast, get_i h1, get_i h2, get_i h5, obnd_s, w_succ (show i < 1000000 by omega)]
    refine .inl ⟨_, rfl, rfl, (Cg.wrap _).trans ((hp.mul _).trans (.of ?_))⟩
    rw [List.take_succ_eq_append_getElem h1, prd_app, Int.mul_assoc, Nat.zero_add, List.length_take, Nat.min_eq_left (by omega)]
    simp only [mcol, List.getD_eq_getElem?_getD, get_i h2, Option.getD_some, get_i h5]
  · rintro ⟨p, j⟩ ⟨hj, hp⟩
    have hj : j = (k : Int) := hj
    subst hj
    have t1 : ilt (k : Int) ((o.length : Nat) : Int) = false := ilt_f (by omega)
    simp only [List.length_map, t1, oite_f]
    refine ⟨_, rfl, ?_⟩
    rw [List.take_of_length_le (by omega)] at hp; exact hp
  · exact ((Cg.wrap _).trans (Cg.rfl.add hp)).eq (wrap_r _)
/-- The columns from i on, n of them, that are not in a beginning. -/
def av (b : List Int) : Nat → Nat → List Nat
  | _, 0 => []
  | i, n + 1 => if (i : Int) ∈ b then av b (i + 1) n else i :: av b (i + 1) n
theorem av_app {b : List Int} : ∀ {n m i : Nat}, av b i (n + m) = av b i n ++ av b (i + n) m
  | 0, m, i => by simp [av]
  | n + 1, m, i => by
    rw [show n + 1 + m = (n + m) + 1 by omega]
    simp only [av]
    rw [av_app (n := n) (m := m) (i := i + 1), show i + 1 + n = i + (n + 1) by omega]
    split <;> rfl
theorem av_out {b : List Int} {j : Nat} : ∀ {n i : Nat}, j < i ∨ i + n ≤ j → av (b ++ [(j : Int)]) i n = av b i n
  | 0, _, _ => rfl
  | n + 1, i, h => by
    simp only [av]
    rw [av_out (by omega)]
    have : ((i : Int) ∈ b ++ [(j : Int)]) = ((i : Int) ∈ b) := by
      simp only [List.mem_append, List.mem_singleton, eq_iff_iff]
      constructor
      · rintro (h | h)
        · exact h
        · omega
      · exact .inl
    simp only [this]
theorem av_push {b : List Int} {j k : Nat} (h : j < k) : av (b ++ [(j : Int)]) 0 k = av b 0 j ++ av b (j + 1) (k - (j + 1)) := by
  rw [show k = j + (1 + (k - (j + 1))) by omega, av_app, av_app, av_out (by omega), av_out (i := 0 + j + 1) (by omega)]
  rw [show av (b ++ [(j : Int)]) (0 + j) 1 = [] by simp [av], Nat.zero_add, List.nil_append]
  rw [show j + (1 + (k - (j + 1))) - (j + 1) = k - (j + 1) by omega]
/-- What is added from the column i on. -/
noncomputable def later (m : List (List Int)) (b : List Int) (k i : Nat) : Int := altS (fun c => c b.length) (fun l => det (k - (b.length + 1)) (b.length + 1) ((av b 0 i).map (mcol m) ++ l)) ((av b i (k - i)).map (mcol m))
theorem later_in {m : List (List Int)} {b : List Int} {k i : Nat} (h : i < k) (hi : (i : Int) ∈ b) : later m b k i = later m b k (i + 1) := by
  unfold later
  have h1 : av b i (k - i) = av b (i + 1) (k - (i + 1)) := by
    rw [show k - i = (k - (i + 1)) + 1 by omega]
    simp only [av]; rw [if_pos hi]
  have h2 : av b 0 (i + 1) = av b 0 i := by
    rw [av_app]; simp [av, hi]
  rw [h1, h2]
theorem later_out {m : List (List Int)} {b : List Int} {k i : Nat} (h : i < k) (hi : (i : Int) ∉ b) : later m b k i = mcol m i b.length * det (k - (b.length + 1)) (b.length + 1) ((av (b ++ [(i : Int)]) 0 k).map (mcol m)) - later m b k (i + 1) := by
  unfold later
  have h1 : av b i (k - i) = i :: av b (i + 1) (k - (i + 1)) := by
    rw [show k - i = (k - (i + 1)) + 1 by omega]
    simp only [av]; rw [if_neg hi]
  have h2 : av b 0 (i + 1) = av b 0 i ++ [i] := by
    rw [av_app]; simp [av, hi]
  rw [h1, h2, av_push h, List.map_cons, List.map_append, List.map_append]
  simp only [altS, List.map_cons, List.map_nil, List.append_assoc, List.cons_append, List.nil_append]
theorem later_end {m : List (List Int)} {b : List Int} {k : Nat} : later m b k k = 0 := by
  unfold later; rw [Nat.sub_self]; rfl
theorem later_0 {m : List (List Int)} {b : List Int} {k : Nat} (h : b.length < k) : later m b k 0 = det (k - b.length) b.length ((av b 0 k).map (mcol m)) := by
  unfold later
  rw [show k - b.length = (k - (b.length + 1)) + 1 by omega]
  simp only [det, av, List.map_nil, List.nil_append, Nat.sub_zero]
theorem d125n_e {m : List (List Int)} {k : Nat} (hm : sq m k) : ∀ (n : Nat) (b : List Int) (g s : Int), b ≠ [] → b.length ≤ k → k < n + b.length → (∀ x, x ∈ b → 0 ≤ x ∧ x < k) → i64 s → (g = 1 ∨ g = -1) → d125n m n b (k : Int) g s = some (IntKind.i64.wrap (s + g * (oprd m 0 b * det (k - b.length) b.length ((av b 0 k).map (mcol m)))))
  | 0, b, _, _, _, h1, h2, _, _, _ => by omega
  | n + 1, b, g, s, hb, h1, h2, h3, hs, hg => by
    have hk := hm.few
    show r125 (stepD m) (d125n m n) b (k : Int) g s = _
    unfold r125
    simp only [List.length_map, ieq_eq]
    by_cases hbk : b.length = k
    · rw [decide_eq_true (show (b.length : Int) = (k : Int) by omega), oite_t, stepD_e hm hbk h3]
      simp only [obnd_s, hbk, Nat.sub_self, det, Int.mul_one]
    · rw [decide_eq_false (show ¬ (b.length : Int) = (k : Int) by omega), oite_f, ← later_0 (by omega)]
      refine ex_eq (obnd_ex (R := fun r => r = IntKind.i64.wrap (s + g * (oprd m 0 b * later m b k 0))) (oloop_ex (fun i e => e.2.1 = (i : Int) ∧ i64 e.2.2 ∧ (e.1 = 1 ∨ e.1 = -1) ∧ Cg (e.2.2 + e.1 * (oprd m 0 b * later m b k i)) (s + g * (oprd m 0 b * later m b k 0))) k ⟨rfl, hs, hg, .rfl⟩ ?_ ?_) fun y hy => ⟨y, rfl, hy⟩)
      · rintro i ⟨g', j, s1⟩ hik ⟨hj, hs1, hg1, hc⟩
        have hj : j = (i : Int) := hj
        subst hj
        have hs1 : i64 s1 := hs1
        have hg1 : g' = 1 ∨ g' = -1 := hg1
        have hc : Cg (s1 + g' * (oprd m 0 b * later m b k i)) (s + g * (oprd m 0 b * later m b k 0)) := hc
        have t1 : ilt (i : Int) (k : Int) = true := ilt_t (by omega)
        simp only [t1, oite_t, f138_e (b := b) (e := (i : Int)) (by omega), obnd_s, w_succ (show i < 1000000 by omega)]
        by_cases hin : (i : Int) ∈ b
        · rw [decide_eq_true hin, oite_t]
          exact .inl ⟨_, rfl, rfl, hs1, hg1, by rw [← later_in hik hin]; exact hc⟩
        · rw [decide_eq_false hin, oite_f]
          obtain ⟨a, r, rfl⟩ : ∃ a r, b = a :: r := by
            cases b with
            | nil => exact absurd rfl hb
            | cons a r => exact ⟨a, r, rfl⟩
          have h73 : f73 (a :: r) = some (a :: r) := by
            show (if fits 8 (a :: r).length = true then some (a :: r) else none) = _
            rw [if_pos (fits_t (by omega) (by omega))]
          rw [h73, obnd_s, ogrd_fits (by simp at h1 ⊢; omega) (by simp at h1 ⊢; omega)]
          rw [d125n_e hm n ((a :: r) ++ [(i : Int)]) g' s1 (by simp) (by simp at h1 hbk ⊢; omega) (by simp at h2 ⊢; omega) (fun x hx => by
            rw [List.mem_append] at hx
            rcases hx with hx | hx
            · exact h3 x hx
            · simp at hx; subst hx; omega) hs1 hg1, obnd_s]
          refine .inl ⟨_, rfl, rfl, wrap_r _, ?_, ?_⟩
          · rcases hg1 with rfl | rfl
            · exact .inr (by rw [wr (by omega) (by omega)]; omega)
            · exact .inl (by rw [wr (by omega) (by omega)]; omega)
          · have hw : IntKind.i64.wrap (0 - g') = -g' := by
              rcases hg1 with rfl | rfl <;> rw [wr (by omega) (by omega)] <;> omega
            show Cg (IntKind.i64.wrap _ + IntKind.i64.wrap (0 - g') * _) _
            rw [hw]
            refine (((Cg.wrap _).add .rfl).trans (.of ?_)).trans hc
            rw [later_out hik hin, prd_app, List.length_append, Nat.zero_add]
            simp only [List.length_cons, List.length_nil, Int.toNat_natCast]
            grind
      · rintro ⟨g', j, s1⟩ ⟨hj, hs1, hg1, hc⟩
        have hj : j = (k : Int) := hj
        subst hj
        have t1 : ilt (k : Int) (k : Int) = false := ilt_f (by omega)
        simp only [t1, oite_f]
        refine ⟨_, rfl, ?_⟩
        rw [later_end] at hc
        refine Cg.eq ?_ hs1
        refine (Cg.of ?_).trans hc
        show s1 = s1 + g' * (oprd m 0 b * 0)
        rw [Int.mul_zero, Int.mul_zero]; omega
/-- The columns of a matrix. -/
def cols (m : List (List Int)) (k : Nat) : List Col := (List.range k).map (mcol m)
theorem av_nil : ∀ {n i : Nat}, av [] i n = (List.range n).map (· + i)
  | 0, _ => rfl
  | n + 1, i => by
    simp only [av, List.not_mem_nil, if_false]
    rw [av_nil, List.range_succ_eq_map, List.map_cons, List.map_map, Nat.zero_add]
    refine congrArg _ (List.map_congr_left fun j _ => ?_)
    simp only [Function.comp]; omega
theorem av_all {k : Nat} : av [] 0 k = List.range k := by
  rw [av_nil]; simp
theorem f96_e {m : List (List Int)} {k : Nat} (hm : sq m k) : f96 m = some (IntKind.i64.wrap (det k 0 (cols m k))) := by
  have hk := hm.few
  have hl := hm.len
  unfold f96
  simp only [List.length_map, hl, ieq_eq]
  by_cases h0 : k = 0
  · rw [decide_eq_true (show (0 : Int) = (k : Int) by omega), oite_t, stepD_e hm (o := []) (by simp [h0]) (by intro x hx; cases hx)]
    subst h0
    simp [obnd_s, oprd, det]
  · rw [decide_eq_false (show ¬ (0 : Int) = (k : Int) by omega), oite_f]
    have e0 : later m [] k 0 = det k 0 (cols m k) := by
      rw [later_0 (by simp; omega)]
      simp only [List.length_nil, Nat.sub_zero, av_all, cols]
    rw [← e0]
    refine ex_eq (obnd_ex (R := fun r => r = IntKind.i64.wrap (later m [] k 0)) ?_ fun y hy => ⟨y, rfl, hy⟩)
    refine obnd_ex (R := fun r => r = IntKind.i64.wrap (later m [] k 0)) (oloop_ex (fun i e => e.2.1 = (i : Int) ∧ i64 e.2.2 ∧ (e.1 = 1 ∨ e.1 = -1) ∧ Cg (e.2.2 + e.1 * later m [] k i) (later m [] k 0)) k ⟨rfl, ⟨by show -9223372036854775808 ≤ (0 : Int); omega, by show (0 : Int) < 9223372036854775808; omega⟩, .inl rfl, .of ?_⟩ ?_ ?_) fun y hy => ⟨y, rfl, hy⟩
    · show 0 + 1 * later m [] k 0 = _
      omega
    · rintro i ⟨g', j, s1⟩ hik ⟨hj, hs1, hg1, hc⟩
      have hj : j = (i : Int) := hj
      subst hj
      have hs1 : i64 s1 := hs1
      have hg1 : g' = 1 ∨ g' = -1 := hg1
      have hc : Cg (s1 + g' * later m [] k i) (later m [] k 0) := hc
      have t1 : ilt (i : Int) (k : Int) = true := ilt_t (by omega)
      simp only [t1, oite_t, f138_e (b := []) (e := (i : Int)) (by simp), obnd_s, w_succ (show i < 1000000 by omega)]
      rw [decide_eq_false (by simp), oite_f]
      unfold d125
      rw [d125n_e hm ((k : Int).toNat + 1) [(i : Int)] g' s1 (by simp) (by simp; omega) (by simp; omega) (fun x hx => by simp at hx; subst hx; omega) hs1 hg1, obnd_s]
      have hw : IntKind.i64.wrap (0 - g') = -g' := by
        rcases hg1 with rfl | rfl <;> rw [wr (by omega) (by omega)] <;> omega
      refine .inl ⟨_, rfl, rfl, wrap_r _, ?_, ?_⟩
      · show IntKind.i64.wrap (0 - g') = 1 ∨ IntKind.i64.wrap (0 - g') = -1
        rw [hw]; omega
      · show Cg (IntKind.i64.wrap _ + IntKind.i64.wrap (0 - g') * _) _
        rw [hw]
        refine (((Cg.wrap _).add .rfl).trans (.of ?_)).trans hc
        rw [later_out hik (by simp)]
        simp only [oprd, List.nil_append, List.length_nil, List.length_cons, Int.toNat_natCast, Nat.zero_add, Int.mul_one]
        grind
    · rintro ⟨g', j, s1⟩ ⟨hj, hs1, hg1, hc⟩
      have hj : j = (k : Int) := hj
      subst hj
      have t1 : ilt (k : Int) (k : Int) = false := ilt_f (by omega)
      simp only [t1, oite_f]
      refine ⟨_, rfl, ?_⟩
      rw [later_end] at hc
      refine Cg.eq ?_ hs1
      refine (Cg.of ?_).trans hc
      show s1 = s1 + g' * 0
      omega
end Go.Proofs.YtacgibkgojnfeaaGreatDoor.AM
