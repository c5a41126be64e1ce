/- Contracts: basins. Conditions: none. -/
import Derived.Test.YtfdapegcngmknaaAmB1
namespace Go.Proofs.Ytfdapegcngmknaa.AM
open Go Go.RowKit
attribute [local irreducible] ICallV ICalls ploop Recast

def basin (V O : List Int) : Value := .agg #[vints V, vints O]
instance {V O : List Int} : Cl (basin V O) := inferInstanceAs (Cl (.agg #[vints V, vints O]))
def cleanB : List Int → List Int → Bool
  | v :: V, o :: O => (0 ≤ v ∧ v ≤ 1000000000 ∧ 1 ≤ o ∧ o ≤ 1000000000 : Bool) && cleanB V O
  | _, _ => true
/-- The first layer that is out of range. -/
def badB : List Int → List Int → Nat → Option Nat
  | v :: V, o :: O, i => if (0 ≤ v ∧ v ≤ 1000000000) ∧ (1 ≤ o ∧ o ≤ 1000000000) then badB V O (i + 1) else some i
  | _, _, _ => none
def bres (r : Option Nat) : Value := match r with
  | none => .tuple #[.int .i64 0, .int .i64 0]
  | some i => .tuple #[.int .i64 i, .int .i64 2]

theorem copyBasin_c (V O : List Int) (hV : V.length ≤ 1000) (hO : O.length ≤ 1000) : ICalls E 12 [basin V O] AHeap.none fun v _ => v = basin V O := by
  refine ICalls.frz ?_
  refine icalls_fn (pfn_sound ?_)
  conv => whnf
  repeat ((first | (refine ⟨?_, trivial⟩) | (refine ⟨trivial, ?_⟩) | (refine ⟨⟨rfl, trivial⟩, ?_⟩) | (refine ⟨⟨rfl, rfl, trivial⟩, ?_⟩) | (refine ⟨⟨rfl, rfl, rfl, trivial⟩, ?_⟩) | (refine ⟨⟨rfl, rfl, rfl, rfl, trivial⟩, ?_⟩) | (refine ICalls.goF (copyInts_f _ (by assumption)) ?_) | (refine pbr_t (ilt_t (by omega)) ?_) | (refine pbr_f (ilt_f (by omega)) ?_) | (refine pbr_t (ile_t (by omega)) ?_) | (refine pbr_f (ile_f (by omega)) ?_) | (refine pbr_t (ieq_t (by omega)) ?_) | (refine pbr_f (ieq_f (by omega)) ?_) | (refine pbr_f (not_t (ilt_t (by omega))) ?_) | (refine pbr_t (not_f (ilt_f (by omega))) ?_) | (refine pbr_f (not_t (ieq_t (by omega))) ?_) | (refine pbr_t (not_f (ieq_f (by omega))) ?_)); conv => whnf)
  exact ⟨fun _ => false, .aggl (.cons .vtc (.cons .vtc .nil))⟩

theorem checkBasin_shape (V O : List Int) (h : V.length = 0 ∨ O.length ≠ V.length) : ICalls E 11 [basin V O] AHeap.none fun v _ => v = .tuple #[.int .i64 0, .int .i64 10] := by
  refine icalls_fn (pfn_sound ?_)
  have h1 := @len_ints V
  have h2 := @len_ints O
  rcases Nat.eq_zero_or_pos V.length with h0 | h0 <;> rcases Nat.lt_or_ge 20 V.length with h3 | h3
  · exfalso; omega
  all_goals
    conv => whnf
    repeat ((first | (refine (unlessT (by first | rfl | exact ilt_t (by omega) | exact ile_t (by omega) | exact ieq_t (by omega) | exact not_f (ieq_f (by omega)) | exact not_f (ilt_f (by omega)) | exact not_f (ile_f (by omega)) | assumption)).go ?_) | (refine (unlessF (by first | rfl | exact ilt_f (by omega) | exact ile_f (by omega) | exact ieq_f (by omega) | exact not_t (ieq_t (by omega)) | exact not_t (ilt_t (by omega)) | exact not_t (ile_t (by omega)) | assumption)).go ?_) | (refine ICalls.goD (first2 _ _ rfl) (by first | exact .cl | exact .cons .cl (.cons .vt .nil) | exact .cons .vt .nil | exact .cons .vt (.cons .cl .nil)) rfl ?_) | (refine pbr_t (ilt_t (by omega)) ?_) | (refine pbr_f (ilt_f (by omega)) ?_) | (refine pbr_t (ile_t (by omega)) ?_) | (refine pbr_f (ile_f (by omega)) ?_) | (refine pbr_t (ieq_t (by omega)) ?_) | (refine pbr_f (ieq_f (by omega)) ?_) | (refine pbr_f (not_t (ilt_t (by omega))) ?_) | (refine pbr_t (not_f (ilt_f (by omega))) ?_) | (refine pbr_f (not_t (ieq_t (by omega))) ?_) | (refine pbr_t (not_f (ieq_f (by omega))) ?_)); conv => whnf)
    rfl
theorem checkBasin_large (V O : List Int) (h0 : 20 < V.length) (h : O.length = V.length) : ICalls E 11 [basin V O] AHeap.none fun v _ => v = .tuple #[.int .i64 0, .int .i64 8] := by
  refine icalls_fn (pfn_sound ?_)
  have h1 := @len_ints V
  have h2 := @len_ints O
  conv => whnf
  repeat ((first | (refine (unlessT (by first | rfl | exact ilt_t (by omega) | exact ile_t (by omega) | exact ieq_t (by omega) | exact not_f (ieq_f (by omega)) | exact not_f (ilt_f (by omega)) | exact not_f (ile_f (by omega)) | assumption)).go ?_) | (refine (unlessF (by first | rfl | exact ilt_f (by omega) | exact ile_f (by omega) | exact ieq_f (by omega) | exact not_t (ieq_t (by omega)) | exact not_t (ilt_t (by omega)) | exact not_t (ile_t (by omega)) | assumption)).go ?_) | (refine ICalls.goD (first2 _ _ rfl) (by first | exact .cl | exact .cons .cl (.cons .vt .nil) | exact .cons .vt .nil | exact .cons .vt (.cons .cl .nil)) rfl ?_) | (refine pbr_t (ilt_t (by omega)) ?_) | (refine pbr_f (ilt_f (by omega)) ?_) | (refine pbr_t (ile_t (by omega)) ?_) | (refine pbr_f (ile_f (by omega)) ?_) | (refine pbr_t (ieq_t (by omega)) ?_) | (refine pbr_f (ieq_f (by omega)) ?_) | (refine pbr_f (not_t (ilt_t (by omega))) ?_) | (refine pbr_t (not_f (ilt_f (by omega))) ?_) | (refine pbr_f (not_t (ieq_t (by omega))) ?_) | (refine pbr_t (not_f (ieq_f (by omega))) ?_)); conv => whnf)
  rfl
theorem getz {L : List Int} {i : Nat} (h : i < L.length) : ∃ x, L[i]? = some x := ⟨L[i], List.getElem?_eq_getElem h⟩
theorem drop_at {L : List Int} {i : Nat} {x : Int} (h : L[i]? = some x) : L.drop i = x :: L.drop (i + 1) := by
  obtain ⟨h1, h2⟩ := List.getElem?_eq_some_iff.1 h
  rw [← h2]; exact List.drop_eq_getElem_cons h1
theorem badB_at {V O : List Int} {v o : Int} {i : Nat} : badB (v :: V) (o :: O) i = if (0 ≤ v ∧ v ≤ 1000000000) ∧ (1 ≤ o ∧ o ≤ 1000000000) then badB V O (i + 1) else some i := rfl
theorem checkBasin_ok (V O : List Int) (h0 : 0 < V.length) (h3 : V.length ≤ 20) (h : O.length = V.length) : ICalls E 11 [basin V O] AHeap.none fun v _ => v = bres (badB V O 0) := by
  refine icalls_fn (pfn_sound ?_)
  have h1 := @len_ints V
  have h2 := @len_ints O
  conv => whnf
  repeat ((first | (refine (unlessT (by first | rfl | exact ilt_t (by omega) | exact ile_t (by omega) | exact ieq_t (by omega) | exact not_f (ieq_f (by omega)) | exact not_f (ilt_f (by omega)) | exact not_f (ile_f (by omega)) | assumption)).go ?_) | (refine (unlessF (by first | rfl | exact ilt_f (by omega) | exact ile_f (by omega) | exact ieq_f (by omega) | exact not_t (ieq_t (by omega)) | exact not_t (ilt_t (by omega)) | exact not_t (ile_t (by omega)) | assumption)).go ?_) | (refine ICalls.goD (first2 _ _ rfl) (by first | exact .cl | exact .cons .cl (.cons .vt .nil) | exact .cons .vt .nil | exact .cons .vt (.cons .cl .nil)) rfl ?_) | (refine pbr_t (ilt_t (by omega)) ?_) | (refine pbr_f (ilt_f (by omega)) ?_) | (refine pbr_t (ile_t (by omega)) ?_) | (refine pbr_f (ile_f (by omega)) ?_) | (refine pbr_t (ieq_t (by omega)) ?_) | (refine pbr_f (ieq_f (by omega)) ?_) | (refine pbr_f (not_t (ilt_t (by omega))) ?_) | (refine pbr_t (not_f (ilt_f (by omega))) ?_) | (refine pbr_f (not_t (ieq_t (by omega))) ?_) | (refine pbr_t (not_f (ieq_f (by omega))) ?_)); conv => whnf)
  refine ploop_cnt V.length (fun i => [(32, .int .i64 (i : Int))]) (fun i => badB (V.drop i) (O.drop i) i = badB V O 0) .refl rfl ?_ ?_
  · intro i hi hI
    obtain ⟨v, hv⟩ := getz hi
    obtain ⟨o, ho⟩ := getz (show i < O.length by omega)
    rw [drop_at hv, drop_at ho, badB_at] at hI
    by_cases hv1 : 0 ≤ v ∧ v ≤ 1000000000 <;> by_cases ho1 : 1 ≤ o ∧ o ≤ 1000000000
    · rw [if_pos ⟨hv1, ho1⟩] at hI
      conv => whnf
      repeat ((first | (refine obind_intro (nth_ints hv) ?_) | (refine obind_intro (nth_ints ho) ?_) | (refine (within_t (by omega)).go ?_) | (refine (within_f (by omega)).go ?_) | (refine pbr_t (ilt_t (by omega)) ?_) | (refine pbr_f (ilt_f (by omega)) ?_) | (refine pbr_t (ile_t (by omega)) ?_) | (refine pbr_f (ile_f (by omega)) ?_) | (refine pbr_t (ieq_t (by omega)) ?_) | (refine pbr_f (ieq_f (by omega)) ?_) | (refine pbr_f (not_t (ilt_t (by omega))) ?_) | (refine pbr_t (not_f (ilt_f (by omega))) ?_) | (refine pbr_f (not_t (ieq_t (by omega))) ?_) | (refine pbr_t (not_f (ieq_f (by omega))) ?_)); conv => whnf)
      refine ⟨hI, ?_⟩
      rw [wrap_succ (by omega)]
      exact .refl
    all_goals
      rw [if_neg (by omega)] at hI
      conv => whnf
      repeat ((first | (refine obind_intro (nth_ints hv) ?_) | (refine obind_intro (nth_ints ho) ?_) | (refine (within_t (by omega)).go ?_) | (refine (within_f (by omega)).go ?_) | (refine pbr_t (ilt_t (by omega)) ?_) | (refine pbr_f (ilt_f (by omega)) ?_) | (refine pbr_t (ile_t (by omega)) ?_) | (refine pbr_f (ile_f (by omega)) ?_) | (refine pbr_t (ieq_t (by omega)) ?_) | (refine pbr_f (ieq_f (by omega)) ?_) | (refine pbr_f (not_t (ilt_t (by omega))) ?_) | (refine pbr_t (not_f (ilt_f (by omega))) ?_) | (refine pbr_f (not_t (ieq_t (by omega))) ?_) | (refine pbr_t (not_f (ieq_f (by omega))) ?_)); conv => whnf)
      rw [← hI]; rfl
  · intro hI
    conv => whnf
    repeat ((first | (refine pbr_t (ilt_t (by omega)) ?_) | (refine pbr_f (ilt_f (by omega)) ?_) | (refine pbr_t (ile_t (by omega)) ?_) | (refine pbr_f (ile_f (by omega)) ?_) | (refine pbr_t (ieq_t (by omega)) ?_) | (refine pbr_f (ieq_f (by omega)) ?_) | (refine pbr_f (not_t (ilt_t (by omega))) ?_) | (refine pbr_t (not_f (ilt_f (by omega))) ?_) | (refine pbr_f (not_t (ieq_t (by omega))) ?_) | (refine pbr_t (not_f (ieq_f (by omega))) ?_)); conv => whnf)
    rw [← hI]; simp [badB, bres, resV]
theorem refBasin_shape (V O : List Int) (h : V.length = 0 ∨ O.length ≠ V.length) : ICalls E 14 [basin V O] AHeap.none fun v _ => v = .tuple #[.int .i64 0, .int .i64 10] := by
  refine icalls_fn (pfn_sound ?_)
  have h1 := @len_ints V
  have h2 := @len_ints O
  rcases Nat.eq_zero_or_pos V.length with h0 | h0
  all_goals
    conv => whnf
    repeat ((first | (refine pbr_t (ilt_t (by omega)) ?_) | (refine pbr_f (ilt_f (by omega)) ?_) | (refine pbr_t (ile_t (by omega)) ?_) | (refine pbr_f (ile_f (by omega)) ?_) | (refine pbr_t (ieq_t (by omega)) ?_) | (refine pbr_f (ieq_f (by omega)) ?_) | (refine pbr_f (not_t (ilt_t (by omega))) ?_) | (refine pbr_t (not_f (ilt_f (by omega))) ?_) | (refine pbr_f (not_t (ieq_t (by omega))) ?_) | (refine pbr_t (not_f (ieq_f (by omega))) ?_)); conv => whnf)
theorem refBasin_large (V O : List Int) (h0 : 20 < V.length) (h : O.length = V.length) : ICalls E 14 [basin V O] AHeap.none fun v _ => v = .tuple #[.int .i64 0, .int .i64 8] := by
  refine icalls_fn (pfn_sound ?_)
  have h1 := @len_ints V
  have h2 := @len_ints O
  conv => whnf
  repeat ((first | (refine pbr_t (ilt_t (by omega)) ?_) | (refine pbr_f (ilt_f (by omega)) ?_) | (refine pbr_t (ile_t (by omega)) ?_) | (refine pbr_f (ile_f (by omega)) ?_) | (refine pbr_t (ieq_t (by omega)) ?_) | (refine pbr_f (ieq_f (by omega)) ?_) | (refine pbr_f (not_t (ilt_t (by omega))) ?_) | (refine pbr_t (not_f (ilt_f (by omega))) ?_) | (refine pbr_f (not_t (ieq_t (by omega))) ?_) | (refine pbr_t (not_f (ieq_f (by omega))) ?_)); conv => whnf)
theorem refBasin_ok (V O : List Int) (h0 : 0 < V.length) (h3 : V.length ≤ 20) (h : O.length = V.length) : ICalls E 14 [basin V O] AHeap.none fun v _ => v = bres (badB V O 0) := by
  refine icalls_fn (pfn_sound ?_)
  have h1 := @len_ints V
  have h2 := @len_ints O
  conv => whnf
  repeat ((first | (refine pbr_t (ilt_t (by omega)) ?_) | (refine pbr_f (ilt_f (by omega)) ?_) | (refine pbr_t (ile_t (by omega)) ?_) | (refine pbr_f (ile_f (by omega)) ?_) | (refine pbr_t (ieq_t (by omega)) ?_) | (refine pbr_f (ieq_f (by omega)) ?_) | (refine pbr_f (not_t (ilt_t (by omega))) ?_) | (refine pbr_t (not_f (ilt_f (by omega))) ?_) | (refine pbr_f (not_t (ieq_t (by omega))) ?_) | (refine pbr_t (not_f (ieq_f (by omega))) ?_)); conv => whnf)
  refine ploop_cntK [1, 4] V.length (fun i => [(4, .int .i64 (i : Int))]) (fun i => badB (V.drop i) (O.drop i) i = badB V O 0) .refl rfl ?_ ?_
  · intro i hi hI
    obtain ⟨v, hv⟩ := getz hi
    obtain ⟨o, ho⟩ := getz (show i < O.length by omega)
    rw [drop_at hv, drop_at ho, badB_at] at hI
    by_cases hv1 : 0 ≤ v ∧ v ≤ 1000000000 <;> by_cases ho1 : 1 ≤ o ∧ o ≤ 1000000000
    · rw [if_pos ⟨hv1, ho1⟩] at hI
      conv => whnf
      repeat ((first | (refine obind_intro (nth_ints hv) ?_) | (refine obind_intro (nth_ints ho) ?_) | (refine (refWithin_t (by omega)).go ?_) | (refine (refWithin_f (by omega)).go ?_) | (refine pbr_t (ilt_t (by omega)) ?_) | (refine pbr_f (ilt_f (by omega)) ?_) | (refine pbr_t (ile_t (by omega)) ?_) | (refine pbr_f (ile_f (by omega)) ?_) | (refine pbr_t (ieq_t (by omega)) ?_) | (refine pbr_f (ieq_f (by omega)) ?_) | (refine pbr_f (not_t (ilt_t (by omega))) ?_) | (refine pbr_t (not_f (ilt_f (by omega))) ?_) | (refine pbr_f (not_t (ieq_t (by omega))) ?_) | (refine pbr_t (not_f (ieq_f (by omega))) ?_)); conv => whnf)
      refine ⟨hI, ?_⟩
      rw [wrap_succ (by omega)]
      exact .refl
    all_goals
      rw [if_neg (by omega)] at hI
      conv => whnf
      repeat ((first | (refine obind_intro (nth_ints hv) ?_) | (refine obind_intro (nth_ints ho) ?_) | (refine (refWithin_t (by omega)).go ?_) | (refine (refWithin_f (by omega)).go ?_) | (refine pbr_t (ilt_t (by omega)) ?_) | (refine pbr_f (ilt_f (by omega)) ?_) | (refine pbr_t (ile_t (by omega)) ?_) | (refine pbr_f (ile_f (by omega)) ?_) | (refine pbr_t (ieq_t (by omega)) ?_) | (refine pbr_f (ieq_f (by omega)) ?_) | (refine pbr_f (not_t (ilt_t (by omega))) ?_) | (refine pbr_t (not_f (ilt_f (by omega))) ?_) | (refine pbr_f (not_t (ieq_t (by omega))) ?_) | (refine pbr_t (not_f (ieq_f (by omega))) ?_)); conv => whnf)
      rw [← hI]; rfl
  · intro hI
    conv => whnf
    repeat ((first | (refine pbr_t (ilt_t (by omega)) ?_) | (refine pbr_f (ilt_f (by omega)) ?_) | (refine pbr_t (ile_t (by omega)) ?_) | (refine pbr_f (ile_f (by omega)) ?_) | (refine pbr_t (ieq_t (by omega)) ?_) | (refine pbr_f (ieq_f (by omega)) ?_) | (refine pbr_f (not_t (ilt_t (by omega))) ?_) | (refine pbr_t (not_f (ilt_f (by omega))) ?_) | (refine pbr_f (not_t (ieq_t (by omega))) ?_) | (refine pbr_t (not_f (ieq_f (by omega))) ?_)); conv => whnf)
    rw [← hI]; simp [badB, bres]

/-- What a check of a basin yields: an index, and an error. -/
def ckB (V O : List Int) : Int × Int := if V.length = 0 ∨ O.length ≠ V.length then (0, 10) else if 20 < V.length then (0, 8) else match badB V O 0 with
  | none => (0, 0)
  | some i => (i, 2)
def okB (V O : List Int) : Prop := 0 < V.length ∧ V.length ≤ 20 ∧ O.length = V.length ∧ badB V O 0 = none
theorem checkBasin_c (V O : List Int) : ICalls E 11 [basin V O] AHeap.none fun v _ => v = .tuple #[.int .i64 (ckB V O).1, .int .i64 (ckB V O).2] := by
  unfold ckB
  split
  · rename_i h; exact checkBasin_shape V O h
  · rename_i h
    split
    · rename_i h2; exact checkBasin_large V O h2 (by omega)
    · rename_i h2
      have := checkBasin_ok V O (by omega) (by omega) (by omega)
      cases hb : badB V O 0 with
      | none => rw [hb] at this; exact this
      | some i => rw [hb] at this; exact this
theorem refBasin_c (V O : List Int) : ICalls E 14 [basin V O] AHeap.none fun v _ => v = .tuple #[.int .i64 (ckB V O).1, .int .i64 (ckB V O).2] := by
  unfold ckB
  split
  · rename_i h; exact refBasin_shape V O h
  · rename_i h
    split
    · rename_i h2; exact refBasin_large V O h2 (by omega)
    · rename_i h2
      have := refBasin_ok V O (by omega) (by omega) (by omega)
      cases hb : badB V O 0 with
      | none => rw [hb] at this; exact this
      | some i => rw [hb] at this; exact this
theorem ckB_cases (V O : List Int) : (okB V O ∧ ckB V O = (0, 0)) ∨ (ckB V O).2 ≠ 0 := by
  unfold ckB okB
  split
  · right; simp
  · split
    · right; simp
    · cases hb : badB V O 0 with
      | none => left; exact ⟨⟨by omega, by omega, by omega, rfl⟩, rfl⟩
      | some i => right; simp
theorem okB_at : ∀ (V O : List Int) (n : Nat), O.length = V.length → badB V O n = none → ∀ (i : Nat) (v o : Int), V[i]? = some v → O[i]? = some o → (0 ≤ v ∧ v ≤ 1000000000) ∧ (1 ≤ o ∧ o ≤ 1000000000)
  | [], _, n, _, _, i, v, o, hv, _ => by simp at hv
  | v0 :: V, [], n, hl, _, _, _, _, _, _ => by simp at hl
  | v0 :: V, o0 :: O, n, hl, hb, i, v, o, hv, ho => by
    rw [badB_at] at hb
    split at hb
    · rename_i h0
      cases i with
      | zero => simp at hv ho; subst hv; subst ho; exact h0
      | succ i => exact okB_at V O (n + 1) (by simpa using hl) hb i v o (by simpa using hv) (by simpa using ho)
    · cases hb

/-- The time to empty layers. -/
def empS : List Int → List Int → Int
  | v :: V, o :: O => (v + o - 1) / o + empS V O
  | _, _ => 0
theorem empS_snoc : ∀ (V O : List Int) (i : Nat) (v o : Int), V[i]? = some v → O[i]? = some o → empS (V.take (i + 1)) (O.take (i + 1)) = empS (V.take i) (O.take i) + (v + o - 1) / o
  | [], _, i, v, o, hv, _ => by simp at hv
  | _ :: _, [], i, v, o, _, ho => by simp at ho
  | v0 :: V, o0 :: O, 0, v, o, hv, ho => by simp at hv ho; subst hv; subst ho; simp [empS]
  | v0 :: V, o0 :: O, i + 1, v, o, hv, ho => by
    have := empS_snoc V O i v o (by simpa using hv) (by simpa using ho)
    simp only [List.take_succ_cons, empS] at this ⊢
    omega
theorem ceil_bd {v o : Int} (hv : 0 ≤ v ∧ v ≤ 1000000000) (ho : 1 ≤ o ∧ o ≤ 1000000000) : 0 ≤ (v + o - 1) / o ∧ (v + o - 1) / o ≤ 1000000000 := by
  refine ⟨Int.ediv_nonneg (by omega) (by omega), ?_⟩
  have h1 : (v + o - 1) / o < v + 1 := by
    rw [Int.ediv_lt_iff_lt_mul (by omega)]
    have : v * 1 ≤ v * o := Int.mul_le_mul_of_nonneg_left (by omega) (by omega)
    rw [Int.add_mul]; omega
  omega
theorem empS_bd (V O : List Int) (hb : badB V O 0 = none) (hl : O.length = V.length) : ∀ i, i ≤ V.length → 0 ≤ empS (V.take i) (O.take i) ∧ empS (V.take i) (O.take i) ≤ 1000000000 * i
  | 0, _ => by simp [empS]
  | i + 1, h => by
    obtain ⟨v, hv⟩ := getz (show i < V.length by omega)
    obtain ⟨o, ho⟩ := getz (show i < O.length by omega)
    obtain ⟨h1, h2⟩ := okB_at V O 0 hl hb i v o hv ho
    rw [empS_snoc V O i v o hv ho]
    have := empS_bd V O hb hl i (by omega)
    have := ceil_bd h1 h2
    omega

theorem floor_eq {n b : Int} (hb : 0 < b) : n / b = if n.tmod b < 0 then n.tdiv b - 1 else n.tdiv b := by
  rw [Int.tdiv_eq_ediv, Int.tmod_eq_emod]
  have h1 := Int.emod_nonneg n (show b ≠ 0 by omega)
  have h2 := Int.emod_lt_of_pos n hb
  have h3 : Int.sign b = 1 := Int.sign_eq_one_of_pos hb
  split
  · rw [if_neg (by omega)]; omega
  · rw [if_pos (by omega), h3]; omega
theorem tdiv_bd {n b k : Int} (hb : 0 < b) (h : -k ≤ n ∧ n ≤ k) : -k ≤ n.tdiv b ∧ n.tdiv b ≤ k := by
  have h1 : n.tdiv b ≤ n.natAbs := by
    have := Int.natAbs_tdiv_le_natAbs n b; omega
  have h2 : -(n.natAbs : Int) ≤ n.tdiv b := by
    have := Int.natAbs_tdiv_le_natAbs n b; omega
  omega
theorem floor_c {n b : Int} (hb : 0 < b) (hn : -1000000000000000000 ≤ n ∧ n ≤ 1000000000000000000) : ICalls E 66 [.int .i64 n, .int .i64 b] AHeap.none fun v _ => v = .int .i64 (n / b) := by
  refine icalls_fn (pfn_sound ?_)
  have h1 := tdiv_bd hb hn
  have h2 := @floor_eq n b hb
  by_cases h : n.tmod b < 0
  · rw [if_pos h] at h2
    conv => whnf
    repeat ((first | (refine pbr_t (ilt_t (by omega)) ?_) | (refine pbr_f (ilt_f (by omega)) ?_) | (refine pbr_t (ile_t (by omega)) ?_) | (refine pbr_f (ile_f (by omega)) ?_) | (refine pbr_t (ieq_t (by omega)) ?_) | (refine pbr_f (ieq_f (by omega)) ?_) | (refine pbr_f (not_t (ilt_t (by omega))) ?_) | (refine pbr_t (not_f (ilt_f (by omega))) ?_) | (refine pbr_f (not_t (ieq_t (by omega))) ?_) | (refine pbr_t (not_f (ieq_f (by omega))) ?_)); conv => whnf)
    rw [show IntKind.i64.wrap (n.tdiv b) = n.tdiv b from wrap_in (by omega) (by omega), wrap_in (by omega) (by omega), h2]; rfl
  · rw [if_neg h] at h2
    conv => whnf
    repeat ((first | (refine pbr_t (ilt_t (by omega)) ?_) | (refine pbr_f (ilt_f (by omega)) ?_) | (refine pbr_t (ile_t (by omega)) ?_) | (refine pbr_f (ile_f (by omega)) ?_) | (refine pbr_t (ieq_t (by omega)) ?_) | (refine pbr_f (ieq_f (by omega)) ?_) | (refine pbr_f (not_t (ilt_t (by omega))) ?_) | (refine pbr_t (not_f (ilt_f (by omega))) ?_) | (refine pbr_f (not_t (ieq_t (by omega))) ?_) | (refine pbr_t (not_f (ieq_f (by omega))) ?_)); conv => whnf)
    rw [wrap_in (by omega) (by omega), h2]; rfl
theorem ceil_eq {v o : Int} (ho : 0 < o) : -(-v / o) = (v + o - 1) / o := by
  have h1 := Int.emod_nonneg (-v) (show o ≠ 0 by omega)
  have h2 := Int.emod_lt_of_pos (-v) ho
  have h3 := Int.mul_ediv_add_emod (-v) o
  symm
  rw [Int.ediv_eq_iff_of_pos ho]
  generalize -v / o = q at *
  generalize -v % o = r at *
  rw [Int.neg_mul, Int.mul_comm q o]
  constructor <;> omega
theorem ceil_c {v o : Int} (hv : 0 ≤ v ∧ v ≤ 1000000000) (ho : 1 ≤ o ∧ o ≤ 1000000000) : ICalls E 17 [.int .i64 v, .int .i64 o] AHeap.none fun u _ => u = .int .i64 ((v + o - 1) / o) := by
  refine icalls_fn (pfn_sound ?_)
  have h1 := ceil_bd hv ho
  have h2 := @ceil_eq v o (by omega)
  conv => whnf
  rw [wrap_in (by omega) (by omega), show (0 - v) = -v by omega]
  conv => whnf
  repeat ((first | (refine (floor_c (by omega) (by omega)).go ?_) | (refine pbr_t (ilt_t (by omega)) ?_) | (refine pbr_f (ilt_f (by omega)) ?_) | (refine pbr_t (ile_t (by omega)) ?_) | (refine pbr_f (ile_f (by omega)) ?_) | (refine pbr_t (ieq_t (by omega)) ?_) | (refine pbr_f (ieq_f (by omega)) ?_) | (refine pbr_f (not_t (ilt_t (by omega))) ?_) | (refine pbr_t (not_f (ilt_f (by omega))) ?_) | (refine pbr_f (not_t (ieq_t (by omega))) ?_) | (refine pbr_t (not_f (ieq_f (by omega))) ?_)); conv => whnf)
  rw [wrap_in (by omega) (by omega), ← h2]
  simp [resV]
end Go.Proofs.Ytfdapegcngmknaa.AM
