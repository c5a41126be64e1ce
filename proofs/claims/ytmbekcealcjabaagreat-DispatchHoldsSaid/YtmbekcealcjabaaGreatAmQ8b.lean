/- Plain laws of chapter 8: the program's best plan that holds a reserve. Conditions: none. -/
import Derived.Test.YtmbekcealcjabaaGreatAmQ3
namespace Go.Proofs.YtmbekcealcjabaaGreat.AM
section
set_option linter.unusedSimpArgs false
set_option linter.unusedVariables false
open Go Go.RowKit

/-! ### Values -/
def never : Int := -100000000000
section
variable (lo up : Int) (M : List (ByteArray × Int × Int × Int)) (H : List (Int × Int × Int)) (w : Int) (hd : Nat → Int → Bool)
/-- The greatest of never and what the first modes bring. -/
def potJ (pk : Int → Nat → Int) (t : Nat) (v : Int) (b : Nat) : Nat → Int
  | 0 => never
  | j + 1 => bif inR lo up (aft M H v t j) then max (potJ pk t v b j) (rev M H t b j + pk (aft M H v t j) j) else potJ pk t v b j
def pot : Nat → Int → Nat → Int
  | 0, v, _ => w * v
  | k + 1, v, b => bif hd (H.length - (k + 1)) v then potJ lo up M H (pot k) (H.length - (k + 1)) v b M.length else never
/-- The same, where it is marked what is possible. -/
def optJ (ok : Int → Nat → Option Int) (t : Nat) (v : Int) (b : Nat) : Nat → Option Int
  | 0 => none
  | j + 1 => bif inR lo up (aft M H v t j) then
      match ok (aft M H v t j) j with
      | none => optJ ok t v b j
      | some y => match optJ ok t v b j with
        | none => some (rev M H t b j + y)
        | some z => some (bif decide (z < rev M H t b j + y) then rev M H t b j + y else z)
    else optJ ok t v b j
def opt : Nat → Int → Nat → Option Int
  | 0, v, _ => some (w * v)
  | k + 1, v, b => bif hd (H.length - (k + 1)) v then optJ lo up M H (opt k) (H.length - (k + 1)) v b M.length else none
end
/-- Near the number, or near never. -/
def relV (k : Nat) (p : Int) : Option Int → Prop
  | some x => p = x ∧ -10000000000 - 100010000 * (k : Int) ≤ x ∧ x ≤ 10000000000 + 100010000 * (k : Int)
  | none => never - 100010000 * (k : Int) ≤ p ∧ p ≤ never + 100010000 * (k : Int)
section
variable {lo up v m w : Int} {M : List (ByteArray × Int × Int × Int)} {H : List (Int × Int × Int)} {P : List Int} {hd : Nat → Int → Bool}
theorem rel_J (k : okT lo up M v m w H) {q t : Nat} (hq : q ≤ 9) (ht : t < H.length) {pk : Int → Nat → Int} {ok : Int → Nat → Option Int} (hr : ∀ x j, lo ≤ x → x ≤ up → j < M.length → relV q (pk x j) (ok x j)) {x : Int} {b : Nat} :
    ∀ j, j ≤ M.length → match optJ lo up M H ok t x b j with
      | some y => potJ lo up M H pk t x b j = y ∧ -10000000000 - 100010000 * ((q + 1 : Nat) : Int) ≤ y ∧ y ≤ 10000000000 + 100010000 * ((q + 1 : Nat) : Int)
      | none => never ≤ potJ lo up M H pk t x b j ∧ potJ lo up M H pk t x b j ≤ never + 100010000 * ((q + 1 : Nat) : Int)
  | 0, _ => by simp only [optJ, potJ]; omega
  | j + 1, hj => by
    have ih := rel_J k hq ht hr (x := x) (b := b) j (by omega)
    simp only [optJ, potJ]
    cases h1 : inR lo up (aft M H x t j) with
    | false => simp only [cond_false]; exact ih
    | true =>
      have h2 := inR_p h1
      have h3 := hr _ j h2.1 h2.2 (by omega)
      have h4 := rev_b k (b := b) ht (show j < M.length by omega)
      simp only [cond_true]
      generalize rev M H t b j = r at *
      generalize pk (aft M H x t j) j = p at *
      generalize ok (aft M H x t j) j = o at *
      generalize potJ lo up M H pk t x b j = p' at *
      generalize optJ lo up M H ok t x b j = o' at *
      unfold never at *
      cases o with
      | none =>
        simp only [relV, never] at h3
        cases o' with
        | none => simp only at ih ⊢; omega
        | some z => simp only at ih ⊢; omega
      | some y =>
        simp only [relV] at h3
        cases o' with
        | none => simp only at ih ⊢; omega
        | some z =>
          simp only at ih ⊢
          by_cases h5 : z < r + y
          · rw [decide_eq_true h5]; simp only [cond_true]; omega
          · rw [decide_eq_false h5]; simp only [cond_false]; omega
theorem rel_pot (k : okT lo up M v m w H) : ∀ (q : Nat) (x : Int) (b : Nat), q ≤ H.length → lo ≤ x → x ≤ up → relV q (pot lo up M H w hd q x b) (opt lo up M H w hd q x b)
  | 0, x, b, _, h1, h2 => by
    have h := wv_b k h1 h2
    have e : ((0 : Nat) : Int) = 0 := rfl
    refine ⟨rfl, ?_, ?_⟩ <;> rw [e] <;> omega
  | q + 1, x, b, hq, h1, h2 => by
    have hf := k.hfew
    simp only [pot, opt]
    cases hd (H.length - (q + 1)) x with
    | false => simp only [cond_false, relV]; omega
    | true =>
      simp only [cond_true]
      have h := rel_J k (q := q) (t := H.length - (q + 1)) (by omega) (by omega) (pk := pot lo up M H w hd q) (ok := opt lo up M H w hd q) (fun y j hy1 hy2 hj => rel_pot k q y j (by omega) hy1 hy2) (x := x) (b := b) M.length (Nat.le_refl _)
      cases h3 : optJ lo up M H (opt lo up M H w hd q) (H.length - (q + 1)) x b M.length with
      | none => rw [h3] at h; simp only [relV] at h ⊢; omega
      | some y => rw [h3] at h; exact h
theorem isVal (k : okT lo up M v m w H) {q : Nat} {x : Int} {b : Nat} (hq : q ≤ H.length) (h1 : lo ≤ x) (h2 : x ≤ up) : decide (-50000000000 < pot lo up M H w hd q x b) = (opt lo up M H w hd q x b).isSome := by
  have h := rel_pot (hd := hd) k q x b hq h1 h2
  have hf := k.hfew
  cases h3 : opt lo up M H w hd q x b with
  | none => rw [h3] at h; simp only [relV, never] at h; exact decide_eq_false (by omega)
  | some y => rw [h3] at h; simp only [relV] at h; exact decide_eq_true (by omega)
theorem pot_some (k : okT lo up M v m w H) {q : Nat} {x y : Int} {b : Nat} (hq : q ≤ H.length) (h1 : lo ≤ x) (h2 : x ≤ up) (h : opt lo up M H w hd q x b = some y) : pot lo up M H w hd q x b = y ∧ -10000000000 - 100010000 * (q : Int) ≤ y ∧ y ≤ 10000000000 + 100010000 * (q : Int) := by
  have h3 := rel_pot (hd := hd) k q x b hq h1 h2
  rw [h] at h3; exact h3
theorem pot_b (k : okT lo up M v m w H) {q : Nat} {x : Int} {b : Nat} (hq : q ≤ H.length) (h1 : lo ≤ x) (h2 : x ≤ up) : -200000000000 ≤ pot lo up M H w hd q x b ∧ pot lo up M H w hd q x b ≤ 20000000000 := by
  have h := rel_pot (hd := hd) k q x b hq h1 h2
  have hf := k.hfew
  cases h3 : opt lo up M H w hd q x b with
  | none => rw [h3] at h; simp only [relV, never] at h; omega
  | some y => rw [h3] at h; simp only [relV] at h; omega
/-- A greatest value is brought by a mode. -/
theorem optJ_at {ok : Int → Nat → Option Int} {t b : Nat} {x y : Int} : ∀ n : Nat, optJ lo up M H ok t x b n = some y → ∃ j z, j < n ∧ inR lo up (aft M H x t j) = true ∧ ok (aft M H x t j) j = some z ∧ y = rev M H t b j + z
  | 0, h => by cases h
  | n + 1, h => by
    simp only [optJ] at h
    have lift : optJ lo up M H ok t x b n = some y → ∃ j z, j < n + 1 ∧ inR lo up (aft M H x t j) = true ∧ ok (aft M H x t j) j = some z ∧ y = rev M H t b j + z := fun h => by
      obtain ⟨j, z, h1, h2⟩ := optJ_at n h
      exact ⟨j, z, by omega, h2⟩
    cases h1 : inR lo up (aft M H x t n) with
    | false => rw [h1] at h; exact lift h
    | true =>
      rw [h1] at h
      simp only [cond_true] at h
      cases h2 : ok (aft M H x t n) n with
      | none => rw [h2] at h; exact lift h
      | some z =>
        rw [h2] at h
        simp only at h
        cases h3 : optJ lo up M H ok t x b n with
        | none => rw [h3] at h; injection h with h; exact ⟨n, z, by omega, h1, h2, h.symm⟩
        | some u =>
          rw [h3] at h
          injection h with h
          by_cases h4 : u < rev M H t b n + z
          · rw [decide_eq_true h4] at h; exact ⟨n, z, by omega, h1, h2, h.symm⟩
          · rw [decide_eq_false h4] at h; exact lift (by rw [h3, ← h]; rfl)
/-- No mode brings more. -/
theorem optJ_ge {ok : Int → Nat → Option Int} {t b : Nat} {x z : Int} {j : Nat} : ∀ n : Nat, j < n → inR lo up (aft M H x t j) = true → ok (aft M H x t j) j = some z → ∃ y, optJ lo up M H ok t x b n = some y ∧ rev M H t b j + z ≤ y
  | 0, h, _, _ => by omega
  | n + 1, h, h1, h2 => by
    simp only [optJ]
    rcases Nat.lt_succ_iff_lt_or_eq.1 h with h3 | h3
    · obtain ⟨y, hy, hle⟩ := optJ_ge n h3 h1 h2
      rw [hy]
      cases inR lo up (aft M H x t n) with
      | false => exact ⟨y, rfl, hle⟩
      | true =>
        simp only [cond_true]
        cases ok (aft M H x t n) n with
        | none => exact ⟨y, rfl, hle⟩
        | some u =>
          by_cases h4 : y < rev M H t b n + u
          · exact ⟨_, rfl, by rw [decide_eq_true h4]; simp only [cond_true]; omega⟩
          · exact ⟨_, rfl, by rw [decide_eq_false h4]; exact hle⟩
    · subst h3
      rw [h1]
      simp only [cond_true]
      rw [h2]
      cases optJ lo up M H ok t x b j with
      | none => exact ⟨_, rfl, Int.le_refl _⟩
      | some y =>
        by_cases h4 : y < rev M H t b j + z
        · exact ⟨_, rfl, by rw [decide_eq_true h4]; exact Int.le_refl _⟩
        · exact ⟨_, rfl, by rw [decide_eq_false h4]; simp only [cond_false]; omega⟩
end
end
section
set_option linter.unusedSimpArgs false
set_option linter.unusedVariables false
open Go Go.RowKit

/-! ### Rows that are filled from the left -/
def part {α : Type} (p q : Nat → α) (c n : Nat) : List α := (List.range n).map fun i => bif Nat.blt i c then p i else q i
theorem blt_t {a b : Nat} (h : a < b) : Nat.blt a b = true := by rw [Nat.blt_eq]; exact h
theorem blt_f {a b : Nat} (h : ¬ a < b) : Nat.blt a b = false := by rw [Bool.eq_false_iff]; intro h1; rw [Nat.blt_eq] at h1; exact h h1
theorem part_len {α : Type} {p q : Nat → α} {c n : Nat} : (part p q c n).length = n := by simp [part]
theorem part_get {α : Type} {p q : Nat → α} {c n : Nat} (h : c < n) : (part p q c n)[c]? = some (q c) := by
  simp [part, h, blt_f (Nat.lt_irrefl c)]
theorem part_set {α : Type} {p q : Nat → α} {c n : Nat} {x : α} (hx : x = p c) : (part p q c n).set c x = part p q (c + 1) n := by
  subst hx
  apply List.ext_getElem?
  intro i
  rw [List.getElem?_set]
  by_cases h : c = i
  · subst h
    rw [if_pos rfl, part_len]
    by_cases hn : c < n
    · simp [part, hn, blt_t (Nat.lt_succ_self c)]
    · simp [part, hn]
  · rw [if_neg h]
    simp only [part, List.getElem?_map]
    by_cases hn : i < n
    · rw [List.getElem?_range hn]
      simp only [Option.map_some]
      by_cases h1 : i < c
      · rw [blt_t h1, blt_t (show i < c + 1 by omega)]
      · rw [blt_f h1, blt_f (show ¬ i < c + 1 by omega)]
    · rw [List.getElem?_eq_none (by simp; omega)]
      rfl
theorem part_same {α : Type} {p q : Nat → α} {c n : Nat} {x : α} (hx : x = q c) : (part p q c n).set c x = part p q c n := by
  subst hx
  apply List.ext_getElem?
  intro i
  rw [List.getElem?_set]
  by_cases h : c = i
  · subst h
    rw [if_pos rfl, part_len]
    by_cases hn : c < n
    · rw [if_pos hn, part_get hn]
    · simp [part, hn]
  · rw [if_neg h]
theorem part_skip {α : Type} {p q : Nat → α} {c n : Nat} (h : p c = q c) : part p q c n = part p q (c + 1) n := by rw [← part_set (x := q c) h.symm, part_same rfl]
theorem part_0 {α : Type} {p q : Nat → α} {n : Nat} : part p q 0 n = (List.range n).map q := by
  unfold part; congr 1
theorem part_n {α : Type} {p q : Nat → α} {n : Nat} : part p q n n = (List.range n).map p := by
  unfold part
  apply List.map_congr_left
  intro i hi
  rw [blt_t (List.mem_range.1 hi)]; rfl
theorem range_rep {α : Type} {x : α} {n : Nat} : (List.range n).map (fun _ => x) = List.replicate n x := by
  apply List.ext_getElem <;> simp

/-! ### Cells -/
def nc (lo up : Int) (M : List (ByteArray × Int × Int × Int)) : Nat := ((up - lo).toNat + 1) * M.length
/-- A row, cell by cell. -/
def cel {α : Type} (lo : Int) (M : List (ByteArray × Int × Int × Int)) (p : Int → Nat → α) (c : Nat) : α := p (lo + (c / M.length : Nat)) (c % M.length)
def row {α : Type} (lo up : Int) (M : List (ByteArray × Int × Int × Int)) (p : Int → Nat → α) : List α := (List.range (nc lo up M)).map (cel lo M p)
section
variable {lo up v m w : Int} {M : List (ByteArray × Int × Int × Int)} {H : List (Int × Int × Int)} {hd : Nat → Int → Bool}
theorem cel_at {α : Type} {p : Int → Nat → α} {a b : Nat} (hb : b < M.length) : cel lo M p (a * M.length + b) = p (lo + (a : Int)) b := by
  unfold cel
  rw [Nat.add_comm, Nat.add_mul_div_right _ _ (by omega), Nat.add_mul_mod_self_right, Nat.div_eq_of_lt hb, Nat.mod_eq_of_lt hb, Nat.zero_add]
theorem cell_lt {a b : Nat} (ha : a ≤ (up - lo).toNat) (hb : b < M.length) : a * M.length + b < nc lo up M := by
  unfold nc
  calc a * M.length + b < a * M.length + M.length := by omega
    _ = (a + 1) * M.length := by rw [Nat.add_mul, Nat.one_mul]
    _ ≤ ((up - lo).toNat + 1) * M.length := Nat.mul_le_mul_right _ (by omega)
theorem row_len {α : Type} {p : Int → Nat → α} : (row lo up M p).length = nc lo up M := by simp [row]
theorem row_get {α : Type} {p : Int → Nat → α} {x : Int} {b : Nat} (h1 : lo ≤ x) (h2 : x ≤ up) (hb : b < M.length) : (row lo up M p)[(x - lo).toNat * M.length + b]? = some (p x b) := by
  have h := cell_lt (lo := lo) (up := up) (M := M) (a := (x - lo).toNat) (b := b) (by omega) hb
  unfold row
  rw [List.getElem?_map, List.getElem?_range h, Option.map_some, cel_at hb, show lo + ((x - lo).toNat : Int) = x by omega]
theorem nc_b (k : okT lo up M v m w H) : 0 < nc lo up M ∧ nc lo up M ≤ 200 := by
  have a := k.span; have b := k.mpos; have c := k.mfew; have d := k.lohi
  unfold nc
  constructor
  · exact Nat.mul_pos (by omega) b
  · calc ((up - lo).toNat + 1) * M.length ≤ 40 * 5 := Nat.mul_le_mul (by omega) c
      _ = 200 := rfl
theorem f234_e (k : okT lo up M v m w H) {v' m' w' : Int} {x : Int} {b : Nat} (h1 : lo ≤ x) (h2 : x ≤ up) (hb : b < M.length) : f234 lo up M v' m' w' H x (b : Int) = some (((x - lo).toNat * M.length + b : Nat) : Int) := by
  have a := k.lo0; have a1 := k.hi1
  have h := cell_lt (lo := lo) (up := up) (M := M) (a := (x - lo).toNat) (b := b) (by omega) hb
  have hn := (nc_b k).2
  unfold f234
  rw [List.length_map, wr (n := x - lo) (by omega) (by omega)]
  have e : (x - lo) * (M.length : Int) = (((x - lo).toNat * M.length : Nat) : Int) := by
    rw [Int.natCast_mul, Int.toNat_of_nonneg (by omega)]
  rw [e, wr (n := (((x - lo).toNat * M.length : Nat) : Int)) (by omega) (by omega), wr (by omega) (by omega)]
  rfl

/-! ### The program's table -/
/-- Whether a reserve can be given long enough. -/
def hdB (lo up : Int) (M : List (ByteArray × Int × Int × Int)) (H : List (Int × Int × Int)) (x d : Int) (t : Nat) (v : Int) : Bool :=
  decide (x < 0) || decide (min d ((H.length : Int) - t) ≤ (gvn lo up M H x.toNat (H.length - t) t v : Int))
theorem f247_e (k : okT lo up M v m w H) {v' m' w' : Int} {x : Int} {t : Nat} {r d : Int} (h1 : lo ≤ x) (h2 : x ≤ up) (ht : t ≤ H.length) (hr : r < M.length) : f247 lo up M v' m' w' H x (t : Int) r d = some (hdB lo up M H r d t x) := by
  have a := k.lo0; have a1 := k.hi1
  have hf := k.hfew
  unfold f247 hdB
  rw [ilt_eq]
  cases h : decide (r < 0) with
  | true => rfl
  | false =>
    have h := of_decide_eq_false h
    obtain ⟨j, rfl⟩ := Int.eq_ofNat_of_zero_le (show 0 ≤ r by omega)
    rw [oite_f, f223_e k ht (by omega) (by omega)]
    simp (disch := omega) only [obnd_s, obnd_n, oite_ss, oite_t, oite_f, ogrd_t, ogrd_f, obndS_l, obndS_r, ilt_eq, ile_eq, ieq_eq, imax_e, imin_e, k0, k1, k2, k3, k4, k5, k6, k7, k8, k9, reduceIte, k10, k11, k12, k13, k14, k15, k16, k17, k18, k19, k20, k21, k22, k23, k24, k25, k26, k27, k28, wr]
theorem mfits_t {b : Nat} {l c : Int} (h0 : 0 ≤ l) (h1 : l ≤ c) (h2 : c * b ≤ 1099511627776) (h3 : c ≤ 1099511627776) : mfits b l c = true := by
  unfold mfits
  rw [ile_eq, ile_eq, ile_eq, ile_eq, decide_eq_true h0, decide_eq_true h1, decide_eq_true h2, decide_eq_true h3]; rfl
theorem f246_r {x : Int} {n : Nat} (h0 : 0 < n) (hn : n ≤ 1000000) : f246 [x] (n : Int) = some (List.replicate n x) := by
  unfold f246
  simp only
  rw [mfits_t (by omega) (Int.le_refl _) (by omega) (by omega), ile_eq, decide_eq_true (by omega)]
  rfl
def outS {α : Type} (lo up : Int) (M : List (ByteArray × Int × Int × Int)) (n : Nat) (p : Nat → Int → Nat → α) (i : Nat) : List (List α) := (List.range (n + 1)).map fun t => bif Nat.blt n (t + i) then row lo up M (p (n - t)) else []
theorem outS_len {α : Type} {n i : Nat} {p : Nat → Int → Nat → α} : (outS lo up M n p i).length = n + 1 := by simp [outS]
theorem outS_0 {α : Type} {n : Nat} {p : Nat → Int → Nat → α} : outS lo up M n p 0 = List.replicate (n + 1) [] := by
  unfold outS
  apply List.ext_getElem
  · simp
  · intro i h1 h2
    simp only [List.getElem_map, List.getElem_range, List.getElem_replicate]
    rw [blt_f (by simp at h1; omega)]; rfl
theorem outS_get {α : Type} {n i t : Nat} {p : Nat → Int → Nat → α} (ht : t ≤ n) (h : n < t + i) : (outS lo up M n p i)[t]? = some (row lo up M (p (n - t))) := by
  simp [outS, show t < n + 1 by omega, blt_t h]
theorem outS_set {α : Type} {n i : Nat} {p : Nat → Int → Nat → α} (hi' : i ≤ n) : (outS lo up M n p i).set (n - i) (row lo up M (p i)) = outS lo up M n p (i + 1) := by
  apply List.ext_getElem?
  intro t
  rw [List.getElem?_set]
  by_cases h : n - i = t
  · subst h
    rw [if_pos rfl, outS_len, if_pos (by omega), outS_get (by omega) (by omega), show n - (n - i) = i by omega]
  · rw [if_neg h]
    simp only [outS, List.getElem?_map]
    by_cases ht : t < n + 1
    · rw [List.getElem?_range ht]
      simp only [Option.map_some]
      by_cases h1 : n < t + i
      · rw [blt_t h1, blt_t (show n < t + (i + 1) by omega)]
      · rw [blt_f h1, blt_f (show ¬ n < t + (i + 1) by omega)]
    · rw [List.getElem?_eq_none (by simp; omega)]
      rfl
end
end
section
set_option linter.unusedSimpArgs false
set_option linter.unusedVariables false
open Go Go.RowKit

section
variable {lo up v m w : Int} {M : List (ByteArray × Int × Int × Int)} {H : List (Int × Int × Int)}
/-- The program's values: times count from the end. -/
noncomputable def pp (lo up : Int) (M : List (ByteArray × Int × Int × Int)) (H : List (Int × Int × Int)) (w r d : Int) : Nat → Int → Nat → Int := pot lo up M H w (hdB lo up M H r d)
theorem aft_n (t j : Nat) (x : Int) : x + (gh H t).2.2 + (gm M j).2.1 = aft M H x t j := rfl
theorem f229_e (k : okT lo up M v m w H) {v' m' : Int} {r d : Int} (hr : r < M.length) : f229 lo up M v' m' w H r d = some (outS lo up M H.length (pp lo up M H w r d) (H.length + 1)) := by
  have hlo := k.lo0; have hhi := k.hi1; have hf := k.hfew; have hmp := k.mpos; have hmf := k.mfew; have hlh := k.lohi; have hsp := k.span
  obtain ⟨hc0, hc1⟩ := nc_b k
  have e1 : (((M.length : Nat) : Int) - 1) = ((M.length - 1 : Nat) : Int) := by omega
  have hcell : (up - lo).toNat * M.length + (M.length - 1) + 1 = nc lo up M := by unfold nc; rw [Nat.add_mul, Nat.one_mul]; omega
  have e2 : (((up - lo).toNat * M.length + (M.length - 1) : Nat) : Int) + 1 = ((nc lo up M : Nat) : Int) := by omega
  have e3 : ((H.length : Nat) : Int) + 1 = ((H.length + 1 : Nat) : Int) := by omega
  unfold f229
  simp only [List.length_map]
  rw [wr (n := ((M.length : Nat) : Int) - 1) (by omega) (by omega), e1, f234_e k hlh (Int.le_refl _) (by omega)]
  simp only [obnd_s]
  rw [wr (n := ((H.length : Nat) : Int) + 1) (by omega) (by omega), wr (n := (((up - lo).toNat * M.length + (M.length - 1) : Nat) : Int) + 1) (by omega) (by omega), e2, e3, mfits_t (by omega) (Int.le_refl _) (by omega) (by omega), ogrd_t]
  refine (obnd_of (a := ((-1 : Int), outS lo up M H.length (pp lo up M H w r d) (H.length + 1))) ?_).trans ?_
  · refine oloop_all (fun i => ((H.length : Int) - (i : Int), outS lo up M H.length (pp lo up M H w r d) i)) (H.length + 1) ?_ ?_ ?_
    · rw [outS_0]; simp
    · intro i hi'
      have e4 : ((H.length : Nat) : Int) - (i : Int) = ((H.length - i : Nat) : Int) := by omega
      simp only [e4, ile_eq, ilt_eq, ieq_eq, decide_eq_true (Int.natCast_nonneg _), oite_t, ogrd_t, Int.toNat_natCast, f246_r hc0 (show nc lo up M ≤ 1000000 by omega), obnd_s, outS_len, decide_eq_true (show ((H.length - i : Nat) : Int) < ((H.length + 1 : Nat) : Int) by omega), blt_t (show H.length - i < H.length + 1 by omega), List.length_replicate]
      refine (obnd_of (a := (nc lo up M, row lo up M (pp lo up M H w r d i))) ?_).trans ?_
      · rw [← range_rep (x := -100000000000)]
        refine oloop_all (fun a => (lo + (a : Int), part (cel lo M (pp lo up M H w r d i)) (fun _ => -100000000000) (a * M.length) (nc lo up M))) ((up - lo).toNat + 1) ?_ ?_ ?_
        · rw [Nat.zero_mul, part_0]; simp
        · intro a ha
          have hx1 : lo ≤ lo + (a : Int) := by omega
          have hx2 : lo + (a : Int) ≤ up := by omega
          have ea : (lo + (a : Int) - lo).toNat = a := by omega
          simp only [decide_eq_true hx2, oite_t]
          refine (obnd_of (a := part (cel lo M (pp lo up M H w r d i)) (fun _ => -100000000000) ((a + 1) * M.length) (nc lo up M)) ?_).trans ?_
          · refine oloop_all (fun b => ((b : Int), part (cel lo M (pp lo up M H w r d i)) (fun _ => -100000000000) (a * M.length + b) (nc lo up M))) M.length ?_ ?_ ?_
            · rw [Nat.add_zero]; rfl
            · intro b hb
              have hcl := cell_lt (lo := lo) (up := up) (M := M) (a := a) (b := b) (by omega) hb
              have hce := cel_at (lo := lo) (M := M) (p := pp lo up M H w r d i) (a := a) (b := b) hb
              simp only [decide_eq_true (show ((b : Nat) : Int) < ((M.length : Nat) : Int) by omega), oite_t, f234_e k hx1 hx2 hb, ea, obnd_s, decide_eq_true (Int.natCast_nonneg _), ogrd_t, decide_eq_true (show ((a * M.length + b : Nat) : Int) < ((nc lo up M : Nat) : Int) by omega), Int.toNat_natCast, part_len, blt_t hcl, ceqN]
              refine (obnd_of (a := part (cel lo M (pp lo up M H w r d i)) (fun _ => -100000000000) (a * M.length + (b + 1)) (nc lo up M)) ?_).trans ?_
              · by_cases hi0 : i = 0
                · subst hi0
                  have hw := wv_b k hx1 hx2
                  rw [decide_eq_true (show H.length - 0 = H.length from rfl), oite_t, wr (by omega) (by omega), part_set (by rw [hce]; rfl)]; rfl
                · obtain ⟨q, rfl⟩ := Nat.exists_eq_succ_of_ne_zero hi0
                  rw [decide_eq_false (show ¬ H.length - (q + 1) = H.length by omega), oite_f, f247_e k hx1 hx2 (by omega) hr]
                  simp only [obnd_s]
                  have hpp : pp lo up M H w r d (q + 1) (lo + (a : Int)) b = bif hdB lo up M H r d (H.length - (q + 1)) (lo + (a : Int)) then potJ lo up M H (pp lo up M H w r d q) (H.length - (q + 1)) (lo + (a : Int)) b M.length else never := rfl
                  cases hh : hdB lo up M H r d (H.length - (q + 1)) (lo + (a : Int)) with
                  | false =>
                    rw [hh] at hpp
                    rw [part_skip (c := a * M.length + b) (by rw [hce, hpp]; rfl)]; rfl
                  | true =>
                    rw [hh] at hpp
                    simp only [Bool.not_true, oite_f]
                    refine oloop_all (fun j => ((j : Int), (part (cel lo M (pp lo up M H w r d (q + 1))) (fun _ => -100000000000) (a * M.length + b) (nc lo up M)).set (a * M.length + b) (potJ lo up M H (pp lo up M H w r d q) (H.length - (q + 1)) (lo + (a : Int)) b j))) M.length ?_ ?_ ?_
                    · rw [part_same (by rfl)]; rfl
                    · intro j hj
                      have hh1 := k.hour (H.length - (q + 1)) (by omega)
                      have hm1 := k.mode j hj
                      have e5 : ((H.length - (q + 1) : Nat) : Int) + 1 = ((H.length - q : Nat) : Int) := by omega
                      simp only [decide_eq_true (show ((j : Nat) : Int) < ((M.length : Nat) : Int) by omega), oite_t]
                      rw [f242_e k (show H.length - (q + 1) < H.length by omega) hj (by omega), aft_n]
                      simp only [obnd_s, f243_e]
                      simp only [potJ]
                      cases hin : inR lo up (aft M H (lo + (a : Int)) (H.length - (q + 1)) j) with
                      | false =>
                        simp (disch := omega) only [obnd_s, obnd_n, oite_ss, oite_t, oite_f, ogrd_t, ogrd_f, obndS_l, obndS_r, ilt_eq, ile_eq, ieq_eq, imax_e, imin_e, k0, k1, k2, k3, k4, k5, k6, k7, k8, k9, reduceIte, k10, k11, k12, k13, k14, k15, k16, k17, k18, k19, k20, k21, k22, k23, k24, k25, k26, k27, k28, wr]; rfl
                      | true =>
                        have hp := inR_p hin
                        have hrv := rev_b k (b := b) (show H.length - (q + 1) < H.length by omega) hj
                        have hpb := pot_b (hd := hdB lo up M H r d) k (q := q) (b := j) (by omega) hp.1 hp.2
                        rw [oite_t, List.getElem?_set_self (by rw [part_len]; exact hcl)]
                        simp only [obnd_s]
                        rw [wr (n := ((H.length - (q + 1) : Nat) : Int) + 1) (by omega) (by omega), e5, decide_eq_true (Int.natCast_nonneg _), ogrd_t, decide_eq_true (show ((H.length - q : Nat) : Int) < ((H.length + 1 : Nat) : Int) by omega), ogrd_t, Int.toNat_natCast]
                        rw [show Nat.beq (H.length - (q + 1)) (H.length - q) = false by rw [Bool.eq_false_iff]; intro h; have := Nat.eq_of_beq_eq_true h; omega]
                        rw [Bool.not_false, ogrd_t, outS_get (by omega) (by omega), show H.length - (H.length - q) = q by omega]
                        simp only [obnd_s]
                        rw [f239_e k (by omega) hj]
                        simp only [obnd_s]
                        rw [f234_e k hp.1 hp.2 hj]
                        simp only [obnd_s]
                        rw [decide_eq_true (Int.natCast_nonneg _), ogrd_t, Int.toNat_natCast, row_get hp.1 hp.2 hj]
                        simp only [obnd_s]
                        rw [List.length_set, part_len, blt_t hcl, ogrd_t, List.set_set, imax_e]
                        simp only [pp] at hpb ⊢
                        rw [wr (n := rev M H (H.length - (q + 1)) b j + _) (by omega) (by omega), wr (n := (j : Int) + 1) (by omega) (by omega)]
                        rfl
                    · simp (disch := omega) only [obnd_s, obnd_n, oite_ss, oite_t, oite_f, ogrd_t, ogrd_f, obndS_l, obndS_r, ilt_eq, ile_eq, ieq_eq, imax_e, imin_e, k0, k1, k2, k3, k4, k5, k6, k7, k8, k9, reduceIte, k10, k11, k12, k13, k14, k15, k16, k17, k18, k19, k20, k21, k22, k23, k24, k25, k26, k27, k28, Int.lt_irrefl]
                      rw [part_set (by rw [hce, hpp]; rfl)]; rfl
              · try simp only
                rw [wr (n := (b : Int) + 1) (by omega) (by omega)]; rfl
            · simp (disch := omega) only [obnd_s, obnd_n, oite_ss, oite_t, oite_f, ogrd_t, ogrd_f, obndS_l, obndS_r, ilt_eq, ile_eq, ieq_eq, imax_e, imin_e, k0, k1, k2, k3, k4, k5, k6, k7, k8, k9, reduceIte, k10, k11, k12, k13, k14, k15, k16, k17, k18, k19, k20, k21, k22, k23, k24, k25, k26, k27, k28, Int.lt_irrefl]
              rw [Nat.add_mul, Nat.one_mul]
          · try simp only
            rw [wr (n := lo + (a : Int) + 1) (by omega) (by omega), show lo + (a : Int) + 1 = lo + ((a + 1 : Nat) : Int) by omega]
        · have : ¬ lo + (((up - lo).toNat + 1 : Nat) : Int) ≤ up := by omega
          rw [decide_eq_false this, oite_f]
          try simp only
          unfold row
          rw [← part_n (q := fun _ => -100000000000)]; rfl
      · try simp only
        rw [row_len, show Nat.beq (nc lo up M) (nc lo up M) = true from Nat.beq_refl _, ogrd_t, outS_set (by omega), wr (n := ((H.length - i : Nat) : Int) - 1) (by omega) (by omega), show ((H.length - i : Nat) : Int) - 1 = (H.length : Int) - ((i + 1 : Nat) : Int) by omega]
    · have : ¬ (0 : Int) ≤ (H.length : Int) - ((H.length + 1 : Nat) : Int) := by omega
      rw [ile_eq, decide_eq_false this, oite_f]
      congr 3; omega
  · simp only [outS_len, Int.toNat_natCast]
    rw [show Nat.beq (H.length + 1) (H.length + 1) = true from Nat.beq_refl _]; rfl
end
end
section
set_option linter.unusedSimpArgs false
set_option linter.unusedVariables false
open Go Go.RowKit

/-- The first mode that a test accepts. -/
def pickN (t : Nat → Bool) (n : Nat) : Option Nat := scanF (fun j => bif t j then some j else none) n 0
theorem pick_map {ρ : Type} (t : Nat → Bool) (n : Nat) (k : Nat → ρ) : scanF (fun j => bif t j then some (k j) else none) n 0 = (pickN t n).map k := by
  unfold pickN; rw [← scanF_map]
  refine scanF_congr fun j _ _ => ?_
  cases t j <;> rfl
theorem scan_lt {t : Nat → Bool} : ∀ {n i j : Nat}, scanF (fun j => bif t j then some j else none) n i = some j → i ≤ j ∧ j < i + n ∧ t j = true ∧ ∀ q, i ≤ q → q < j → t q = false
  | 0, _, _, h => by cases h
  | n + 1, i, j, h => by
    simp only [scanF] at h
    cases ht : t i with
    | true => rw [ht] at h; injection h with h; subst h; exact ⟨Nat.le_refl _, by omega, ht, fun q h1 h2 => by omega⟩
    | false =>
      rw [ht] at h
      obtain ⟨h1, h2, h3, h4⟩ := scan_lt (n := n) h
      refine ⟨by omega, by omega, h3, fun q h5 h6 => ?_⟩
      rcases Nat.eq_or_lt_of_le h5 with rfl | h7
      · exact ht
      · exact h4 q h7 h6
theorem pick_some {t : Nat → Bool} {n j : Nat} (h : pickN t n = some j) : j < n ∧ t j = true ∧ ∀ q, q < j → t q = false := by
  obtain ⟨_, h2, h3, h4⟩ := scan_lt h
  exact ⟨by omega, h3, fun q hq => h4 q (Nat.zero_le _) hq⟩
theorem pick_none {t : Nat → Bool} {n : Nat} (h : pickN t n = none) : ∀ j, j < n → t j = false := by
  intro j hj
  have := scanF_none h j (Nat.zero_le _) (by omega)
  cases ht : t j with
  | false => rfl
  | true => simp only [ht] at this; cases this
theorem pick_congr {t t' : Nat → Bool} {n : Nat} (h : ∀ j, j < n → t j = t' j) : pickN t n = pickN t' n := by
  unfold pickN
  refine scanF_congr fun j _ hj => ?_
  rw [h j (by omega)]

section
variable (lo up : Int) (M : List (ByteArray × Int × Int × Int)) (H : List (Int × Int × Int)) (v m w : Int)
/-- Hour by hour: the plan, the volume, the mode; by a test of modes. -/
def walkP (t : Nat → Int → Nat → Nat → Bool) : Nat → List Int × Int × Nat
  | 0 => ([], v, m.toNat)
  | i + 1 => match pickN (t i (walkP t i).2.1 (walkP t i).2.2) M.length with
    | some j => ((walkP t i).1 ++ [(j : Int)], aft M H (walkP t i).2.1 i j, j)
    | none => walkP t i
/-- The program's test, by its values. -/
def tstP (p : Nat → Int → Nat → Int) (i : Nat) (x : Int) (b j : Nat) : Bool := inR lo up (aft M H x i j) && decide (rev M H i b j + p (H.length - (i + 1)) (aft M H x i j) j = p (H.length - i) x b)
end
section
variable {lo up v m w : Int} {M : List (ByteArray × Int × Int × Int)} {H : List (Int × Int × Int)}
theorem walkIn (k : okT lo up M v m w H) {t : Nat → Int → Nat → Nat → Bool} (ht : ∀ i x b j, t i x b j = true → inR lo up (aft M H x i j) = true) : ∀ i : Nat, (lo ≤ (walkP M H v m t i).2.1 ∧ (walkP M H v m t i).2.1 ≤ up) ∧ (walkP M H v m t i).2.2 < M.length ∧ (walkP M H v m t i).1.length ≤ i
  | 0 => by have := k.vlo; have := k.vhi; have := k.m0; have := k.m1; simp only [walkP, List.length_nil]; omega
  | i + 1 => by
    have ih := walkIn k ht i
    simp only [walkP]
    cases h : pickN (t i (walkP M H v m t i).2.1 (walkP M H v m t i).2.2) M.length with
    | none => simp only; omega
    | some j =>
      obtain ⟨h1, h2, _⟩ := pick_some h
      have := inR_p (ht _ _ _ _ h2)
      simp only [List.length_append, List.length_cons, List.length_nil]; omega
theorem tst_in {p : Nat → Int → Nat → Int} : ∀ i x b j, tstP lo up M H p i x b j = true → inR lo up (aft M H x i j) = true := by
  intro i x b j h
  simp only [tstP, Bool.and_eq_true] at h
  exact h.1
theorem f220_e (k : okT lo up M v m w H) {r d : Int} (hr : r < M.length) :
    f220 lo up M v m w H r d = some (bif (opt lo up M H w (hdB lo up M H r d) H.length v m.toNat).isSome then ((walkP M H v m (tstP lo up M H (pp lo up M H w r d)) H.length).1, pp lo up M H w r d H.length v m.toNat, true) else ([], 0, false)) := by
  have hlo := k.lo0; have hhi := k.hi1; have hf := k.hfew; have hmp := k.mpos; have hmf := k.mfew
  have hm0 := k.m0; have hm1 := k.m1
  have em : m = ((m.toNat : Nat) : Int) := by omega
  have hmn : m.toNat < M.length := by omega
  have hiv := isVal (hd := hdB lo up M H r d) k (q := H.length) (b := m.toNat) (Nat.le_refl _) k.vlo k.vhi
  unfold f220
  rw [f229_e k hr]
  simp only [obnd_s]
  rw [show ((0 : Int)).toNat = 0 from rfl, outS_get (Nat.zero_le _) (by omega)]
  simp only [obnd_s]
  rw [em, f234_e k k.vlo k.vhi hmn]
  simp only [obnd_s, ile_eq, decide_eq_true (Int.natCast_nonneg _), ogrd_t, Int.toNat_natCast, Nat.sub_zero]
  rw [row_get k.vlo k.vhi hmn]
  simp only [obnd_s]
  unfold f233
  simp only [obnd_s, ilt_eq]
  rw [show decide (-50000000000 < pp lo up M H w r d H.length v m.toNat) = (opt lo up M H w (hdB lo up M H r d) H.length v m.toNat).isSome from hiv]
  cases (opt lo up M H w (hdB lo up M H r d) H.length v m.toNat).isSome with
  | false => rfl
  | true =>
    simp only [Bool.not_true, oite_f, cond_true]
    have hw := walkIn k (t := tstP lo up M H (pp lo up M H w r d)) tst_in
    refine (obnd_of (a := ((walkP M H v m (tstP lo up M H (pp lo up M H w r d)) H.length).1, (walkP M H v m (tstP lo up M H (pp lo up M H w r d)) H.length).2.1, ((walkP M H v m (tstP lo up M H (pp lo up M H w r d)) H.length).2.2 : Int))) ?_).trans ?_
    · refine oloop_all (fun i => ((i : Int), (walkP M H v m (tstP lo up M H (pp lo up M H w r d)) i).1, (walkP M H v m (tstP lo up M H (pp lo up M H w r d)) i).2.1, ((walkP M H v m (tstP lo up M H (pp lo up M H w r d)) i).2.2 : Int))) H.length ?_ ?_ ?_
      · simp only [walkP, ← em]; rfl
      · intro i hi'
        obtain ⟨⟨hx1, hx2⟩, hb, hpl⟩ := hw i
        simp only [walkP]
        generalize hS : walkP M H v m (tstP lo up M H (pp lo up M H w r d)) i = S at *
        obtain ⟨pl, x, b⟩ := S
        simp only at hx1 hx2 hb hpl ⊢
        simp only [List.length_map, decide_eq_true (show ((i : Nat) : Int) < ((H.length : Nat) : Int) by omega), oite_t, decide_eq_true (Int.natCast_nonneg _), ogrd_t, Int.toNat_natCast]
        rw [outS_get (by omega) (by omega)]
        simp only [obnd_s]
        rw [f234_e k hx1 hx2 hb]
        simp only [obnd_s, decide_eq_true (Int.natCast_nonneg _), ogrd_t, Int.toNat_natCast]
        rw [row_get hx1 hx2 hb]
        simp only [obnd_s]
        refine (obnd_of (a := match pickN (tstP lo up M H (pp lo up M H w r d) i x b) M.length with
          | some j => (pl ++ [(j : Int)], aft M H x i j, (j : Int))
          | none => (pl, x, (b : Int))) ?_).trans ?_
        · rw [oloop_scanB (fun j => (j : Int)) M.length (tstP lo up M H (pp lo up M H w r d) i x b) (fun j => (pl ++ [(j : Int)], aft M H x i j, (j : Int))) (d := (pl, x, (b : Int))) (e0 := (0 : Int)) rfl ?_ ?_, pick_map]
          · cases pickN (tstP lo up M H (pp lo up M H w r d) i x b) M.length <;> rfl
          · intro j hj
            have hh1 := k.hour i hi'
            have hm1 := k.mode j hj
            simp only [decide_eq_true (show ((j : Nat) : Int) < ((M.length : Nat) : Int) by omega), oite_t]
            rw [f242_e k hi' hj (by omega), aft_n]
            simp only [obnd_s, f243_e]
            unfold tstP
            cases hin : inR lo up (aft M H x i j) with
            | false => simp (disch := omega) only [obnd_s, obnd_n, oite_ss, oite_t, oite_f, ogrd_t, ogrd_f, obndS_l, obndS_r, ilt_eq, ile_eq, ieq_eq, imax_e, imin_e, k0, k1, k2, k3, k4, k5, k6, k7, k8, k9, reduceIte, k10, k11, k12, k13, k14, k15, k16, k17, k18, k19, k20, k21, k22, k23, k24, k25, k26, k27, k28, wr]; rfl
            | true =>
              have hp := inR_p hin
              have hrv := rev_b k (b := b) hi' hj
              have hpb := pot_b (hd := hdB lo up M H r d) k (q := H.length - (i + 1)) (b := j) (by omega) hp.1 hp.2
              rw [oite_t, wr (n := (i : Int) + 1) (by omega) (by omega), show (i : Int) + 1 = ((i + 1 : Nat) : Int) by omega, decide_eq_true (Int.natCast_nonneg _), ogrd_t, Int.toNat_natCast, outS_get (by omega) (by omega)]
              simp only [obnd_s]
              rw [f239_e k hi' hj]
              simp only [obnd_s]
              rw [f234_e k hp.1 hp.2 hj]
              simp only [obnd_s, decide_eq_true (Int.natCast_nonneg _), ogrd_t, Int.toNat_natCast]
              rw [row_get hp.1 hp.2 hj]
              simp only [obnd_s, ieq_eq, Bool.true_and]
              simp only [pp] at hpb ⊢
              have e7 := wr (n := rev M H i b j + pot lo up M H w (hdB lo up M H r d) (H.length - (i + 1)) (aft M H x i j) j) (by omega) (by omega)
              simp only [e7]
              rw [wr (n := (j : Int) + 1) (by omega) (by omega), ogrd_fits (by simp; omega) (by simp; omega)]
              by_cases hq : rev M H i b j + pot lo up M H w (hdB lo up M H r d) (H.length - (i + 1)) (aft M H x i j) j = pot lo up M H w (hdB lo up M H r d) (H.length - i) x b
              · simp [hq, oite_t]
              · simp [hq, oite_f]
          · simp (disch := omega) only [obnd_s, obnd_n, oite_ss, oite_t, oite_f, ogrd_t, ogrd_f, obndS_l, obndS_r, ilt_eq, ile_eq, ieq_eq, imax_e, imin_e, k0, k1, k2, k3, k4, k5, k6, k7, k8, k9, reduceIte, k10, k11, k12, k13, k14, k15, k16, k17, k18, k19, k20, k21, k22, k23, k24, k25, k26, k27, k28, Int.lt_irrefl]
        · rw [wr (n := (i : Int) + 1) (by omega) (by omega)]
          cases pickN (tstP lo up M H (pp lo up M H w r d) i x b) M.length <;> rfl
      · simp (disch := omega) only [obnd_s, obnd_n, oite_ss, oite_t, oite_f, ogrd_t, ogrd_f, obndS_l, obndS_r, ilt_eq, ile_eq, ieq_eq, imax_e, imin_e, k0, k1, k2, k3, k4, k5, k6, k7, k8, k9, reduceIte, k10, k11, k12, k13, k14, k15, k16, k17, k18, k19, k20, k21, k22, k23, k24, k25, k26, k27, k28, Int.lt_irrefl]
    · rw [← em]
theorem f206_e (hM : M.length < 4611686018427387904) (hs : ∀ p, p ∈ M → p.1.size < 4611686018427387904) (hH : H.length < 4611686018427387904) :
    f206 lo up M v m w H = some (bif !decide ((ckT lo up M v m w H).2 = 0) then ([], 0, (ckT lo up M v m w H).2) else bif (opt lo up M H w (hdB lo up M H (-1) 0) H.length v m.toNat).isSome then ((walkP M H v m (tstP lo up M H (pp lo up M H w (-1) 0)) H.length).1, pp lo up M H w (-1) 0 H.length v m.toNat, 0) else ([], 0, 12)) := by
  unfold f206
  rw [f219_e hM hs hH]
  simp only [obnd_s, ieq_eq]
  cases h1 : decide ((ckT lo up M v m w H).2 = 0) with
  | false => rfl
  | true =>
    have k := (ckT_0 (of_decide_eq_true h1)).2
    simp only [Bool.not_true, oite_f, cond_false]
    rw [f220_e k (by omega)]
    cases (opt lo up M H w (hdB lo up M H (-1) 0) H.length v m.toNat).isSome <;> rfl

/-! ### The plan found by values is the one found by marks -/
/-- The test by marked values. -/
def tstO (lo up : Int) (M : List (ByteArray × Int × Int × Int)) (H : List (Int × Int × Int)) (o : Nat → Int → Nat → Option Int) (i : Nat) (x : Int) (b j : Nat) : Bool := inR lo up (aft M H x i j) && (match o (H.length - (i + 1)) (aft M H x i j) j with
  | some y => decide (o (H.length - i) x b = some (rev M H i b j + y))
  | none => false)
theorem tstO_in {o : Nat → Int → Nat → Option Int} : ∀ i x b j, tstO lo up M H o i x b j = true → inR lo up (aft M H x i j) = true := by
  intro i x b j h
  simp only [tstO, Bool.and_eq_true] at h
  exact h.1
theorem tst_eq (k : okT lo up M v m w H) {hd : Nat → Int → Bool} {i b j : Nat} {x y : Int} (hi' : i < H.length) (hj : j < M.length) (h1 : lo ≤ x) (h2 : x ≤ up) (h : opt lo up M H w hd (H.length - i) x b = some y) :
    tstP lo up M H (pot lo up M H w hd) i x b j = tstO lo up M H (opt lo up M H w hd) i x b j := by
  unfold tstP tstO
  cases hin : inR lo up (aft M H x i j) with
  | false => rfl
  | true =>
    have hp := inR_p hin
    have h3 := pot_some k (by omega) h1 h2 h
    have h4 := rel_pot (hd := hd) k (H.length - (i + 1)) (aft M H x i j) j (by omega) hp.1 hp.2
    have hrv := rev_b k (b := b) hi' hj
    have hf := k.hfew
    rw [h, h3.1]
    cases h5 : opt lo up M H w hd (H.length - (i + 1)) (aft M H x i j) j with
    | none =>
      rw [h5] at h4
      simp only [relV, never] at h4
      simp only [Bool.true_and]
      exact decide_eq_false (by omega)
    | some z =>
      rw [h5] at h4
      simp only [relV] at h4
      rw [h4.1]
      simp only [Bool.true_and, Option.some.injEq]
      rw [Bool.eq_iff_iff, decide_eq_true_eq, decide_eq_true_eq]
      exact eq_comm
theorem walk_eq (k : okT lo up M v m w H) {hd : Nat → Int → Bool} (h : (opt lo up M H w hd H.length v m.toNat).isSome = true) : ∀ i : Nat, i ≤ H.length →
    walkP M H v m (tstP lo up M H (pot lo up M H w hd)) i = walkP M H v m (tstO lo up M H (opt lo up M H w hd)) i ∧ (opt lo up M H w hd (H.length - i) (walkP M H v m (tstO lo up M H (opt lo up M H w hd)) i).2.1 (walkP M H v m (tstO lo up M H (opt lo up M H w hd)) i).2.2).isSome = true ∧ (walkP M H v m (tstO lo up M H (opt lo up M H w hd)) i).1.length = i
  | 0, _ => ⟨rfl, h, rfl⟩
  | i + 1, hi' => by
    obtain ⟨h1, h2, h3⟩ := walk_eq k h i (by omega)
    obtain ⟨⟨hx1, hx2⟩, hb, _⟩ := walkIn k (t := tstO lo up M H (opt lo up M H w hd)) tstO_in i
    simp only [walkP]
    rw [h1]
    generalize hS : walkP M H v m (tstO lo up M H (opt lo up M H w hd)) i = S at *
    obtain ⟨pl, x, b⟩ := S
    simp only at h2 h3 hx1 hx2 hb ⊢
    obtain ⟨y, hy⟩ := Option.isSome_iff_exists.1 h2
    rw [pick_congr (t' := tstO lo up M H (opt lo up M H w hd) i x b) (fun j hj => tst_eq k (by omega) hj hx1 hx2 hy)]
    cases hp : pickN (tstO lo up M H (opt lo up M H w hd) i x b) M.length with
    | none =>
      exfalso
      have hn := pick_none hp
      have e : H.length - i = (H.length - (i + 1)) + 1 := by omega
      have hy' := hy
      rw [e] at hy'
      simp only [opt] at hy'
      rw [show H.length - (H.length - (i + 1) + 1) = i by omega] at hy'
      cases hh : hd i x with
      | false => rw [hh] at hy'; cases hy'
      | true =>
        rw [hh] at hy'
        obtain ⟨j, z, hj, h4, h5, h6⟩ := optJ_at M.length hy'
        have := hn j hj
        simp only [tstO, h4, h5, hy, h6, Bool.true_and, decide_true] at this
        cases this
    | some j =>
      obtain ⟨hj, ht, _⟩ := pick_some hp
      refine ⟨rfl, ?_, by simp [h3]⟩
      simp only [tstO, Bool.and_eq_true] at ht
      cases h5 : opt lo up M H w hd (H.length - (i + 1)) (aft M H x i j) j with
      | none => rw [h5] at ht; cases ht.2
      | some z => rfl
end
end
section
set_option linter.unusedSimpArgs false
set_option linter.unusedVariables false
open Go Go.RowKit

section
variable {lo up v m w : Int} {M : List (ByteArray × Int × Int × Int)} {H : List (Int × Int × Int)} {P : List Int}
/-- The error of a hold. -/
def hldE (M : List (ByteArray × Int × Int × Int)) (r d : Int) : Int := bif !isM M r then 6 else bif !(decide (0 ≤ d) && decide (d ≤ 10)) then 2 else 0
theorem hldE_0 {r d : Int} (h : hldE M r d = 0) : (∃ j : Nat, j < M.length ∧ r = (j : Int)) ∧ (0 ≤ d ∧ d ≤ 10) := by
  unfold hldE at h
  cases h1 : isM M r with
  | false => rw [h1] at h; cases h
  | true =>
    cases h2 : (decide (0 ≤ d) && decide (d ≤ 10)) with
    | false => rw [h1, h2] at h; cases h
    | true => exact ⟨isM_n h1, by simpa using h2⟩
theorem f314_e (hM : M.length < 4611686018427387904) (hs : ∀ p, p ∈ M → p.1.size < 4611686018427387904) (hH : H.length < 4611686018427387904) (r d : Int) :
    f314 lo up M v m w H r d = some (bif !decide ((ckT lo up M v m w H).2 = 0) then ([], 0, (ckT lo up M v m w H).2) else bif !decide (hldE M r d = 0) then ([], 0, hldE M r d) else
      bif (opt lo up M H w (hdB lo up M H r d) H.length v m.toNat).isSome then ((walkP M H v m (tstP lo up M H (pp lo up M H w r d)) H.length).1, pp lo up M H w r d H.length v m.toNat, 0) else ([], 0, 12)) := by
  unfold f314
  rw [f219_e hM hs hH]
  simp only [obnd_s]
  rw [f222_e hM, f216_e]
  simp only [obnd_s, f214_e, f213_3]
  have e : (if (ckT lo up M v m w H).2 = 0 then if (if isM M r = true then (0 : Int) else 6) = 0 then (if (decide (0 ≤ d) && decide (d ≤ 10)) = true then (0 : Int) else 2) else (if isM M r = true then (0 : Int) else 6) else (ckT lo up M v m w H).2) = bif !decide ((ckT lo up M v m w H).2 = 0) then (ckT lo up M v m w H).2 else hldE M r d := by
    unfold hldE
    cases h1 : decide ((ckT lo up M v m w H).2 = 0) with
    | false => rw [if_neg (of_decide_eq_false h1)]; rfl
    | true =>
      rw [if_pos (of_decide_eq_true h1)]
      cases isM M r <;> cases (decide (0 ≤ d) && decide (d ≤ 10)) <;> rfl
  rw [e]
  cases h1 : decide ((ckT lo up M v m w H).2 = 0) with
  | false =>
    simp only [Bool.not_false, cond_true, ieq_eq, h1, oite_t]
  | true =>
    have k := (ckT_0 (of_decide_eq_true h1)).2
    simp only [Bool.not_true, cond_false, ieq_eq]
    cases h2 : decide (hldE M r d = 0) with
    | false => rfl
    | true =>
      obtain ⟨⟨j, hj, rfl⟩, hd1⟩ := hldE_0 (of_decide_eq_true h2)
      simp only [Bool.not_true, cond_false, oite_f]
      rw [f220_e k (by omega)]
      cases (opt lo up M H w (hdB lo up M H j d) H.length v m.toNat).isSome <;> rfl
end
end
end Go.Proofs.YtmbekcealcjabaaGreat.AM
