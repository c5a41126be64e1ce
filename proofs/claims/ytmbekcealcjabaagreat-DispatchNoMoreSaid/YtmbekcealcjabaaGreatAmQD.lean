/- Plain laws of chapter 8: accepted potentials bound each plan; the program's own ones are accepted; higher volumes. Conditions: none. -/
import Derived.Test.YtmbekcealcjabaaGreatAmQ3
namespace Go.Proofs.YtmbekcealcjabaaGreat.AM
section
set_option linter.unusedSimpArgs false
set_option linter.unusedVariables false
open Go Go.RowKit

/-! ### Values -/
def never : Int := -100000000000
section
variable (lo up : Int) (M : List (ByteArray × Int × Int × Int)) (H : List (Int × Int × Int)) (w : Int) (hd : Nat → Int → Bool)
/-- The greatest of never and what the first modes bring. -/
def potJ (pk : Int → Nat → Int) (t : Nat) (v : Int) (b : Nat) : Nat → Int
  | 0 => never
  | j + 1 => bif inR lo up (aft M H v t j) then max (potJ pk t v b j) (rev M H t b j + pk (aft M H v t j) j) else potJ pk t v b j
def pot : Nat → Int → Nat → Int
  | 0, v, _ => w * v
  | k + 1, v, b => bif hd (H.length - (k + 1)) v then potJ lo up M H (pot k) (H.length - (k + 1)) v b M.length else never
/-- The same, where it is marked what is possible. -/
def optJ (ok : Int → Nat → Option Int) (t : Nat) (v : Int) (b : Nat) : Nat → Option Int
  | 0 => none
  | j + 1 => bif inR lo up (aft M H v t j) then
      match ok (aft M H v t j) j with
      | none => optJ ok t v b j
      | some y => match optJ ok t v b j with
        | none => some (rev M H t b j + y)
        | some z => some (bif decide (z < rev M H t b j + y) then rev M H t b j + y else z)
    else optJ ok t v b j
def opt : Nat → Int → Nat → Option Int
  | 0, v, _ => some (w * v)
  | k + 1, v, b => bif hd (H.length - (k + 1)) v then optJ lo up M H (opt k) (H.length - (k + 1)) v b M.length else none
end
/-- Near the number, or near never. -/
def relV (k : Nat) (p : Int) : Option Int → Prop
  | some x => p = x ∧ -10000000000 - 100010000 * (k : Int) ≤ x ∧ x ≤ 10000000000 + 100010000 * (k : Int)
  | none => never - 100010000 * (k : Int) ≤ p ∧ p ≤ never + 100010000 * (k : Int)
section
variable {lo up v m w : Int} {M : List (ByteArray × Int × Int × Int)} {H : List (Int × Int × Int)} {P : List Int} {hd : Nat → Int → Bool}
theorem rel_J (k : okT lo up M v m w H) {q t : Nat} (hq : q ≤ 9) (ht : t < H.length) {pk : Int → Nat → Int} {ok : Int → Nat → Option Int} (hr : ∀ x j, lo ≤ x → x ≤ up → j < M.length → relV q (pk x j) (ok x j)) {x : Int} {b : Nat} :
    ∀ j, j ≤ M.length → match optJ lo up M H ok t x b j with
      | some y => potJ lo up M H pk t x b j = y ∧ -10000000000 - 100010000 * ((q + 1 : Nat) : Int) ≤ y ∧ y ≤ 10000000000 + 100010000 * ((q + 1 : Nat) : Int)
      | none => never ≤ potJ lo up M H pk t x b j ∧ potJ lo up M H pk t x b j ≤ never + 100010000 * ((q + 1 : Nat) : Int)
  | 0, _ => by simp only [optJ, potJ]; omega
  | j + 1, hj => by
    have ih := rel_J k hq ht hr (x := x) (b := b) j (by omega)
    simp only [optJ, potJ]
    cases h1 : inR lo up (aft M H x t j) with
    | false => simp only [cond_false]; exact ih
    | true =>
      have h2 := inR_p h1
      have h3 := hr _ j h2.1 h2.2 (by omega)
      have h4 := rev_b k (b := b) ht (show j < M.length by omega)
      simp only [cond_true]
      generalize rev M H t b j = r at *
      generalize pk (aft M H x t j) j = p at *
      generalize ok (aft M H x t j) j = o at *
      generalize potJ lo up M H pk t x b j = p' at *
      generalize optJ lo up M H ok t x b j = o' at *
      unfold never at *
      cases o with
      | none =>
        simp only [relV, never] at h3
        cases o' with
        | none => simp only at ih ⊢; omega
        | some z => simp only at ih ⊢; omega
      | some y =>
        simp only [relV] at h3
        cases o' with
        | none => simp only at ih ⊢; omega
        | some z =>
          simp only at ih ⊢
          by_cases h5 : z < r + y
          · rw [decide_eq_true h5]; simp only [cond_true]; omega
          · rw [decide_eq_false h5]; simp only [cond_false]; omega
theorem rel_pot (k : okT lo up M v m w H) : ∀ (q : Nat) (x : Int) (b : Nat), q ≤ H.length → lo ≤ x → x ≤ up → relV q (pot lo up M H w hd q x b) (opt lo up M H w hd q x b)
  | 0, x, b, _, h1, h2 => by
    have h := wv_b k h1 h2
    have e : ((0 : Nat) : Int) = 0 := rfl
    refine ⟨rfl, ?_, ?_⟩ <;> rw [e] <;> omega
  | q + 1, x, b, hq, h1, h2 => by
    have hf := k.hfew
    simp only [pot, opt]
    cases hd (H.length - (q + 1)) x with
    | false => simp only [cond_false, relV]; omega
    | true =>
      simp only [cond_true]
      have h := rel_J k (q := q) (t := H.length - (q + 1)) (by omega) (by omega) (pk := pot lo up M H w hd q) (ok := opt lo up M H w hd q) (fun y j hy1 hy2 hj => rel_pot k q y j (by omega) hy1 hy2) (x := x) (b := b) M.length (Nat.le_refl _)
      cases h3 : optJ lo up M H (opt lo up M H w hd q) (H.length - (q + 1)) x b M.length with
      | none => rw [h3] at h; simp only [relV] at h ⊢; omega
      | some y => rw [h3] at h; exact h
theorem isVal (k : okT lo up M v m w H) {q : Nat} {x : Int} {b : Nat} (hq : q ≤ H.length) (h1 : lo ≤ x) (h2 : x ≤ up) : decide (-50000000000 < pot lo up M H w hd q x b) = (opt lo up M H w hd q x b).isSome := by
  have h := rel_pot (hd := hd) k q x b hq h1 h2
  have hf := k.hfew
  cases h3 : opt lo up M H w hd q x b with
  | none => rw [h3] at h; simp only [relV, never] at h; exact decide_eq_false (by omega)
  | some y => rw [h3] at h; simp only [relV] at h; exact decide_eq_true (by omega)
theorem pot_some (k : okT lo up M v m w H) {q : Nat} {x y : Int} {b : Nat} (hq : q ≤ H.length) (h1 : lo ≤ x) (h2 : x ≤ up) (h : opt lo up M H w hd q x b = some y) : pot lo up M H w hd q x b = y ∧ -10000000000 - 100010000 * (q : Int) ≤ y ∧ y ≤ 10000000000 + 100010000 * (q : Int) := by
  have h3 := rel_pot (hd := hd) k q x b hq h1 h2
  rw [h] at h3; exact h3
theorem pot_b (k : okT lo up M v m w H) {q : Nat} {x : Int} {b : Nat} (hq : q ≤ H.length) (h1 : lo ≤ x) (h2 : x ≤ up) : -200000000000 ≤ pot lo up M H w hd q x b ∧ pot lo up M H w hd q x b ≤ 20000000000 := by
  have h := rel_pot (hd := hd) k q x b hq h1 h2
  have hf := k.hfew
  cases h3 : opt lo up M H w hd q x b with
  | none => rw [h3] at h; simp only [relV, never] at h; omega
  | some y => rw [h3] at h; simp only [relV] at h; omega
/-- A greatest value is brought by a mode. -/
theorem optJ_at {ok : Int → Nat → Option Int} {t b : Nat} {x y : Int} : ∀ n : Nat, optJ lo up M H ok t x b n = some y → ∃ j z, j < n ∧ inR lo up (aft M H x t j) = true ∧ ok (aft M H x t j) j = some z ∧ y = rev M H t b j + z
  | 0, h => by cases h
  | n + 1, h => by
    simp only [optJ] at h
    have lift : optJ lo up M H ok t x b n = some y → ∃ j z, j < n + 1 ∧ inR lo up (aft M H x t j) = true ∧ ok (aft M H x t j) j = some z ∧ y = rev M H t b j + z := fun h => by
      obtain ⟨j, z, h1, h2⟩ := optJ_at n h
      exact ⟨j, z, by omega, h2⟩
    cases h1 : inR lo up (aft M H x t n) with
    | false => rw [h1] at h; exact lift h
    | true =>
      rw [h1] at h
      simp only [cond_true] at h
      cases h2 : ok (aft M H x t n) n with
      | none => rw [h2] at h; exact lift h
      | some z =>
        rw [h2] at h
        simp only at h
        cases h3 : optJ lo up M H ok t x b n with
        | none => rw [h3] at h; injection h with h; exact ⟨n, z, by omega, h1, h2, h.symm⟩
        | some u =>
          rw [h3] at h
          injection h with h
          by_cases h4 : u < rev M H t b n + z
          · rw [decide_eq_true h4] at h; exact ⟨n, z, by omega, h1, h2, h.symm⟩
          · rw [decide_eq_false h4] at h; exact lift (by rw [h3, ← h]; rfl)
/-- No mode brings more. -/
theorem optJ_ge {ok : Int → Nat → Option Int} {t b : Nat} {x z : Int} {j : Nat} : ∀ n : Nat, j < n → inR lo up (aft M H x t j) = true → ok (aft M H x t j) j = some z → ∃ y, optJ lo up M H ok t x b n = some y ∧ rev M H t b j + z ≤ y
  | 0, h, _, _ => by omega
  | n + 1, h, h1, h2 => by
    simp only [optJ]
    rcases Nat.lt_succ_iff_lt_or_eq.1 h with h3 | h3
    · obtain ⟨y, hy, hle⟩ := optJ_ge n h3 h1 h2
      rw [hy]
      cases inR lo up (aft M H x t n) with
      | false => exact ⟨y, rfl, hle⟩
      | true =>
        simp only [cond_true]
        cases ok (aft M H x t n) n with
        | none => exact ⟨y, rfl, hle⟩
        | some u =>
          by_cases h4 : y < rev M H t b n + u
          · exact ⟨_, rfl, by rw [decide_eq_true h4]; simp only [cond_true]; omega⟩
          · exact ⟨_, rfl, by rw [decide_eq_false h4]; exact hle⟩
    · subst h3
      rw [h1]
      simp only [cond_true]
      rw [h2]
      cases optJ lo up M H ok t x b j with
      | none => exact ⟨_, rfl, Int.le_refl _⟩
      | some y =>
        by_cases h4 : y < rev M H t b j + z
        · exact ⟨_, rfl, by rw [decide_eq_true h4]; exact Int.le_refl _⟩
        · exact ⟨_, rfl, by rw [decide_eq_false h4]; simp only [cond_false]; omega⟩
end
end
section
set_option linter.unusedSimpArgs false
set_option linter.unusedVariables false
open Go Go.RowKit

/-! ### Rows that are filled from the left -/
def part {α : Type} (p q : Nat → α) (c n : Nat) : List α := (List.range n).map fun i => bif Nat.blt i c then p i else q i
theorem blt_t {a b : Nat} (h : a < b) : Nat.blt a b = true := by rw [Nat.blt_eq]; exact h
theorem blt_f {a b : Nat} (h : ¬ a < b) : Nat.blt a b = false := by rw [Bool.eq_false_iff]; intro h1; rw [Nat.blt_eq] at h1; exact h h1
theorem part_len {α : Type} {p q : Nat → α} {c n : Nat} : (part p q c n).length = n := by simp [part]
theorem part_get {α : Type} {p q : Nat → α} {c n : Nat} (h : c < n) : (part p q c n)[c]? = some (q c) := by
  simp [part, h, blt_f (Nat.lt_irrefl c)]
theorem part_set {α : Type} {p q : Nat → α} {c n : Nat} {x : α} (hx : x = p c) : (part p q c n).set c x = part p q (c + 1) n := by
  subst hx
  apply List.ext_getElem?
  intro i
  rw [List.getElem?_set]
  by_cases h : c = i
  · subst h
    rw [if_pos rfl, part_len]
    by_cases hn : c < n
    · simp [part, hn, blt_t (Nat.lt_succ_self c)]
    · simp [part, hn]
  · rw [if_neg h]
    simp only [part, List.getElem?_map]
    by_cases hn : i < n
    · rw [List.getElem?_range hn]
      simp only [Option.map_some]
      by_cases h1 : i < c
      · rw [blt_t h1, blt_t (show i < c + 1 by omega)]
      · rw [blt_f h1, blt_f (show ¬ i < c + 1 by omega)]
    · rw [List.getElem?_eq_none (by simp; omega)]
      rfl
theorem part_same {α : Type} {p q : Nat → α} {c n : Nat} {x : α} (hx : x = q c) : (part p q c n).set c x = part p q c n := by
  subst hx
  apply List.ext_getElem?
  intro i
  rw [List.getElem?_set]
  by_cases h : c = i
  · subst h
    rw [if_pos rfl, part_len]
    by_cases hn : c < n
    · rw [if_pos hn, part_get hn]
    · simp [part, hn]
  · rw [if_neg h]
theorem part_skip {α : Type} {p q : Nat → α} {c n : Nat} (h : p c = q c) : part p q c n = part p q (c + 1) n := by rw [← part_set (x := q c) h.symm, part_same rfl]
theorem part_0 {α : Type} {p q : Nat → α} {n : Nat} : part p q 0 n = (List.range n).map q := by
  unfold part; congr 1
theorem part_n {α : Type} {p q : Nat → α} {n : Nat} : part p q n n = (List.range n).map p := by
  unfold part
  apply List.map_congr_left
  intro i hi
  rw [blt_t (List.mem_range.1 hi)]; rfl
theorem range_rep {α : Type} {x : α} {n : Nat} : (List.range n).map (fun _ => x) = List.replicate n x := by
  apply List.ext_getElem <;> simp

/-! ### Cells -/
def nc (lo up : Int) (M : List (ByteArray × Int × Int × Int)) : Nat := ((up - lo).toNat + 1) * M.length
/-- A row, cell by cell. -/
def cel {α : Type} (lo : Int) (M : List (ByteArray × Int × Int × Int)) (p : Int → Nat → α) (c : Nat) : α := p (lo + (c / M.length : Nat)) (c % M.length)
def row {α : Type} (lo up : Int) (M : List (ByteArray × Int × Int × Int)) (p : Int → Nat → α) : List α := (List.range (nc lo up M)).map (cel lo M p)
section
variable {lo up v m w : Int} {M : List (ByteArray × Int × Int × Int)} {H : List (Int × Int × Int)} {hd : Nat → Int → Bool}
theorem cel_at {α : Type} {p : Int → Nat → α} {a b : Nat} (hb : b < M.length) : cel lo M p (a * M.length + b) = p (lo + (a : Int)) b := by
  unfold cel
  rw [Nat.add_comm, Nat.add_mul_div_right _ _ (by omega), Nat.add_mul_mod_self_right, Nat.div_eq_of_lt hb, Nat.mod_eq_of_lt hb, Nat.zero_add]
theorem cell_lt {a b : Nat} (ha : a ≤ (up - lo).toNat) (hb : b < M.length) : a * M.length + b < nc lo up M := by
  unfold nc
  calc a * M.length + b < a * M.length + M.length := by omega
    _ = (a + 1) * M.length := by rw [Nat.add_mul, Nat.one_mul]
    _ ≤ ((up - lo).toNat + 1) * M.length := Nat.mul_le_mul_right _ (by omega)
theorem row_len {α : Type} {p : Int → Nat → α} : (row lo up M p).length = nc lo up M := by simp [row]
theorem row_get {α : Type} {p : Int → Nat → α} {x : Int} {b : Nat} (h1 : lo ≤ x) (h2 : x ≤ up) (hb : b < M.length) : (row lo up M p)[(x - lo).toNat * M.length + b]? = some (p x b) := by
  have h := cell_lt (lo := lo) (up := up) (M := M) (a := (x - lo).toNat) (b := b) (by omega) hb
  unfold row
  rw [List.getElem?_map, List.getElem?_range h, Option.map_some, cel_at hb, show lo + ((x - lo).toNat : Int) = x by omega]
theorem nc_b (k : okT lo up M v m w H) : 0 < nc lo up M ∧ nc lo up M ≤ 200 := by
  have a := k.span; have b := k.mpos; have c := k.mfew; have d := k.lohi
  unfold nc
  constructor
  · exact Nat.mul_pos (by omega) b
  · calc ((up - lo).toNat + 1) * M.length ≤ 40 * 5 := Nat.mul_le_mul (by omega) c
      _ = 200 := rfl
theorem f234_e (k : okT lo up M v m w H) {v' m' w' : Int} {x : Int} {b : Nat} (h1 : lo ≤ x) (h2 : x ≤ up) (hb : b < M.length) : f234 lo up M v' m' w' H x (b : Int) = some (((x - lo).toNat * M.length + b : Nat) : Int) := by
  have a := k.lo0; have a1 := k.hi1
  have h := cell_lt (lo := lo) (up := up) (M := M) (a := (x - lo).toNat) (b := b) (by omega) hb
  have hn := (nc_b k).2
  unfold f234
  rw [List.length_map, wr (n := x - lo) (by omega) (by omega)]
  have e : (x - lo) * (M.length : Int) = (((x - lo).toNat * M.length : Nat) : Int) := by
    rw [Int.natCast_mul, Int.toNat_of_nonneg (by omega)]
  rw [e, wr (n := (((x - lo).toNat * M.length : Nat) : Int)) (by omega) (by omega), wr (by omega) (by omega)]
  rfl

/-! ### The program's table -/
/-- Whether a reserve can be given long enough. -/
def hdB (lo up : Int) (M : List (ByteArray × Int × Int × Int)) (H : List (Int × Int × Int)) (x d : Int) (t : Nat) (v : Int) : Bool :=
  decide (x < 0) || decide (min d ((H.length : Int) - t) ≤ (gvn lo up M H x.toNat (H.length - t) t v : Int))
theorem f247_e (k : okT lo up M v m w H) {v' m' w' : Int} {x : Int} {t : Nat} {r d : Int} (h1 : lo ≤ x) (h2 : x ≤ up) (ht : t ≤ H.length) (hr : r < M.length) : f247 lo up M v' m' w' H x (t : Int) r d = some (hdB lo up M H r d t x) := by
  have a := k.lo0; have a1 := k.hi1
  have hf := k.hfew
  unfold f247 hdB
  rw [ilt_eq]
  cases h : decide (r < 0) with
  | true => rfl
  | false =>
    have h := of_decide_eq_false h
    obtain ⟨j, rfl⟩ := Int.eq_ofNat_of_zero_le (show 0 ≤ r by omega)
    rw [oite_f, f223_e k ht (by omega) (by omega)]
    simp (disch := omega) only [obnd_s, obnd_n, oite_ss, oite_t, oite_f, ogrd_t, ogrd_f, obndS_l, obndS_r, ilt_eq, ile_eq, ieq_eq, imax_e, imin_e, k0, k1, k2, k3, k4, k5, k6, k7, k8, k9, reduceIte, k10, k11, k12, k13, k14, k15, k16, k17, k18, k19, k20, k21, k22, k23, k24, k25, k26, k27, k28, wr]
theorem mfits_t {b : Nat} {l c : Int} (h0 : 0 ≤ l) (h1 : l ≤ c) (h2 : c * b ≤ 1099511627776) (h3 : c ≤ 1099511627776) : mfits b l c = true := by
  unfold mfits
  rw [ile_eq, ile_eq, ile_eq, ile_eq, decide_eq_true h0, decide_eq_true h1, decide_eq_true h2, decide_eq_true h3]; rfl
theorem f246_r {x : Int} {n : Nat} (h0 : 0 < n) (hn : n ≤ 1000000) : f246 [x] (n : Int) = some (List.replicate n x) := by
  unfold f246
  simp only
  rw [mfits_t (by omega) (Int.le_refl _) (by omega) (by omega), ile_eq, decide_eq_true (by omega)]
  rfl
def outS {α : Type} (lo up : Int) (M : List (ByteArray × Int × Int × Int)) (n : Nat) (p : Nat → Int → Nat → α) (i : Nat) : List (List α) := (List.range (n + 1)).map fun t => bif Nat.blt n (t + i) then row lo up M (p (n - t)) else []
theorem outS_len {α : Type} {n i : Nat} {p : Nat → Int → Nat → α} : (outS lo up M n p i).length = n + 1 := by simp [outS]
theorem outS_0 {α : Type} {n : Nat} {p : Nat → Int → Nat → α} : outS lo up M n p 0 = List.replicate (n + 1) [] := by
  unfold outS
  apply List.ext_getElem
  · simp
  · intro i h1 h2
    simp only [List.getElem_map, List.getElem_range, List.getElem_replicate]
    rw [blt_f (by simp at h1; omega)]; rfl
theorem outS_get {α : Type} {n i t : Nat} {p : Nat → Int → Nat → α} (ht : t ≤ n) (h : n < t + i) : (outS lo up M n p i)[t]? = some (row lo up M (p (n - t))) := by
  simp [outS, show t < n + 1 by omega, blt_t h]
theorem outS_set {α : Type} {n i : Nat} {p : Nat → Int → Nat → α} (hi' : i ≤ n) : (outS lo up M n p i).set (n - i) (row lo up M (p i)) = outS lo up M n p (i + 1) := by
  apply List.ext_getElem?
  intro t
  rw [List.getElem?_set]
  by_cases h : n - i = t
  · subst h
    rw [if_pos rfl, outS_len, if_pos (by omega), outS_get (by omega) (by omega), show n - (n - i) = i by omega]
  · rw [if_neg h]
    simp only [outS, List.getElem?_map]
    by_cases ht : t < n + 1
    · rw [List.getElem?_range ht]
      simp only [Option.map_some]
      by_cases h1 : n < t + i
      · rw [blt_t h1, blt_t (show n < t + (i + 1) by omega)]
      · rw [blt_f h1, blt_f (show ¬ n < t + (i + 1) by omega)]
    · rw [List.getElem?_eq_none (by simp; omega)]
      rfl
end
end
section
set_option linter.unusedSimpArgs false
set_option linter.unusedVariables false
open Go Go.RowKit

section
variable {lo up v m w : Int} {M : List (ByteArray × Int × Int × Int)} {H : List (Int × Int × Int)}
/-- The program's values: times count from the end. -/
noncomputable def pp (lo up : Int) (M : List (ByteArray × Int × Int × Int)) (H : List (Int × Int × Int)) (w r d : Int) : Nat → Int → Nat → Int := pot lo up M H w (hdB lo up M H r d)
theorem f229_e (k : okT lo up M v m w H) {v' m' : Int} {r d : Int} (hr : r < M.length) : f229 lo up M v' m' w H r d = some (outS lo up M H.length (pp lo up M H w r d) (H.length + 1)) := by
  have hlo := k.lo0; have hhi := k.hi1; have hf := k.hfew; have hmp := k.mpos; have hmf := k.mfew; have hlh := k.lohi; have hsp := k.span
  obtain ⟨hc0, hc1⟩ := nc_b k
  have e1 : (((M.length : Nat) : Int) - 1) = ((M.length - 1 : Nat) : Int) := by omega
  have hcell : (up - lo).toNat * M.length + (M.length - 1) + 1 = nc lo up M := by unfold nc; rw [Nat.add_mul, Nat.one_mul]; omega
  have e2 : (((up - lo).toNat * M.length + (M.length - 1) : Nat) : Int) + 1 = ((nc lo up M : Nat) : Int) := by omega
  have e3 : ((H.length : Nat) : Int) + 1 = ((H.length + 1 : Nat) : Int) := by omega
  unfold f229
  simp only [List.length_map]
  rw [wr (n := ((M.length : Nat) : Int) - 1) (by omega) (by omega), e1, f234_e k hlh (Int.le_refl _) (by omega)]
  simp only [obnd_s]
  rw [wr (n := ((H.length : Nat) : Int) + 1) (by omega) (by omega), wr (n := (((up - lo).toNat * M.length + (M.length - 1) : Nat) : Int) + 1) (by omega) (by omega), e2, e3, mfits_t (by omega) (Int.le_refl _) (by omega) (by omega), ogrd_t]
  refine (obnd_of (a := ((-1 : Int), outS lo up M H.length (pp lo up M H w r d) (H.length + 1))) ?_).trans ?_
  · refine oloop_all (fun i => ((H.length : Int) - (i : Int), outS lo up M H.length (pp lo up M H w r d) i)) (H.length + 1) ?_ ?_ ?_
    · rw [outS_0]; simp
    · intro i hi'
      have e4 : ((H.length : Nat) : Int) - (i : Int) = ((H.length - i : Nat) : Int) := by omega
      simp only [e4, ile_eq, ilt_eq, ieq_eq, decide_eq_true (Int.natCast_nonneg _), oite_t, ogrd_t, Int.toNat_natCast, f246_r hc0 (show nc lo up M ≤ 1000000 by omega), obnd_s, outS_len, decide_eq_true (show ((H.length - i : Nat) : Int) < ((H.length + 1 : Nat) : Int) by omega), blt_t (show H.length - i < H.length + 1 by omega), List.length_replicate]
      refine (obnd_of (a := (nc lo up M, row lo up M (pp lo up M H w r d i))) ?_).trans ?_
      · rw [← range_rep (x := -100000000000)]
        refine oloop_all (fun a => (lo + (a : Int), part (cel lo M (pp lo up M H w r d i)) (fun _ => -100000000000) (a * M.length) (nc lo up M))) ((up - lo).toNat + 1) ?_ ?_ ?_
        · rw [Nat.zero_mul, part_0]; simp
        · intro a ha
          have hx1 : lo ≤ lo + (a : Int) := by omega
          have hx2 : lo + (a : Int) ≤ up := by omega
          have ea : (lo + (a : Int) - lo).toNat = a := by omega
          simp only [decide_eq_true hx2, oite_t]
          refine (obnd_of (a := part (cel lo M (pp lo up M H w r d i)) (fun _ => -100000000000) ((a + 1) * M.length) (nc lo up M)) ?_).trans ?_
          · refine oloop_all (fun b => ((b : Int), part (cel lo M (pp lo up M H w r d i)) (fun _ => -100000000000) (a * M.length + b) (nc lo up M))) M.length ?_ ?_ ?_
            · rw [Nat.add_zero]; rfl
            · intro b hb
              have hcl := cell_lt (lo := lo) (up := up) (M := M) (a := a) (b := b) (by omega) hb
              have hce := cel_at (lo := lo) (M := M) (p := pp lo up M H w r d i) (a := a) (b := b) hb
              simp only [decide_eq_true (show ((b : Nat) : Int) < ((M.length : Nat) : Int) by omega), oite_t, f234_e k hx1 hx2 hb, ea, obnd_s, decide_eq_true (Int.natCast_nonneg _), ogrd_t, decide_eq_true (show ((a * M.length + b : Nat) : Int) < ((nc lo up M : Nat) : Int) by omega), Int.toNat_natCast, part_len, blt_t hcl, ceqN]
              refine (obnd_of (a := part (cel lo M (pp lo up M H w r d i)) (fun _ => -100000000000) (a * M.length + (b + 1)) (nc lo up M)) ?_).trans ?_
              · by_cases hi0 : i = 0
                · subst hi0
                  have hw := wv_b k hx1 hx2
                  rw [decide_eq_true (show H.length - 0 = H.length from rfl), oite_t, wr (by omega) (by omega), part_set (by rw [hce]; rfl)]; rfl
                · obtain ⟨q, rfl⟩ := Nat.exists_eq_succ_of_ne_zero hi0
                  rw [decide_eq_false (show ¬ H.length - (q + 1) = H.length by omega), oite_f, f247_e k hx1 hx2 (by omega) hr]
                  simp only [obnd_s]
                  have hpp : pp lo up M H w r d (q + 1) (lo + (a : Int)) b = bif hdB lo up M H r d (H.length - (q + 1)) (lo + (a : Int)) then potJ lo up M H (pp lo up M H w r d q) (H.length - (q + 1)) (lo + (a : Int)) b M.length else never := rfl
                  cases hh : hdB lo up M H r d (H.length - (q + 1)) (lo + (a : Int)) with
                  | false =>
                    rw [hh] at hpp
                    rw [part_skip (c := a * M.length + b) (by rw [hce, hpp]; rfl)]; rfl
                  | true =>
                    rw [hh] at hpp
                    simp only [Bool.not_true, oite_f]
                    refine oloop_all (fun j => ((j : Int), (part (cel lo M (pp lo up M H w r d (q + 1))) (fun _ => -100000000000) (a * M.length + b) (nc lo up M)).set (a * M.length + b) (potJ lo up M H (pp lo up M H w r d q) (H.length - (q + 1)) (lo + (a : Int)) b j))) M.length ?_ ?_ ?_
                    · rw [part_same (by rfl)]; rfl
                    · intro j hj
                      have hh1 := k.hour (H.length - (q + 1)) (by omega)
                      have hm1 := k.mode j hj
                      have e5 : ((H.length - (q + 1) : Nat) : Int) + 1 = ((H.length - q : Nat) : Int) := by omega
                      simp only [decide_eq_true (show ((j : Nat) : Int) < ((M.length : Nat) : Int) by omega), oite_t]
                      rw [f242_e k (show H.length - (q + 1) < H.length by omega) hj (by omega), aft_n]
                      simp only [obnd_s, f243_e]
                      simp only [potJ]
                      cases hin : inR lo up (aft M H (lo + (a : Int)) (H.length - (q + 1)) j) with
                      | false =>
                        simp (disch := omega) only [obnd_s, obnd_n, oite_ss, oite_t, oite_f, ogrd_t, ogrd_f, obndS_l, obndS_r, ilt_eq, ile_eq, ieq_eq, imax_e, imin_e, k0, k1, k2, k3, k4, k5, k6, k7, k8, k9, reduceIte, k10, k11, k12, k13, k14, k15, k16, k17, k18, k19, k20, k21, k22, k23, k24, k25, k26, k27, k28, wr]; rfl
                      | true =>
                        have hp := inR_p hin
                        have hrv := rev_b k (b := b) (show H.length - (q + 1) < H.length by omega) hj
                        have hpb := pot_b (hd := hdB lo up M H r d) k (q := q) (b := j) (by omega) hp.1 hp.2
                        rw [oite_t, List.getElem?_set_self (by rw [part_len]; exact hcl)]
                        simp only [obnd_s]
                        rw [wr (n := ((H.length - (q + 1) : Nat) : Int) + 1) (by omega) (by omega), e5, decide_eq_true (Int.natCast_nonneg _), ogrd_t, decide_eq_true (show ((H.length - q : Nat) : Int) < ((H.length + 1 : Nat) : Int) by omega), ogrd_t, Int.toNat_natCast]
                        rw [show Nat.beq (H.length - (q + 1)) (H.length - q) = false by rw [Bool.eq_false_iff]; intro h; have := Nat.eq_of_beq_eq_true h; omega]
                        rw [Bool.not_false, ogrd_t, outS_get (by omega) (by omega), show H.length - (H.length - q) = q by omega]
                        simp only [obnd_s]
                        rw [f239_e k (by omega) hj]
                        simp only [obnd_s]
                        rw [f234_e k hp.1 hp.2 hj]
                        simp only [obnd_s]
                        rw [decide_eq_true (Int.natCast_nonneg _), ogrd_t, Int.toNat_natCast, row_get hp.1 hp.2 hj]
                        simp only [obnd_s]
                        rw [List.length_set, part_len, blt_t hcl, ogrd_t, List.set_set, imax_e]
                        simp only [pp] at hpb ⊢
                        rw [wr (n := rev M H (H.length - (q + 1)) b j + _) (by omega) (by omega), wr (n := (j : Int) + 1) (by omega) (by omega)]
                        rfl
                    · simp (disch := omega) only [obnd_s, obnd_n, oite_ss, oite_t, oite_f, ogrd_t, ogrd_f, obndS_l, obndS_r, ilt_eq, ile_eq, ieq_eq, imax_e, imin_e, k0, k1, k2, k3, k4, k5, k6, k7, k8, k9, reduceIte, k10, k11, k12, k13, k14, k15, k16, k17, k18, k19, k20, k21, k22, k23, k24, k25, k26, k27, k28, Int.lt_irrefl]
                      rw [part_set (by rw [hce, hpp]; rfl)]; rfl
              · try simp only
                rw [wr (n := (b : Int) + 1) (by omega) (by omega)]; rfl
            · simp (disch := omega) only [obnd_s, obnd_n, oite_ss, oite_t, oite_f, ogrd_t, ogrd_f, obndS_l, obndS_r, ilt_eq, ile_eq, ieq_eq, imax_e, imin_e, k0, k1, k2, k3, k4, k5, k6, k7, k8, k9, reduceIte, k10, k11, k12, k13, k14, k15, k16, k17, k18, k19, k20, k21, k22, k23, k24, k25, k26, k27, k28, Int.lt_irrefl]
              rw [Nat.add_mul, Nat.one_mul]
          · try simp only
            rw [wr (n := lo + (a : Int) + 1) (by omega) (by omega), show lo + (a : Int) + 1 = lo + ((a + 1 : Nat) : Int) by omega]
        · have : ¬ lo + (((up - lo).toNat + 1 : Nat) : Int) ≤ up := by omega
          rw [decide_eq_false this, oite_f]
          try simp only
          unfold row
          rw [← part_n (q := fun _ => -100000000000)]; rfl
      · try simp only
        rw [row_len, show Nat.beq (nc lo up M) (nc lo up M) = true from Nat.beq_refl _, ogrd_t, outS_set (by omega), wr (n := ((H.length - i : Nat) : Int) - 1) (by omega) (by omega), show ((H.length - i : Nat) : Int) - 1 = (H.length : Int) - ((i + 1 : Nat) : Int) by omega]
    · have : ¬ (0 : Int) ≤ (H.length : Int) - ((H.length + 1 : Nat) : Int) := by omega
      rw [ile_eq, decide_eq_false this, oite_f]
      congr 3; omega
  · simp only [outS_len, Int.toNat_natCast]
    rw [show Nat.beq (H.length + 1) (H.length + 1) = true from Nat.beq_refl _]; rfl
end
end
section
set_option linter.unusedSimpArgs false
set_option linter.unusedVariables false
open Go Go.RowKit

/-- The first mode that a test accepts. -/
def pickN (t : Nat → Bool) (n : Nat) : Option Nat := scanF (fun j => bif t j then some j else none) n 0
theorem pick_map {ρ : Type} (t : Nat → Bool) (n : Nat) (k : Nat → ρ) : scanF (fun j => bif t j then some (k j) else none) n 0 = (pickN t n).map k := by
  unfold pickN; rw [← scanF_map]
  refine scanF_congr fun j _ _ => ?_
  cases t j <;> rfl
theorem scan_lt {t : Nat → Bool} : ∀ {n i j : Nat}, scanF (fun j => bif t j then some j else none) n i = some j → i ≤ j ∧ j < i + n ∧ t j = true ∧ ∀ q, i ≤ q → q < j → t q = false
  | 0, _, _, h => by cases h
  | n + 1, i, j, h => by
    simp only [scanF] at h
    cases ht : t i with
    | true => rw [ht] at h; injection h with h; subst h; exact ⟨Nat.le_refl _, by omega, ht, fun q h1 h2 => by omega⟩
    | false =>
      rw [ht] at h
      obtain ⟨h1, h2, h3, h4⟩ := scan_lt (n := n) h
      refine ⟨by omega, by omega, h3, fun q h5 h6 => ?_⟩
      rcases Nat.eq_or_lt_of_le h5 with rfl | h7
      · exact ht
      · exact h4 q h7 h6
theorem pick_some {t : Nat → Bool} {n j : Nat} (h : pickN t n = some j) : j < n ∧ t j = true ∧ ∀ q, q < j → t q = false := by
  obtain ⟨_, h2, h3, h4⟩ := scan_lt h
  exact ⟨by omega, h3, fun q hq => h4 q (Nat.zero_le _) hq⟩
theorem pick_none {t : Nat → Bool} {n : Nat} (h : pickN t n = none) : ∀ j, j < n → t j = false := by
  intro j hj
  have := scanF_none h j (Nat.zero_le _) (by omega)
  cases ht : t j with
  | false => rfl
  | true => simp only [ht] at this; cases this
theorem pick_congr {t t' : Nat → Bool} {n : Nat} (h : ∀ j, j < n → t j = t' j) : pickN t n = pickN t' n := by
  unfold pickN
  refine scanF_congr fun j _ hj => ?_
  rw [h j (by omega)]

section
variable (lo up : Int) (M : List (ByteArray × Int × Int × Int)) (H : List (Int × Int × Int)) (v m w : Int)
/-- Hour by hour: the plan, the volume, the mode; by a test of modes. -/
def walkP (t : Nat → Int → Nat → Nat → Bool) : Nat → List Int × Int × Nat
  | 0 => ([], v, m.toNat)
  | i + 1 => match pickN (t i (walkP t i).2.1 (walkP t i).2.2) M.length with
    | some j => ((walkP t i).1 ++ [(j : Int)], aft M H (walkP t i).2.1 i j, j)
    | none => walkP t i
/-- The program's test, by its values. -/
def tstP (p : Nat → Int → Nat → Int) (i : Nat) (x : Int) (b j : Nat) : Bool := inR lo up (aft M H x i j) && decide (rev M H i b j + p (H.length - (i + 1)) (aft M H x i j) j = p (H.length - i) x b)
end
section
variable {lo up v m w : Int} {M : List (ByteArray × Int × Int × Int)} {H : List (Int × Int × Int)}
theorem walkIn (k : okT lo up M v m w H) {t : Nat → Int → Nat → Nat → Bool} (ht : ∀ i x b j, t i x b j = true → inR lo up (aft M H x i j) = true) : ∀ i : Nat, (lo ≤ (walkP M H v m t i).2.1 ∧ (walkP M H v m t i).2.1 ≤ up) ∧ (walkP M H v m t i).2.2 < M.length ∧ (walkP M H v m t i).1.length ≤ i
  | 0 => by have := k.vlo; have := k.vhi; have := k.m0; have := k.m1; simp only [walkP, List.length_nil]; omega
  | i + 1 => by
    have ih := walkIn k ht i
    simp only [walkP]
    cases h : pickN (t i (walkP M H v m t i).2.1 (walkP M H v m t i).2.2) M.length with
    | none => simp only; omega
    | some j =>
      obtain ⟨h1, h2, _⟩ := pick_some h
      have := inR_p (ht _ _ _ _ h2)
      simp only [List.length_append, List.length_cons, List.length_nil]; omega
theorem tst_in {p : Nat → Int → Nat → Int} : ∀ i x b j, tstP lo up M H p i x b j = true → inR lo up (aft M H x i j) = true := by
  intro i x b j h
  simp only [tstP, Bool.and_eq_true] at h
  exact h.1
theorem f220_e (k : okT lo up M v m w H) {r d : Int} (hr : r < M.length) :
    f220 lo up M v m w H r d = some (bif (opt lo up M H w (hdB lo up M H r d) H.length v m.toNat).isSome then ((walkP M H v m (tstP lo up M H (pp lo up M H w r d)) H.length).1, pp lo up M H w r d H.length v m.toNat, true) else ([], 0, false)) := by
  have hlo := k.lo0; have hhi := k.hi1; have hf := k.hfew; have hmp := k.mpos; have hmf := k.mfew
  have hm0 := k.m0; have hm1 := k.m1
  have em : m = ((m.toNat : Nat) : Int) := by omega
  have hmn : m.toNat < M.length := by omega
  have hiv := isVal (hd := hdB lo up M H r d) k (q := H.length) (b := m.toNat) (Nat.le_refl _) k.vlo k.vhi
  unfold f220
  rw [f229_e k hr]
  simp only [obnd_s]
  rw [show ((0 : Int)).toNat = 0 from rfl, outS_get (Nat.zero_le _) (by omega)]
  simp only [obnd_s]
  rw [em, f234_e k k.vlo k.vhi hmn]
  simp only [obnd_s, ile_eq, decide_eq_true (Int.natCast_nonneg _), ogrd_t, Int.toNat_natCast, Nat.sub_zero]
  rw [row_get k.vlo k.vhi hmn]
  simp only [obnd_s]
  unfold f233
  simp only [obnd_s, ilt_eq]
  rw [show decide (-50000000000 < pp lo up M H w r d H.length v m.toNat) = (opt lo up M H w (hdB lo up M H r d) H.length v m.toNat).isSome from hiv]
  cases (opt lo up M H w (hdB lo up M H r d) H.length v m.toNat).isSome with
  | false => rfl
  | true =>
    simp only [Bool.not_true, oite_f, cond_true]
    have hw := walkIn k (t := tstP lo up M H (pp lo up M H w r d)) tst_in
    refine (obnd_of (a := ((walkP M H v m (tstP lo up M H (pp lo up M H w r d)) H.length).1, (walkP M H v m (tstP lo up M H (pp lo up M H w r d)) H.length).2.1, ((walkP M H v m (tstP lo up M H (pp lo up M H w r d)) H.length).2.2 : Int))) ?_).trans ?_
    · refine oloop_all (fun i => ((i : Int), (walkP M H v m (tstP lo up M H (pp lo up M H w r d)) i).1, (walkP M H v m (tstP lo up M H (pp lo up M H w r d)) i).2.1, ((walkP M H v m (tstP lo up M H (pp lo up M H w r d)) i).2.2 : Int))) H.length ?_ ?_ ?_
      · simp only [walkP, ← em]; rfl
      · intro i hi'
        obtain ⟨⟨hx1, hx2⟩, hb, hpl⟩ := hw i
        simp only [walkP]
        generalize hS : walkP M H v m (tstP lo up M H (pp lo up M H w r d)) i = S at *
        obtain ⟨pl, x, b⟩ := S
        simp only at hx1 hx2 hb hpl ⊢
        simp only [List.length_map, decide_eq_true (show ((i : Nat) : Int) < ((H.length : Nat) : Int) by omega), oite_t, decide_eq_true (Int.natCast_nonneg _), ogrd_t, Int.toNat_natCast]
        rw [outS_get (by omega) (by omega)]
        simp only [obnd_s]
        rw [f234_e k hx1 hx2 hb]
        simp only [obnd_s, decide_eq_true (Int.natCast_nonneg _), ogrd_t, Int.toNat_natCast]
        rw [row_get hx1 hx2 hb]
        simp only [obnd_s]
        refine (obnd_of (a := match pickN (tstP lo up M H (pp lo up M H w r d) i x b) M.length with
          | some j => (pl ++ [(j : Int)], aft M H x i j, (j : Int))
          | none => (pl, x, (b : Int))) ?_).trans ?_
        · rw [oloop_scanB (fun j => (j : Int)) M.length (tstP lo up M H (pp lo up M H w r d) i x b) (fun j => (pl ++ [(j : Int)], aft M H x i j, (j : Int))) (d := (pl, x, (b : Int))) (e0 := (0 : Int)) rfl ?_ ?_, pick_map]
          · cases pickN (tstP lo up M H (pp lo up M H w r d) i x b) M.length <;> rfl
          · intro j hj
            have hh1 := k.hour i hi'
            have hm1 := k.mode j hj
            simp only [decide_eq_true (show ((j : Nat) : Int) < ((M.length : Nat) : Int) by omega), oite_t]
            rw [f242_e k hi' hj (by omega), aft_n]
            simp only [obnd_s, f243_e]
            unfold tstP
            cases hin : inR lo up (aft M H x i j) with
            | false => simp (disch := omega) only [obnd_s, obnd_n, oite_ss, oite_t, oite_f, ogrd_t, ogrd_f, obndS_l, obndS_r, ilt_eq, ile_eq, ieq_eq, imax_e, imin_e, k0, k1, k2, k3, k4, k5, k6, k7, k8, k9, reduceIte, k10, k11, k12, k13, k14, k15, k16, k17, k18, k19, k20, k21, k22, k23, k24, k25, k26, k27, k28, wr]; rfl
            | true =>
              have hp := inR_p hin
              have hrv := rev_b k (b := b) hi' hj
              have hpb := pot_b (hd := hdB lo up M H r d) k (q := H.length - (i + 1)) (b := j) (by omega) hp.1 hp.2
              rw [oite_t, wr (n := (i : Int) + 1) (by omega) (by omega), show (i : Int) + 1 = ((i + 1 : Nat) : Int) by omega, decide_eq_true (Int.natCast_nonneg _), ogrd_t, Int.toNat_natCast, outS_get (by omega) (by omega)]
              simp only [obnd_s]
              rw [f239_e k hi' hj]
              simp only [obnd_s]
              rw [f234_e k hp.1 hp.2 hj]
              simp only [obnd_s, decide_eq_true (Int.natCast_nonneg _), ogrd_t, Int.toNat_natCast]
              rw [row_get hp.1 hp.2 hj]
              simp only [obnd_s, ieq_eq, Bool.true_and]
              simp only [pp] at hpb ⊢
              have e7 := wr (n := rev M H i b j + pot lo up M H w (hdB lo up M H r d) (H.length - (i + 1)) (aft M H x i j) j) (by omega) (by omega)
              simp only [e7]
              rw [wr (n := (j : Int) + 1) (by omega) (by omega), ogrd_fits (by simp; omega) (by simp; omega)]
              by_cases hq : rev M H i b j + pot lo up M H w (hdB lo up M H r d) (H.length - (i + 1)) (aft M H x i j) j = pot lo up M H w (hdB lo up M H r d) (H.length - i) x b
              · simp [hq, oite_t]
              · simp [hq, oite_f]
          · simp (disch := omega) only [obnd_s, obnd_n, oite_ss, oite_t, oite_f, ogrd_t, ogrd_f, obndS_l, obndS_r, ilt_eq, ile_eq, ieq_eq, imax_e, imin_e, k0, k1, k2, k3, k4, k5, k6, k7, k8, k9, reduceIte, k10, k11, k12, k13, k14, k15, k16, k17, k18, k19, k20, k21, k22, k23, k24, k25, k26, k27, k28, Int.lt_irrefl]
        · rw [wr (n := (i : Int) + 1) (by omega) (by omega)]
          cases pickN (tstP lo up M H (pp lo up M H w r d) i x b) M.length <;> rfl
      · simp (disch := omega) only [obnd_s, obnd_n, oite_ss, oite_t, oite_f, ogrd_t, ogrd_f, obndS_l, obndS_r, ilt_eq, ile_eq, ieq_eq, imax_e, imin_e, k0, k1, k2, k3, k4, k5, k6, k7, k8, k9, reduceIte, k10, k11, k12, k13, k14, k15, k16, k17, k18, k19, k20, k21, k22, k23, k24, k25, k26, k27, k28, Int.lt_irrefl]
    · rw [← em]
theorem f206_e (hM : M.length < 4611686018427387904) (hs : ∀ p, p ∈ M → p.1.size < 4611686018427387904) (hH : H.length < 4611686018427387904) :
    f206 lo up M v m w H = some (bif !decide ((ckT lo up M v m w H).2 = 0) then ([], 0, (ckT lo up M v m w H).2) else bif (opt lo up M H w (hdB lo up M H (-1) 0) H.length v m.toNat).isSome then ((walkP M H v m (tstP lo up M H (pp lo up M H w (-1) 0)) H.length).1, pp lo up M H w (-1) 0 H.length v m.toNat, 0) else ([], 0, 12)) := by
  unfold f206
  rw [f219_e hM hs hH]
  simp only [obnd_s, ieq_eq]
  cases h1 : decide ((ckT lo up M v m w H).2 = 0) with
  | false => rfl
  | true =>
    have k := (ckT_0 (of_decide_eq_true h1)).2
    simp only [Bool.not_true, oite_f, cond_false]
    rw [f220_e k (by omega)]
    cases (opt lo up M H w (hdB lo up M H (-1) 0) H.length v m.toNat).isSome <;> rfl

/-! ### The plan found by values is the one found by marks -/
/-- The test by marked values. -/
def tstO (lo up : Int) (M : List (ByteArray × Int × Int × Int)) (H : List (Int × Int × Int)) (o : Nat → Int → Nat → Option Int) (i : Nat) (x : Int) (b j : Nat) : Bool := inR lo up (aft M H x i j) && (match o (H.length - (i + 1)) (aft M H x i j) j with
  | some y => decide (o (H.length - i) x b = some (rev M H i b j + y))
  | none => false)
theorem tstO_in {o : Nat → Int → Nat → Option Int} : ∀ i x b j, tstO lo up M H o i x b j = true → inR lo up (aft M H x i j) = true := by
  intro i x b j h
  simp only [tstO, Bool.and_eq_true] at h
  exact h.1
theorem tst_eq (k : okT lo up M v m w H) {hd : Nat → Int → Bool} {i b j : Nat} {x y : Int} (hi' : i < H.length) (hj : j < M.length) (h1 : lo ≤ x) (h2 : x ≤ up) (h : opt lo up M H w hd (H.length - i) x b = some y) :
    tstP lo up M H (pot lo up M H w hd) i x b j = tstO lo up M H (opt lo up M H w hd) i x b j := by
  unfold tstP tstO
  cases hin : inR lo up (aft M H x i j) with
  | false => rfl
  | true =>
    have hp := inR_p hin
    have h3 := pot_some k (by omega) h1 h2 h
    have h4 := rel_pot (hd := hd) k (H.length - (i + 1)) (aft M H x i j) j (by omega) hp.1 hp.2
    have hrv := rev_b k (b := b) hi' hj
    have hf := k.hfew
    rw [h, h3.1]
    cases h5 : opt lo up M H w hd (H.length - (i + 1)) (aft M H x i j) j with
    | none =>
      rw [h5] at h4
      simp only [relV, never] at h4
      simp only [Bool.true_and]
      exact decide_eq_false (by omega)
    | some z =>
      rw [h5] at h4
      simp only [relV] at h4
      rw [h4.1]
      simp only [Bool.true_and, Option.some.injEq]
      rw [Bool.eq_iff_iff, decide_eq_true_eq, decide_eq_true_eq]
      exact eq_comm
theorem walk_eq (k : okT lo up M v m w H) {hd : Nat → Int → Bool} (h : (opt lo up M H w hd H.length v m.toNat).isSome = true) : ∀ i : Nat, i ≤ H.length →
    walkP M H v m (tstP lo up M H (pot lo up M H w hd)) i = walkP M H v m (tstO lo up M H (opt lo up M H w hd)) i ∧ (opt lo up M H w hd (H.length - i) (walkP M H v m (tstO lo up M H (opt lo up M H w hd)) i).2.1 (walkP M H v m (tstO lo up M H (opt lo up M H w hd)) i).2.2).isSome = true ∧ (walkP M H v m (tstO lo up M H (opt lo up M H w hd)) i).1.length = i
  | 0, _ => ⟨rfl, h, rfl⟩
  | i + 1, hi' => by
    obtain ⟨h1, h2, h3⟩ := walk_eq k h i (by omega)
    obtain ⟨⟨hx1, hx2⟩, hb, _⟩ := walkIn k (t := tstO lo up M H (opt lo up M H w hd)) tstO_in i
    simp only [walkP]
    rw [h1]
    generalize hS : walkP M H v m (tstO lo up M H (opt lo up M H w hd)) i = S at *
    obtain ⟨pl, x, b⟩ := S
    simp only at h2 h3 hx1 hx2 hb ⊢
    obtain ⟨y, hy⟩ := Option.isSome_iff_exists.1 h2
    rw [pick_congr (t' := tstO lo up M H (opt lo up M H w hd) i x b) (fun j hj => tst_eq k (by omega) hj hx1 hx2 hy)]
    cases hp : pickN (tstO lo up M H (opt lo up M H w hd) i x b) M.length with
    | none =>
      exfalso
      have hn := pick_none hp
      have e : H.length - i = (H.length - (i + 1)) + 1 := by omega
      have hy' := hy
      rw [e] at hy'
      simp only [opt] at hy'
      rw [show H.length - (H.length - (i + 1) + 1) = i by omega] at hy'
      cases hh : hd i x with
      | false => rw [hh] at hy'; cases hy'
      | true =>
        rw [hh] at hy'
        obtain ⟨j, z, hj, h4, h5, h6⟩ := optJ_at M.length hy'
        have := hn j hj
        simp only [tstO, h4, h5, hy, h6, Bool.true_and, decide_true] at this
        cases this
    | some j =>
      obtain ⟨hj, ht, _⟩ := pick_some hp
      refine ⟨rfl, ?_, by simp [h3]⟩
      simp only [tstO, Bool.and_eq_true] at ht
      cases h5 : opt lo up M H w hd (H.length - (i + 1)) (aft M H x i j) j with
      | none => rw [h5] at ht; cases ht.2
      | some z => rfl
end
end
section
set_option linter.unusedSimpArgs false
set_option linter.unusedVariables false
open Go Go.RowKit

section
variable {lo up v m w : Int} {M : List (ByteArray × Int × Int × Int)} {H : List (Int × Int × Int)} {P : List Int} {hd hd' : Nat → Int → Bool}
theorem gi_app {L L' : List Int} {i : Nat} (h : i < L.length) : gi (L ++ L') i = gi L i := by
  unfold gi; rw [List.getD_eq_getElem?_getD, List.getD_eq_getElem?_getD, List.getElem?_append_left h]
theorem gi_end {L : List Int} {x : Int} {i : Nat} (h : L.length = i) : gi (L ++ [x]) i = x := by
  subst h; unfold gi; rw [List.getD_eq_getElem?_getD]; simp
theorem gi_tk {L : List Int} {n i : Nat} (h : i < n) : gi (L.take n) i = gi L i := by
  unfold gi; rw [List.getD_eq_getElem?_getD, List.getD_eq_getElem?_getD, List.getElem?_take, if_pos h]
/-- One hour of the walk. -/
theorem walk_s (k : okT lo up M v m w H) (h : (opt lo up M H w hd H.length v m.toNat).isSome = true) {i : Nat} (hi : i < H.length) :
    ∃ j : Nat, j < M.length ∧ walkP M H v m (tstO lo up M H (opt lo up M H w hd)) (i + 1) = ((walkP M H v m (tstO lo up M H (opt lo up M H w hd)) i).1 ++ [(j : Int)], aft M H (walkP M H v m (tstO lo up M H (opt lo up M H w hd)) i).2.1 i j, j) ∧
      inR lo up (aft M H (walkP M H v m (tstO lo up M H (opt lo up M H w hd)) i).2.1 i j) = true ∧ hd i (walkP M H v m (tstO lo up M H (opt lo up M H w hd)) i).2.1 = true := by
  obtain ⟨_, h2, h3⟩ := walk_eq k h i (by omega)
  obtain ⟨_, _, h5⟩ := walk_eq k h (i + 1) (by omega)
  have hs : walkP M H v m (tstO lo up M H (opt lo up M H w hd)) (i + 1) = match pickN (tstO lo up M H (opt lo up M H w hd) i (walkP M H v m (tstO lo up M H (opt lo up M H w hd)) i).2.1 (walkP M H v m (tstO lo up M H (opt lo up M H w hd)) i).2.2) M.length with
    | some j => ((walkP M H v m (tstO lo up M H (opt lo up M H w hd)) i).1 ++ [(j : Int)], aft M H (walkP M H v m (tstO lo up M H (opt lo up M H w hd)) i).2.1 i j, j)
    | none => walkP M H v m (tstO lo up M H (opt lo up M H w hd)) i := rfl
  have hhd : hd i (walkP M H v m (tstO lo up M H (opt lo up M H w hd)) i).2.1 = true := by
    rw [show H.length - i = (H.length - (i + 1)) + 1 by omega] at h2
    simp only [opt] at h2
    rw [show H.length - (H.length - (i + 1) + 1) = i by omega] at h2
    cases hh : hd i (walkP M H v m (tstO lo up M H (opt lo up M H w hd)) i).2.1 with
    | true => rfl
    | false => rw [hh] at h2; cases h2
  cases hp : pickN (tstO lo up M H (opt lo up M H w hd) i (walkP M H v m (tstO lo up M H (opt lo up M H w hd)) i).2.1 (walkP M H v m (tstO lo up M H (opt lo up M H w hd)) i).2.2) M.length with
  | none =>
    rw [hp] at hs
    simp only at hs
    rw [hs, h3] at h5; omega
  | some j =>
    rw [hp] at hs
    obtain ⟨hj, ht, _⟩ := pick_some hp
    exact ⟨j, hj, hs, tstO_in _ _ _ _ ht, hhd⟩
theorem walk_tk (k : okT lo up M v m w H) (h : (opt lo up M H w hd H.length v m.toNat).isSome = true) : ∀ d i : Nat, i + d ≤ H.length →
    (walkP M H v m (tstO lo up M H (opt lo up M H w hd)) (i + d)).1.take i = (walkP M H v m (tstO lo up M H (opt lo up M H w hd)) i).1
  | 0, i, hi => by
    obtain ⟨_, _, h3⟩ := walk_eq k h i (by omega)
    rw [Nat.add_zero, List.take_of_length_le (by omega)]
  | d + 1, i, hi => by
    obtain ⟨j, _, hs, _⟩ := walk_s k h (i := i + d) (by omega)
    obtain ⟨_, _, h3⟩ := walk_eq k h (i + d) (by omega)
    rw [show i + (d + 1) = (i + d) + 1 by omega, hs]
    simp only
    rw [List.take_append_of_le_length (by omega), walk_tk k h d i (by omega)]
/-- The plan that is found. -/
def bestP (lo up : Int) (M : List (ByteArray × Int × Int × Int)) (H : List (Int × Int × Int)) (v m w : Int) (hd : Nat → Int → Bool) : List Int := (walkP M H v m (tstO lo up M H (opt lo up M H w hd)) H.length).1
theorem best_len (k : okT lo up M v m w H) (h : (opt lo up M H w hd H.length v m.toNat).isSome = true) : (bestP lo up M H v m w hd).length = H.length := (walk_eq k h H.length (Nat.le_refl _)).2.2
theorem best_at (k : okT lo up M v m w H) (h : (opt lo up M H w hd H.length v m.toNat).isSome = true) {i : Nat} (hi : i < H.length) {j : Nat}
    (hs : walkP M H v m (tstO lo up M H (opt lo up M H w hd)) (i + 1) = ((walkP M H v m (tstO lo up M H (opt lo up M H w hd)) i).1 ++ [(j : Int)], aft M H (walkP M H v m (tstO lo up M H (opt lo up M H w hd)) i).2.1 i j, j)) : gi (bestP lo up M H v m w hd) i = (j : Int) := by
  obtain ⟨_, _, h3⟩ := walk_eq k h i (by omega)
  have h4 := walk_tk k h (H.length - (i + 1)) (i + 1) (by omega)
  rw [show i + 1 + (H.length - (i + 1)) = H.length by omega] at h4
  rw [← gi_tk (L := bestP lo up M H v m w hd) (n := i + 1) (Nat.lt_succ_self i)]
  unfold bestP
  rw [h4, hs]
  exact gi_end h3
theorem best_vv (k : okT lo up M v m w H) (h : (opt lo up M H w hd H.length v m.toNat).isSome = true) : ∀ i : Nat, i ≤ H.length → vv M H v (bestP lo up M H v m w hd) i = (walkP M H v m (tstO lo up M H (opt lo up M H w hd)) i).2.1 ∧ bef m (bestP lo up M H v m w hd) i = ((walkP M H v m (tstO lo up M H (opt lo up M H w hd)) i).2.2 : Int)
  | 0, _ => ⟨rfl, by have := k.m0; simp only [bef, walkP]; omega⟩
  | i + 1, hi => by
    obtain ⟨h1, _⟩ := best_vv k h i (by omega)
    obtain ⟨j, _, hs, _⟩ := walk_s k h (i := i) (by omega)
    have h2 := best_at k h (by omega) hs
    rw [hs]
    simp only [vv, bef, h1, h2, Int.toNat_natCast]
    exact ⟨rfl, trivial⟩
theorem best_plM (k : okT lo up M v m w H) (h : (opt lo up M H w hd H.length v m.toNat).isSome = true) : plM M (bestP lo up M H v m w hd) := by
  intro i hi
  rw [best_len k h] at hi
  obtain ⟨j, hj, hs, _⟩ := walk_s k h hi
  exact ⟨j, hj, best_at k h hi hs⟩
theorem best_hd (k : okT lo up M v m w H) (h : (opt lo up M H w hd H.length v m.toNat).isSome = true) {i : Nat} (hi : i < H.length) : hd i (vv M H v (bestP lo up M H v m w hd) i) = true := by
  obtain ⟨j, hj, _, _, h1⟩ := walk_s k h hi
  rw [(best_vv k h i (by omega)).1]; exact h1
theorem best_in (k : okT lo up M v m w H) (h : (opt lo up M H w hd H.length v m.toNat).isSome = true) {i : Nat} (hi : i < H.length) : inR lo up (vv M H v (bestP lo up M H v m w hd) (i + 1)) = true := by
  obtain ⟨j, hj, hs, h1, _⟩ := walk_s k h hi
  rw [(best_vv k h (i + 1) (by omega)).1, hs]; exact h1
theorem any_plM (h : plM M P) : P.any (fun n => !isM M n) = false := by
  rw [List.any_eq_false]
  intro x hx
  obtain ⟨i, hi, rfl⟩ := List.getElem_of_mem hx
  obtain ⟨j, hj, he⟩ := h i hi
  unfold gi at he; rw [getD_i hi] at he
  rw [he]
  simp only [isM, Bool.not_eq_true, Bool.not_eq_false', Bool.and_eq_true, decide_eq_true_eq]; omega
theorem best_pE (k : okT lo up M v m w H) (h : (opt lo up M H w hd H.length v m.toNat).isSome = true) : pE lo up M H v (bestP lo up M H v m w hd) = 0 := by
  unfold pE
  rw [best_len k h, decide_eq_true rfl, any_plM (best_plM k h)]
  have : badV lo up M H v (bestP lo up M H v m w hd) = false := by
    refine anyN_of_f fun i h1 h2 => ?_
    obtain ⟨q, rfl⟩ := Nat.exists_eq_succ_of_ne_zero (show i ≠ 0 by omega)
    have := best_in k h (i := q) (by omega)
    simp only [Nat.succ_eq_add_one, this, Bool.not_true]
  rw [this]; rfl

/-! ### No possible plan is worth more -/
theorem opt_ge (k : okT lo up M v m w H) (hl : P.length = H.length) (hp : plM M P) (hb : badV lo up M H v P = false) (hh : ∀ i, i < H.length → hd i (vv M H v P i) = true) : ∀ q : Nat, q ≤ H.length →
    ∃ y, opt lo up M H w hd q (vv M H v P (H.length - q)) (bef m P (H.length - q)).toNat = some y ∧ w * vv M H v P H.length + (vsum M H m P H.length - vsum M H m P (H.length - q)) ≤ y
  | 0, _ => ⟨_, rfl, by rw [Nat.sub_zero]; omega⟩
  | q + 1, hq => by
    obtain ⟨z, hz, hle⟩ := opt_ge k hl hp hb hh q (by omega)
    have e : H.length - q = (H.length - (q + 1)) + 1 := by omega
    generalize ht : H.length - (q + 1) = t at *
    have hlt : t < H.length := by omega
    obtain ⟨j, hj, he⟩ := hp t (by omega)
    rw [e] at hz hle
    have hv : vv M H v P (t + 1) = aft M H (vv M H v P t) t j := by simp only [vv, he, Int.toNat_natCast]; rfl
    have hbf : (bef m P (t + 1)).toNat = j := by simp only [bef, he, Int.toNat_natCast]
    rw [hv, hbf] at hz
    have hin := badV_f k hb (t + 1) (by omega)
    rw [hv] at hin
    have hin' : inR lo up (aft M H (vv M H v P t) t j) = true := by unfold inR; rw [decide_eq_true hin.1, decide_eq_true hin.2]; rfl
    obtain ⟨y, hy, hle2⟩ := optJ_ge (lo := lo) (up := up) (M := M) (H := H) (ok := opt lo up M H w hd q) (t := t) (b := (bef m P t).toNat) M.length hj hin' hz
    refine ⟨y, ?_, ?_⟩
    · simp only [opt]
      rw [ht, hh t hlt]
      exact hy
    · simp only [vsum, he, Int.toNat_natCast] at hle
      omega
theorem opt_plan (k : okT lo up M v m w H) (hl : P.length = H.length) (hp : plM M P) (hb : badV lo up M H v P = false) (hh : ∀ i, i < H.length → hd i (vv M H v P i) = true) : ∃ y, opt lo up M H w hd H.length v m.toNat = some y ∧ valP M H v m w P ≤ y := by
  obtain ⟨y, hy, hle⟩ := opt_ge (hd := hd) k hl hp hb hh H.length (Nat.le_refl _)
  rw [Nat.sub_self] at hy hle
  refine ⟨y, hy, ?_⟩
  unfold valP
  simp only [vsum] at hle
  omega
/-! ### What holds more is worth no more -/
theorem opt_mono (hm : ∀ t x, t < H.length → hd' t x = true → hd t x = true) : ∀ (q : Nat) (x : Int) (b : Nat) (y : Int), q ≤ H.length → opt lo up M H w hd' q x b = some y → ∃ z, opt lo up M H w hd q x b = some z ∧ y ≤ z
  | 0, x, b, y, _, h => ⟨y, h, Int.le_refl _⟩
  | q + 1, x, b, y, hq, h => by
    simp only [opt] at h ⊢
    cases h1 : hd' (H.length - (q + 1)) x with
    | false => rw [h1] at h; cases h
    | true =>
      rw [h1] at h
      rw [hm _ _ (by omega) h1]
      simp only [cond_true] at h ⊢
      obtain ⟨j, z, hj, h2, h3, rfl⟩ := optJ_at M.length h
      obtain ⟨z', h4, h5⟩ := opt_mono hm q _ _ _ (by omega) h3
      obtain ⟨y', h6, h7⟩ := optJ_ge (b := b) M.length hj h2 h4
      exact ⟨y', h6, by omega⟩
/-- The plan that is found is worth its value. -/
theorem best_val (k : okT lo up M v m w H) (h : (opt lo up M H w hd H.length v m.toNat).isSome = true) : ∀ i : Nat, i ≤ H.length →
    ∃ y0 y, opt lo up M H w hd H.length v m.toNat = some y0 ∧ opt lo up M H w hd (H.length - i) (vv M H v (bestP lo up M H v m w hd) i) (bef m (bestP lo up M H v m w hd) i).toNat = some y ∧ y0 = vsum M H m (bestP lo up M H v m w hd) i + y
  | 0, _ => by
    obtain ⟨y, hy⟩ := Option.isSome_iff_exists.1 h
    exact ⟨y, y, hy, hy, by simp [vsum]⟩
  | i + 1, hi => by
    obtain ⟨y0, y, h1, h2, h3⟩ := best_val k h i (by omega)
    obtain ⟨e1, e2⟩ := best_vv k h i (by omega)
    obtain ⟨e3, e4⟩ := best_vv k h (i + 1) (by omega)
    have hs : walkP M H v m (tstO lo up M H (opt lo up M H w hd)) (i + 1) = match pickN (tstO lo up M H (opt lo up M H w hd) i (walkP M H v m (tstO lo up M H (opt lo up M H w hd)) i).2.1 (walkP M H v m (tstO lo up M H (opt lo up M H w hd)) i).2.2) M.length with
      | some j => ((walkP M H v m (tstO lo up M H (opt lo up M H w hd)) i).1 ++ [(j : Int)], aft M H (walkP M H v m (tstO lo up M H (opt lo up M H w hd)) i).2.1 i j, j)
      | none => walkP M H v m (tstO lo up M H (opt lo up M H w hd)) i := rfl
    obtain ⟨j', hj', hs', _⟩ := walk_s k h (i := i) (by omega)
    have h5 := best_at k h (by omega) hs'
    cases hp : pickN (tstO lo up M H (opt lo up M H w hd) i (walkP M H v m (tstO lo up M H (opt lo up M H w hd)) i).2.1 (walkP M H v m (tstO lo up M H (opt lo up M H w hd)) i).2.2) M.length with
    | none =>
      rw [hp] at hs
      simp only at hs
      obtain ⟨_, _, h6⟩ := walk_eq k h i (by omega)
      obtain ⟨_, _, h7⟩ := walk_eq k h (i + 1) (by omega)
      rw [hs, h6] at h7; omega
    | some j =>
      rw [hp] at hs
      have hjj : j = j' := by
        have := hs.symm.trans hs'
        injection this with _ this
        injection this
      subst hjj
      obtain ⟨_, ht, _⟩ := pick_some hp
      rw [e1, e2, Int.toNat_natCast] at h2
      simp only [tstO, Bool.and_eq_true] at ht
      obtain ⟨_, ht⟩ := ht
      rw [e3, e4, hs', Int.toNat_natCast]
      simp only
      cases h8 : opt lo up M H w hd (H.length - (i + 1)) (aft M H (walkP M H v m (tstO lo up M H (opt lo up M H w hd)) i).2.1 i j) j with
      | none => rw [h8] at ht; cases ht
      | some z =>
        rw [h8] at ht
        simp only [decide_eq_true_eq] at ht
        rw [ht] at h2
        injection h2 with h2
        refine ⟨y0, z, h1, rfl, ?_⟩
        simp only [vsum, h5, e2, Int.toNat_natCast]
        omega
theorem best_worth (k : okT lo up M v m w H) {y : Int} (h : opt lo up M H w hd H.length v m.toNat = some y) : valP M H v m w (bestP lo up M H v m w hd) = y := by
  obtain ⟨y0, z, h1, h2, h3⟩ := best_val (hd := hd) k (by rw [h]; rfl) H.length (Nat.le_refl _)
  rw [h] at h1; injection h1 with h1
  rw [Nat.sub_self] at h2
  simp only [opt] at h2
  injection h2 with h2
  unfold valP; omega
theorem best_e (h0 : (ckT lo up M v m w H).2 = 0) (hM : M.length < 4611686018427387904) (hs : ∀ p, p ∈ M → p.1.size < 4611686018427387904) (hH : H.length < 4611686018427387904) :
    f206 lo up M v m w H = some (match opt lo up M H w (hdB lo up M H (-1) 0) H.length v m.toNat with
      | some y => (bestP lo up M H v m w (hdB lo up M H (-1) 0), y, 0)
      | none => ([], 0, 12)) := by
  have k := (ckT_0 h0).2
  rw [f206_e hM hs hH, h0]
  simp only [decide_true, Bool.not_true, cond_false]
  cases h2 : opt lo up M H w (hdB lo up M H (-1) 0) H.length v m.toNat with
  | none => rfl
  | some y =>
    have h3 := walk_eq (hd := hdB lo up M H (-1) 0) k (by rw [h2]; rfl) H.length (Nat.le_refl _)
    have h4 := pot_some k (Nat.le_refl _) k.vlo k.vhi h2
    simp only [Option.isSome_some, cond_true, pp]
    rw [h4.1, h3.1]; rfl
theorem hdB_n : ∀ t x, hdB lo up M H (-1) 0 t x = true := by
  intro t x
  unfold hdB; rfl
theorem ckT_parts (h : (ckT lo up M v m w H).2 = 0) : (ckP lo up M).2 = 0 ∧ tskE lo up M.length v m w H.length = 0 ∧ ∀ i, i < H.length → hourE H i = 0 := by
  unfold ckT at h
  cases h1 : decide ((ckP lo up M).2 = 0) with
  | false => rw [h1] at h; exact absurd h (of_decide_eq_false h1)
  | true =>
    cases h2 : decide (tskE lo up M.length v m w H.length = 0) with
    | false => rw [h1, h2] at h; exact absurd h (of_decide_eq_false h2)
    | true =>
      rw [h1, h2] at h
      exact ⟨of_decide_eq_true h1, of_decide_eq_true h2, (errs_get h).2⟩
end
end
section
set_option linter.unusedSimpArgs false
set_option linter.unusedVariables false
open Go Go.RowKit

/-! ### Tests of all -/
theorem anyN_iff {b : Nat → Bool} : ∀ {n i : Nat}, anyN b n i = true ↔ ∃ k, i ≤ k ∧ k < i + n ∧ b k = true
  | 0, i => ⟨fun h => by (cases h), fun ⟨k, h1, h2, _⟩ => by omega⟩
  | n + 1, i => by
    simp only [anyN, Bool.or_eq_true]
    rw [anyN_iff (n := n) (i := i + 1)]
    constructor
    · rintro (h | ⟨k, h1, h2, h3⟩)
      · exact ⟨i, Nat.le_refl _, by omega, h⟩
      · exact ⟨k, by omega, by omega, h3⟩
    · rintro ⟨k, h1, h2, h3⟩
      rcases Nat.eq_or_lt_of_le h1 with rfl | h4
      · exact .inl h3
      · exact .inr ⟨k, by omega, by omega, h3⟩
theorem anyN_congr {b b' : Nat → Bool} {n i : Nat} (h : ∀ k, i ≤ k → k < i + n → b k = b' k) : anyN b n i = anyN b' n i := by
  rw [Bool.eq_iff_iff, anyN_iff, anyN_iff]
  exact ⟨fun ⟨k, h1, h2, h3⟩ => ⟨k, h1, h2, by rw [← h k h1 h2]; exact h3⟩, fun ⟨k, h1, h2, h3⟩ => ⟨k, h1, h2, by rw [h k h1 h2]; exact h3⟩⟩
theorem anyN_mul {f : Nat → Bool} {p q : Nat} (hq : 0 < q) : anyN (fun a => anyN (fun b => f (a * q + b)) q 0) p 0 = anyN f (p * q) 0 := by
  rw [Bool.eq_iff_iff, anyN_iff, anyN_iff]
  constructor
  · rintro ⟨a, _, h2, h3⟩
    obtain ⟨b, _, h5, h6⟩ := anyN_iff.1 h3
    refine ⟨a * q + b, Nat.zero_le _, ?_, h6⟩
    have : (a + 1) * q ≤ p * q := Nat.mul_le_mul_right _ (by omega)
    rw [Nat.add_mul, Nat.one_mul] at this
    omega
  · rintro ⟨c, _, h2, h3⟩
    refine ⟨c / q, Nat.zero_le _, ?_, anyN_iff.2 ⟨c % q, Nat.zero_le _, by have := Nat.mod_lt c hq; omega, ?_⟩⟩
    · have : c / q < p := (Nat.div_lt_iff_lt_mul hq).2 (by omega)
      omega
    · rw [Nat.mul_comm, Nat.div_add_mod]; exact h3
theorem any_anyN {α : Type} {l : List α} {p : α → Bool} (d : α) : l.any p = anyN (fun i => p (l.getD i d)) l.length 0 := by
  rw [Bool.eq_iff_iff, List.any_eq_true, anyN_iff]
  constructor
  · rintro ⟨x, hx, h⟩
    obtain ⟨i, hi, rfl⟩ := List.getElem_of_mem hx
    exact ⟨i, Nat.zero_le _, by omega, by rw [getD_i hi]; exact h⟩
  · rintro ⟨i, _, hi, h⟩
    have hi' : i < l.length := by omega
    rw [getD_i hi'] at h
    exact ⟨l[i], List.getElem_mem hi', h⟩
/-- A loop that is left as soon as a test holds. -/
theorem oloop_any {τ ρ : Type} {g : τ → Option (τ ⊕ ρ)} (S : Nat → τ) (n : Nat) (b : Nat → Bool) {r d : ρ} {e0 : τ} (h0 : e0 = S 0)
    (h : ∀ i, i < n → g (S i) = some (bif b i then .inr r else .inl (S (i + 1)))) (hend : g (S n) = some (.inr d)) : oloop g e0 = some (bif anyN b n 0 then r else d) := by
  rw [oloop_scanB S n b (fun _ => r) h0 h hend, scan_c]
  cases anyN b n 0 <;> rfl

/-! ### Lists put together -/
theorem f38_e {L : List Int} (h : L.length ≤ 1000000000) : f38 L = some L := by
  unfold f38; rw [ogrd_fits (by simp; omega) (by simp; omega)]; rfl

def gl (L : List (List Int)) (i : Nat) : List Int := L.getD i []
theorem get_gl {L : List (List Int)} {i : Nat} (h : i < L.length) : L[i]? = some (gl L i) := by unfold gl; rw [getD_i h, List.getElem?_eq_getElem h]
def few (L : List (List Int)) : Prop := L.length ≤ 13 ∧ ∀ i, i < L.length → (gl L i).length ≤ 210
def fl (L : List (List Int)) (i : Nat) : List Int := (L.take i).flatten
theorem fl_s {L : List (List Int)} {i : Nat} (h : i < L.length) : fl L (i + 1) = fl L i ++ gl L i := by
  unfold fl
  rw [List.take_add_one, get_gl h, List.flatten_append]; simp
theorem fl_b {L : List (List Int)} (h : few L) : ∀ i : Nat, i ≤ L.length → (fl L i).length ≤ 210 * i
  | 0, _ => by simp [fl]
  | i + 1, hi => by
    have h1 := fl_b h i (by omega)
    have h2 := h.2 i (by omega)
    rw [fl_s (by omega), List.length_append]; omega
theorem fl_n {L : List (List Int)} : fl L L.length = L.flatten := by unfold fl; rw [List.take_length]
theorem fl_le {L : List (List Int)} : ∀ (d i : Nat), i + d ≤ L.length → (fl L i).length ≤ (fl L (i + d)).length
  | 0, i, _ => Nat.le_refl _
  | d + 1, i, h => by
    have := fl_le (L := L) d i (by omega)
    rw [← Nat.add_assoc, fl_s (by omega), List.length_append]; omega
theorem f359_e {L : List (List Int)} (h : few L) : f359 L = some L.flatten := by
  have hb := fl_b h
  have hT := hb L.length (Nat.le_refl _)
  rw [fl_n] at hT
  have hL := h.1
  unfold f359
  refine (obnd_of (a := (L.flatten.length : Int)) ?_).trans ?_
  · rw [← fl_n]
    refine oloop_all (fun i => (((fl L i).length : Int), (i : Int))) L.length rfl ?_ ?_
    · intro i hi
      have h1 := hb i (by omega)
      have h2 := h.2 i hi
      rw [fl_s hi, List.length_append]
      simp (disch := omega) only [obnd_s, obnd_n, oite_ss, oite_t, oite_f, ogrd_t, ogrd_f, obndS_l, obndS_r, ilt_eq, ile_eq, ieq_eq, imax_e, imin_e, k0, k1, k2, k3, k4, k5, k6, k7, k8, k9, reduceIte, k10, k11, k12, k13, k14, k15, k16, k17, k18, k19, k20, k21, k22, k23, k24, k25, k26, k27, k28, hi, get_gl hi]
      rw [wr (n := ((fl L i).length : Int) + ((gl L i).length : Int)) (by omega) (by omega), decide_eq_false (by omega), wr (by omega) (by omega)]
      simp only [oite_f, Int.natCast_add]; rfl
    · simp (disch := omega) only [obnd_s, obnd_n, oite_ss, oite_t, oite_f, ogrd_t, ogrd_f, obndS_l, obndS_r, ilt_eq, ile_eq, ieq_eq, imax_e, imin_e, k0, k1, k2, k3, k4, k5, k6, k7, k8, k9, reduceIte, k10, k11, k12, k13, k14, k15, k16, k17, k18, k19, k20, k21, k22, k23, k24, k25, k26, k27, k28, Int.lt_irrefl]
  · simp only [ilt_eq]
    rw [decide_eq_false (show ¬ (L.flatten.length : Int) < 0 by omega), oite_f, Int.sub_zero, wr (n := (L.flatten.length : Int)) (by omega) (by omega)]
    by_cases h0 : 0 < L.flatten.length
    · rw [decide_eq_true (show (0 : Int) < (L.flatten.length : Int) by omega), oite_t, mfits_t (by omega) (Int.le_refl _) (by omega) (by omega), ogrd_t, ile_eq, decide_eq_true (show (1 : Int) ≤ (L.flatten.length : Int) by omega), ogrd_t, Int.toNat_natCast]
      refine (obnd_of (a := (L.flatten.length, L.flatten)) ?_).trans ?_
      · refine oloop_all (fun i => ((fl L i).length, (i : Int), fl L i ++ List.replicate (L.flatten.length - (fl L i).length) (0 : Int))) L.length (by simp [fl]) ?_ ?_
        · intro i hi
          have h1 := hb i (by omega)
          have h2 := h.2 i hi
          have h3 := fl_le (L := L) (L.length - (i + 1)) (i + 1) (by omega)
          rw [show i + 1 + (L.length - (i + 1)) = L.length by omega, fl_n, fl_s hi, List.length_append] at h3
          have e0 : (fl L (i + 1)).length = (fl L i).length + (gl L i).length := by rw [fl_s hi, List.length_append]
          rw [e0, fl_s hi]
          simp only [List.length_map, ilt_eq, decide_eq_true (show (i : Int) < (L.length : Int) by omega), oite_t, ile_eq, decide_eq_true (Int.natCast_nonneg _), ogrd_t, Int.toNat_natCast, get_gl hi, obnd_s]
          rw [ogrd_fits (by omega) (by omega)]
          have hble : Nat.ble ((fl L i).length + (gl L i).length) (fl L i ++ List.replicate (L.flatten.length - (fl L i).length) (0 : Int)).length = true := by
            rw [Nat.ble_eq, List.length_append, List.length_replicate]; omega
          rw [hble, ogrd_t, wr (by omega) (by omega)]
          have e1 : (fl L i ++ List.replicate (L.flatten.length - (fl L i).length) (0 : Int)).take (fl L i).length = fl L i := by rw [List.take_left]
          have e2 : (fl L i ++ List.replicate (L.flatten.length - (fl L i).length) (0 : Int)).drop ((fl L i).length + (gl L i).length) = List.replicate (L.flatten.length - ((fl L i).length + (gl L i).length)) (0 : Int) := by
            rw [List.drop_append, List.drop_eq_nil_of_le (by omega), List.nil_append, List.drop_replicate]
            congr 1; omega
          rw [e1, e2]; rfl
        · simp only [List.length_map, ilt_eq, Int.lt_irrefl, decide_false, oite_f]
          rw [fl_n, Nat.sub_self, List.replicate_zero, List.append_nil]
      · simp only
        rw [show Nat.beq L.flatten.length L.flatten.length = true from Nat.beq_refl _]; rfl
    · rw [decide_eq_false (show ¬ (0 : Int) < (L.flatten.length : Int) by omega), oite_f]
      refine (obnd_of (a := L.flatten) ?_).trans rfl
      rw [← fl_n]
      refine oloop_all (fun i => (fl L i, (i : Int))) L.length rfl ?_ ?_
      · intro i hi
        have h1 := hb i (by omega)
        have h2 := h.2 i hi
        rw [fl_s hi]
        simp (disch := omega) only [obnd_s, obnd_n, oite_ss, oite_t, oite_f, ogrd_t, ogrd_f, obndS_l, obndS_r, ilt_eq, ile_eq, ieq_eq, imax_e, imin_e, k0, k1, k2, k3, k4, k5, k6, k7, k8, k9, reduceIte, k10, k11, k12, k13, k14, k15, k16, k17, k18, k19, k20, k21, k22, k23, k24, k25, k26, k27, k28, hi, get_gl hi, wr]
        rw [ogrd_fits (by omega) (by omega)]; rfl
      · simp (disch := omega) only [obnd_s, obnd_n, oite_ss, oite_t, oite_f, ogrd_t, ogrd_f, obndS_l, obndS_r, ilt_eq, ile_eq, ieq_eq, imax_e, imin_e, k0, k1, k2, k3, k4, k5, k6, k7, k8, k9, reduceIte, k10, k11, k12, k13, k14, k15, k16, k17, k18, k19, k20, k21, k22, k23, k24, k25, k26, k27, k28, Int.lt_irrefl]
theorem f368_e {p : List Int → Option Bool} {l : List (List Int)} (q : List Int → Bool) (hp : ∀ x, x ∈ l → p x = some (q x)) (hl : l.length < 4611686018427387904) : f368 p l = some (findI q l) := by
  unfold f368
  rw [oloop_scanB (fun i => (i : Int)) l.length (fun i => q (l.getD i [])) (fun i => .inr (i : Int)) (d := .inl ()) (e0 := 0) rfl ?_ ?_, scan_find q _ _ l.length l 0 (by omega)]
  · rw [List.drop_zero]; unfold findI
    cases l.findIdx? q with
    | none => rfl
    | some i => simp [obndS_r]
  · intro i hi
    rw [getD_i hi]
    have := hp l[i] (List.getElem_mem hi)
    simp (disch := omega) only [obnd_s, obnd_n, oite_ss, oite_t, oite_f, ogrd_t, ogrd_f, obndS_l, obndS_r, ilt_eq, ile_eq, ieq_eq, imax_e, imin_e, k0, k1, k2, k3, k4, k5, k6, k7, k8, k9, reduceIte, k10, k11, k12, k13, k14, k15, k16, k17, k18, k19, k20, k21, k22, k23, k24, k25, k26, k27, k28, hi, get_i hi, wr, this]; rfl
  · simp (disch := omega) only [obnd_s, obnd_n, oite_ss, oite_t, oite_f, ogrd_t, ogrd_f, obndS_l, obndS_r, ilt_eq, ile_eq, ieq_eq, imax_e, imin_e, k0, k1, k2, k3, k4, k5, k6, k7, k8, k9, reduceIte, k10, k11, k12, k13, k14, k15, k16, k17, k18, k19, k20, k21, k22, k23, k24, k25, k26, k27, k28, Int.lt_irrefl]
theorem f357_e {p : List Int → Option Bool} {l : List (List Int)} (q : List Int → Bool) (hp : ∀ x, x ∈ l → p x = some (q x)) (hl : l.length < 4611686018427387904) : f357 p l = some (l.any q) := by
  unfold f357
  rw [f368_e q hp hl]
  simp (disch := omega) only [obnd_s, obnd_n, oite_ss, oite_t, oite_f, ogrd_t, ogrd_f, obndS_l, obndS_r, ilt_eq, ile_eq, ieq_eq, imax_e, imin_e, k0, k1, k2, k3, k4, k5, k6, k7, k8, k9, reduceIte, k10, k11, k12, k13, k14, k15, k16, k17, k18, k19, k20, k21, k22, k23, k24, k25, k26, k27, k28, findI_any]

/-! ### Potentials -/
def s12 (n : Int) : Bool := decide (-1000000000000 ≤ n) && decide (n ≤ 1000000000000)
theorem s12_p {n : Int} (h : s12 n = true) : -1000000000000 ≤ n ∧ n ≤ 1000000000000 := by simpa [s12] using h
theorem f360_e (n : Int) : f360 n = some (!s12 n) := by
  unfold f360 f235
  rw [show IntKind.i64.wrap (0 - 1000000000000) = -1000000000000 by rw [wr (by omega) (by omega)]; rfl, f216_e]; rfl
section
variable {lo up v m w : Int} {M : List (ByteArray × Int × Int × Int)} {H : List (Int × Int × Int)} {L : List (List Int)}
/-- Some row has another length; some number is too large. -/
def shpB (lo up : Int) (M : List (ByteArray × Int × Int × Int)) (L : List (List Int)) : Bool := L.any fun l => !decide (l.length = nc lo up M)
def strB (lo up : Int) (M : List (ByteArray × Int × Int × Int)) (L : List (List Int)) : Bool := anyN (fun i => anyN (fun c => !s12 (gi (gl L i) c)) (nc lo up M) 0) L.length 0
/-- A potential is great enough. -/
def vldB (lo up : Int) (M : List (ByteArray × Int × Int × Int)) (H : List (Int × Int × Int)) (w : Int) (L : List (List Int)) (t : Nat) (x : Int) (b : Nat) (n : Int) : Bool :=
  bif decide (t = H.length) then decide (w * x ≤ n) else !anyN (fun j => inR lo up (aft M H x t j) && decide (n < rev M H t b j + gi (gl L (t + 1)) ((aft M H x t j - lo).toNat * M.length + j))) M.length 0
def badL (lo up : Int) (M : List (ByteArray × Int × Int × Int)) (H : List (Int × Int × Int)) (w : Int) (L : List (List Int)) (t c : Nat) : Bool := !vldB lo up M H w L t (lo + ((c / M.length : Nat) : Int)) (c % M.length) (gi (gl L t) c)
def ckB (lo up : Int) (M : List (ByteArray × Int × Int × Int)) (v m w : Int) (H : List (Int × Int × Int)) (L : List (List Int)) : Int × Int :=
  bif !decide (L.length = H.length + 1) || shpB lo up M L then (0, 10) else bif strB lo up M L then (0, 2) else
    bif anyN (fun t => anyN (badL lo up M H w L t) (nc lo up M) 0) L.length 0 then (0, 19) else (gi (gl L 0) ((v - lo).toNat * M.length + m.toNat), 0)
/-- Potentials of the right form. -/
structure okL (lo up : Int) (M : List (ByteArray × Int × Int × Int)) (H : List (Int × Int × Int)) (L : List (List Int)) : Prop where
  len : L.length = H.length + 1
  row : ∀ i, i < L.length → (gl L i).length = nc lo up M
  num : ∀ i c, i < L.length → c < nc lo up M → -1000000000000 ≤ gi (gl L i) c ∧ gi (gl L i) c ≤ 1000000000000
theorem gl_mem {i : Nat} (h : i < L.length) : gl L i ∈ L := by unfold gl; rw [getD_i h]; exact List.getElem_mem h
theorem okL_of (h1 : L.length = H.length + 1) (h2 : shpB lo up M L = false) (h3 : strB lo up M L = false) : okL lo up M H L := by
  refine ⟨h1, fun i hi => ?_, fun i c hi hc => ?_⟩
  · unfold shpB at h2
    rw [List.any_eq_false] at h2
    simpa using h2 _ (gl_mem hi)
  · have h4 := anyN_f h3 i (Nat.zero_le _) (by omega)
    have h5 := anyN_f h4 c (Nat.zero_le _) (by omega)
    exact s12_p (by simpa using h5)
theorem get_row (o : okL lo up M H L) {i c : Nat} (hi : i < L.length) (hc : c < nc lo up M) : (gl L i)[c]? = some (gi (gl L i) c) := get_gi (by rw [o.row i hi]; exact hc)
theorem f361_e (k : okT lo up M v m w H) (o : okL lo up M H L) {v' m' : Int} {t b : Nat} {x n : Int} (ht : t ≤ H.length) (h1 : lo ≤ x) (h2 : x ≤ up) (hb : b < M.length) :
    f361 lo up M v' m' w H L (t : Int) x (b : Int) n = some (vldB lo up M H w L t x b n) := by
  have hlo := k.lo0; have hhi := k.hi1; have hf := k.hfew; have hmf := k.mfew; have hol := o.len
  have hw := wv_b k h1 h2
  unfold f361 vldB
  rw [List.length_map, ieq_eq, ceqN]
  cases hd : decide (t = H.length) with
  | true =>
    rw [oite_t, wr (by omega) (by omega), ile_eq]; rfl
  | false =>
    have hd := of_decide_eq_false hd
    have htl : t < H.length := by omega
    rw [oite_f, oloop_any (fun j => (j : Int)) M.length (fun j => inR lo up (aft M H x t j) && decide (n < rev M H t b j + gi (gl L (t + 1)) ((aft M H x t j - lo).toNat * M.length + j))) (r := .inr false) (d := .inl ()) (e0 := (0 : Int)) rfl ?_ ?_]
    · cases anyN (fun j => inR lo up (aft M H x t j) && decide (n < rev M H t b j + gi (gl L (t + 1)) ((aft M H x t j - lo).toNat * M.length + j))) M.length 0 <;> rfl
    · intro j hj
      have hh1 := k.hour t htl
      have hm1 := k.mode j hj
      simp only [List.length_map, ilt_eq, decide_eq_true (show ((j : Nat) : Int) < ((M.length : Nat) : Int) by omega), oite_t]
      rw [f242_e k htl hj (by omega), aft_n]
      simp only [obnd_s, f243_e]
      cases hin : inR lo up (aft M H x t j) with
      | false => simp (disch := omega) only [obnd_s, obnd_n, oite_ss, oite_t, oite_f, ogrd_t, ogrd_f, obndS_l, obndS_r, ilt_eq, ile_eq, ieq_eq, imax_e, imin_e, k0, k1, k2, k3, k4, k5, k6, k7, k8, k9, reduceIte, k10, k11, k12, k13, k14, k15, k16, k17, k18, k19, k20, k21, k22, k23, k24, k25, k26, k27, k28, wr]; rfl
      | true =>
        have hp := inR_p hin
        have hcl := cell_lt (lo := lo) (up := up) (M := M) (a := (aft M H x t j - lo).toNat) (b := j) (by omega) hj
        have hnum := o.num (t + 1) _ (by omega) hcl
        have hrv := rev_b k (b := b) htl hj
        rw [oite_t, wr (n := (t : Int) + 1) (by omega) (by omega), show (t : Int) + 1 = ((t + 1 : Nat) : Int) by omega, ile_eq, decide_eq_true (Int.natCast_nonneg _), ogrd_t, Int.toNat_natCast, get_gl (by omega)]
        simp only [obnd_s]
        rw [f239_e k htl hj]
        simp only [obnd_s]
        rw [f234_e k hp.1 hp.2 hj]
        simp only [obnd_s, ile_eq, decide_eq_true (Int.natCast_nonneg _), ogrd_t, Int.toNat_natCast]
        rw [get_row o (by omega) hcl]
        simp only [obnd_s, Bool.true_and, ilt_eq]
        have e7 := wr (n := rev M H t b j + gi (gl L (t + 1)) ((aft M H x t j - lo).toNat * M.length + j)) (by omega) (by omega)
        simp only [e7]
        rw [wr (n := (j : Int) + 1) (by omega) (by omega)]
        by_cases hq : n < rev M H t b j + gi (gl L (t + 1)) ((aft M H x t j - lo).toNat * M.length + j)
        · simp [hq, oite_t]
        · simp [hq, oite_f]
    · simp (disch := omega) only [obnd_s, obnd_n, oite_ss, oite_t, oite_f, ogrd_t, ogrd_f, obndS_l, obndS_r, ilt_eq, ile_eq, ieq_eq, imax_e, imin_e, k0, k1, k2, k3, k4, k5, k6, k7, k8, k9, reduceIte, k10, k11, k12, k13, k14, k15, k16, k17, k18, k19, k20, k21, k22, k23, k24, k25, k26, k27, k28, Int.lt_irrefl]
theorem badL_at {t a b : Nat} (hb : b < M.length) : badL lo up M H w L t (a * M.length + b) = !vldB lo up M H w L t (lo + (a : Int)) b (gi (gl L t) (a * M.length + b)) := by
  unfold badL
  rw [Nat.add_comm (a * M.length) b, Nat.add_mul_div_right _ _ (by omega), Nat.add_mul_mod_self_right, Nat.div_eq_of_lt hb, Nat.mod_eq_of_lt hb, Nat.zero_add]
theorem f331_e (hM : M.length < 4611686018427387904) (hs : ∀ p, p ∈ M → p.1.size < 4611686018427387904) (hH : H.length < 4611686018427387904) (hL : few L) :
    f331 lo up M v m w H L = some (bif !decide ((ckT lo up M v m w H).2 = 0) then (0, (ckT lo up M v m w H).2) else ckB lo up M v m w H L) := by
  unfold f331
  rw [f219_e hM hs hH]
  simp only [obnd_s, ieq_eq]
  cases h0 : decide ((ckT lo up M v m w H).2 = 0) with
  | false => rfl
  | true =>
    have k := (ckT_0 (of_decide_eq_true h0)).2
    have hlo := k.lo0; have hhi := k.hi1; have hf := k.hfew; have hmp := k.mpos; have hmf := k.mfew; have hlh := k.lohi; have hsp := k.span
    have hm0 := k.m0; have hm1 := k.m1
    obtain ⟨hc0, hc1⟩ := nc_b k
    have hl13 := hL.1
    have e1 : (((M.length : Nat) : Int) - 1) = ((M.length - 1 : Nat) : Int) := by omega
    have hcell : (up - lo).toNat * M.length + (M.length - 1) + 1 = nc lo up M := by unfold nc; rw [Nat.add_mul, Nat.one_mul]; omega
    have e2 : (((up - lo).toNat * M.length + (M.length - 1) : Nat) : Int) + 1 = ((nc lo up M : Nat) : Int) := by omega
    have e3 : ((H.length : Nat) : Int) + 1 = ((H.length + 1 : Nat) : Int) := by omega
    simp only [Bool.not_true, oite_f, cond_false, List.length_map]
    rw [wr (n := ((M.length : Nat) : Int) - 1) (by omega) (by omega), e1, f234_e k hlh (Int.le_refl _) (by omega)]
    simp only [obnd_s]
    rw [wr (n := (((up - lo).toNat * M.length + (M.length - 1) : Nat) : Int) + 1) (by omega) (by omega), e2, f357_e (p := fun z0 => f358 z0 ((nc lo up M : Nat) : Int)) (l := L) (fun l => !decide (l.length = nc lo up M)) (fun x _ => by unfold f358; rw [List.length_map, ieq_eq, ceqN]) (by omega), f359_e hL]
    simp only [obnd_s]
    have hfl := fl_b hL L.length (Nat.le_refl _)
    rw [fl_n] at hfl
    rw [f80_e (p := fun z0 => f360 z0) (l := L.flatten) (fun n => !s12 n) (fun x _ => f360_e x) (by omega)]
    simp only [obnd_s, f214_e, f213_2]
    rw [wr (n := ((H.length : Nat) : Int) + 1) (by omega) (by omega), e3, ceqN, show (L.any fun l => !decide (l.length = nc lo up M)) = shpB lo up M L from rfl]
    unfold ckB
    cases h1 : decide (L.length = H.length + 1) with
    | false => rfl
    | true =>
      have h1 := of_decide_eq_true h1
      cases h2 : shpB lo up M L with
      | true => rfl
      | false =>
        have hrow : ∀ i, i < L.length → (gl L i).length = nc lo up M := fun i hi => by
          unfold shpB at h2
          rw [List.any_eq_false] at h2
          simpa using h2 _ (gl_mem hi)
        have hstr : L.flatten.any (fun n => !s12 n) = strB lo up M L := by
          unfold strB
          rw [List.any_flatten, any_anyN (l := L) []]
          refine anyN_congr fun i _ hi => ?_
          have hi' : i < L.length := by omega
          rw [show L.getD i [] = gl L i from rfl, any_anyN (l := gl L i) 0, hrow i hi']
          rfl
        rw [hstr]
        cases h3 : strB lo up M L with
        | true => rfl
        | false =>
          have o := okL_of (lo := lo) (up := up) (M := M) (H := H) h1 h2 h3
          simp only [Bool.not_false, Bool.not_true, obnd_s, oite_t, if_true, decide_true, oite_f, Bool.or_self, cond_false]
          rw [oloop_any (fun t => (t : Int)) L.length (fun t => anyN (badL lo up M H w L t) (nc lo up M) 0) (r := .inr ((0 : Int), (19 : Int))) (d := .inl ()) (e0 := (0 : Int)) rfl ?_ ?_]
          · cases anyN (fun t => anyN (badL lo up M H w L t) (nc lo up M) 0) L.length 0 with
            | true => rfl
            | false =>
              have em : m = ((m.toNat : Nat) : Int) := by omega
              have hmn : m.toNat < M.length := by omega
              have hv1 := k.vlo; have hv2 := k.vhi
              simp only [cond_false, obndS_l]
              rw [show ((0 : Int)).toNat = 0 from rfl, get_gl (by omega)]
              simp only [obnd_s]
              rw [em, f234_e k k.vlo k.vhi hmn]
              simp only [obnd_s, ile_eq, decide_eq_true (Int.natCast_nonneg _), ogrd_t, Int.toNat_natCast]
              rw [get_row o (by omega) (cell_lt (by omega) hmn)]; rfl
          · intro t ht
            simp only [ilt_eq, decide_eq_true (show ((t : Nat) : Int) < ((L.length : Nat) : Int) by omega), oite_t, ile_eq, decide_eq_true (Int.natCast_nonneg _), ogrd_t, Int.toNat_natCast, get_gl ht, obnd_s]
            rw [oloop_any (fun a => lo + (a : Int)) ((up - lo).toNat + 1) (fun a => anyN (fun b => badL lo up M H w L t (a * M.length + b)) M.length 0) (r := .inr (.inr (.inr ((0 : Int), (19 : Int))))) (d := .inl ()) (by simp) ?_ ?_]
            · rw [anyN_mul (f := badL lo up M H w L t) hmp, show ((up - lo).toNat + 1) * M.length = nc lo up M from rfl]
              cases anyN (badL lo up M H w L t) (nc lo up M) 0 with
              | true => rfl
              | false =>
                simp only [cond_false, obndS_l]
                rw [wr (by omega) (by omega)]; rfl
            · intro a ha
              have hx1 : lo ≤ lo + (a : Int) := by omega
              have hx2 : lo + (a : Int) ≤ up := by omega
              have ea : (lo + (a : Int) - lo).toNat = a := by omega
              simp only [decide_eq_true hx2, oite_t]
              rw [oloop_any (fun b => (b : Int)) M.length (fun b => badL lo up M H w L t (a * M.length + b)) (r := .inr (.inr (.inr (.inr (.inr ((0 : Int), (19 : Int))))))) (d := .inl ()) (e0 := (0 : Int)) rfl ?_ ?_]
              · cases anyN (fun b => badL lo up M H w L t (a * M.length + b)) M.length 0 with
                | true => rfl
                | false =>
                  simp only [cond_false, obndS_l]
                  rw [wr (by omega) (by omega), show lo + (a : Int) + 1 = lo + ((a + 1 : Nat) : Int) by omega]
              · intro b hb
                have hcl := cell_lt (lo := lo) (up := up) (M := M) (a := a) (b := b) (by omega) hb
                simp only [decide_eq_true (show ((b : Nat) : Int) < ((M.length : Nat) : Int) by omega), oite_t]
                rw [f234_e k hx1 hx2 hb, ea]
                simp only [obnd_s, decide_eq_true (Int.natCast_nonneg _), ogrd_t, Int.toNat_natCast]
                rw [get_row o ht hcl]
                simp only [obnd_s]
                rw [f361_e k o (by omega) hx1 hx2 hb]
                simp only [obnd_s]
                rw [badL_at hb, wr (by omega) (by omega)]
                cases vldB lo up M H w L t (lo + (a : Int)) b (gi (gl L t) (a * M.length + b)) <;> rfl
              · simp (disch := omega) only [obnd_s, obnd_n, oite_ss, oite_t, oite_f, ogrd_t, ogrd_f, obndS_l, obndS_r, ilt_eq, ile_eq, ieq_eq, imax_e, imin_e, k0, k1, k2, k3, k4, k5, k6, k7, k8, k9, reduceIte, k10, k11, k12, k13, k14, k15, k16, k17, k18, k19, k20, k21, k22, k23, k24, k25, k26, k27, k28, Int.lt_irrefl]
            · have : ¬ lo + (((up - lo).toNat + 1 : Nat) : Int) ≤ up := by omega
              rw [decide_eq_false this, oite_f]
          · simp (disch := omega) only [obnd_s, obnd_n, oite_ss, oite_t, oite_f, ogrd_t, ogrd_f, obndS_l, obndS_r, ilt_eq, ile_eq, ieq_eq, imax_e, imin_e, k0, k1, k2, k3, k4, k5, k6, k7, k8, k9, reduceIte, k10, k11, k12, k13, k14, k15, k16, k17, k18, k19, k20, k21, k22, k23, k24, k25, k26, k27, k28, Int.lt_irrefl]
theorem f332_e (hL : few L) : f332 L = some L := by
  have hl13 := hL.1
  unfold f332
  refine (obnd_of (a := L) ?_).trans rfl
  have ht : L = L.take L.length := by rw [List.take_length]
  refine oloop_all (fun i => (L.take i, (i : Int))) L.length rfl ?_ ?_
  · intro i hi
    have h2 := hL.2 i hi
    simp (disch := omega) only [obnd_s, obnd_n, oite_ss, oite_t, oite_f, ogrd_t, ogrd_f, obndS_l, obndS_r, ilt_eq, ile_eq, ieq_eq, imax_e, imin_e, k0, k1, k2, k3, k4, k5, k6, k7, k8, k9, reduceIte, k10, k11, k12, k13, k14, k15, k16, k17, k18, k19, k20, k21, k22, k23, k24, k25, k26, k27, k28, hi, get_gl hi, wr]
    rw [f38_e (by omega)]
    simp only [obnd_s]
    rw [ogrd_fits (by simp; omega) (by simp; omega), List.take_add_one, get_gl hi]; rfl
  · simp (disch := omega) only [obnd_s, obnd_n, oite_ss, oite_t, oite_f, ogrd_t, ogrd_f, obndS_l, obndS_r, ilt_eq, ile_eq, ieq_eq, imax_e, imin_e, k0, k1, k2, k3, k4, k5, k6, k7, k8, k9, reduceIte, k10, k11, k12, k13, k14, k15, k16, k17, k18, k19, k20, k21, k22, k23, k24, k25, k26, k27, k28, Int.lt_irrefl]
    rw [List.take_length]
end
end
section
set_option linter.unusedSimpArgs false
set_option linter.unusedVariables false
open Go Go.RowKit

section
variable {lo up v m w : Int} {M : List (ByteArray × Int × Int × Int)} {H : List (Int × Int × Int)} {P : List Int} {L : List (List Int)} {hd : Nat → Int → Bool}
/-- The place of a volume and a mode. -/
def plc (lo : Int) (M : List (ByteArray × Int × Int × Int)) (x : Int) (b : Nat) : Nat := (x - lo).toNat * M.length + b
theorem vld_at (hb : ∀ t, t < L.length → anyN (badL lo up M H w L t) (nc lo up M) 0 = false) {t b : Nat} {x : Int} (ht : t < L.length) (h1 : lo ≤ x) (h2 : x ≤ up) (hbm : b < M.length) : vldB lo up M H w L t x b (gi (gl L t) (plc lo M x b)) = true := by
  have hcl := cell_lt (lo := lo) (up := up) (M := M) (a := (x - lo).toNat) (b := b) (by omega) hbm
  have h := anyN_f (hb t ht) ((x - lo).toNat * M.length + b) (Nat.zero_le _) (by omega)
  rw [badL_at hbm, show lo + ((x - lo).toNat : Int) = x by omega] at h
  simpa [plc] using h
/-- Accepted potentials are at least the greatest value. -/
theorem bound_ge (k : okT lo up M v m w H) (o : okL lo up M H L) (hb : ∀ t, t < L.length → anyN (badL lo up M H w L t) (nc lo up M) 0 = false) : ∀ (q : Nat) (x : Int) (b : Nat) (z : Int), q ≤ H.length → lo ≤ x → x ≤ up → b < M.length →
    opt lo up M H w hd q x b = some z → z ≤ gi (gl L (H.length - q)) (plc lo M x b)
  | 0, x, b, z, _, h1, h2, hbm, h => by
    have ho := o.len
    have hv := vld_at hb (t := H.length - 0) (by omega) h1 h2 hbm
    unfold vldB at hv
    rw [decide_eq_true (show H.length - 0 = H.length from rfl)] at hv
    simp only [opt] at h
    injection h with h
    have := of_decide_eq_true hv
    omega
  | q + 1, x, b, z, hq, h1, h2, hbm, h => by
    have ho := o.len
    have hv := vld_at hb (t := H.length - (q + 1)) (by omega) h1 h2 hbm
    unfold vldB at hv
    rw [decide_eq_false (show ¬ H.length - (q + 1) = H.length by omega)] at hv
    simp only [opt] at h
    cases hh : hd (H.length - (q + 1)) x with
    | false => rw [hh] at h; cases h
    | true =>
      rw [hh] at h
      simp only [cond_true] at h
      obtain ⟨j, z', hj, h3, h4, rfl⟩ := optJ_at M.length h
      have hp := inR_p h3
      have ih := bound_ge k o hb q _ j z' (by omega) hp.1 hp.2 hj h4
      simp only [cond_false, Bool.not_eq_true'] at hv
      have h5 := anyN_f hv j (Nat.zero_le _) (by omega)
      rw [h3, Bool.true_and] at h5
      have h6 := of_decide_eq_false h5
      rw [show H.length - (q + 1) + 1 = H.length - q by omega] at h6
      unfold plc at ih
      omega

/-! ### The program's own potentials -/
noncomputable def ownL (lo up : Int) (M : List (ByteArray × Int × Int × Int)) (H : List (Int × Int × Int)) (w : Int) : List (List Int) := outS lo up M H.length (pp lo up M H w (-1) 0) (H.length + 1)
theorem own_len : (ownL lo up M H w).length = H.length + 1 := outS_len
theorem own_gl {t : Nat} (ht : t ≤ H.length) : gl (ownL lo up M H w) t = row lo up M (pp lo up M H w (-1) 0 (H.length - t)) := by
  have := outS_get (lo := lo) (up := up) (M := M) (n := H.length) (i := H.length + 1) (t := t) (p := pp lo up M H w (-1) 0) ht (by omega)
  unfold gl ownL
  rw [List.getD_eq_getElem?_getD, this]; rfl
theorem own_gi {t c : Nat} (ht : t ≤ H.length) (hc : c < nc lo up M) : gi (gl (ownL lo up M H w) t) c = cel lo M (pp lo up M H w (-1) 0 (H.length - t)) c := by
  rw [own_gl ht]
  unfold gi row
  rw [List.getD_eq_getElem?_getD, List.getElem?_map, List.getElem?_range hc]; rfl
theorem own_at {t b : Nat} {x : Int} (ht : t ≤ H.length) (h1 : lo ≤ x) (h2 : x ≤ up) (hb : b < M.length) : gi (gl (ownL lo up M H w) t) (plc lo M x b) = pp lo up M H w (-1) 0 (H.length - t) x b := by
  have hcl := cell_lt (lo := lo) (up := up) (M := M) (a := (x - lo).toNat) (b := b) (by omega) hb
  unfold plc
  rw [own_gi ht hcl, cel_at hb, show lo + ((x - lo).toNat : Int) = x by omega]
theorem own_few (k : okT lo up M v m w H) : few (ownL lo up M H w) := by
  have hf := k.hfew
  have hn := (nc_b k).2
  refine ⟨by rw [own_len]; omega, fun i hi => ?_⟩
  rw [own_len] at hi
  rw [own_gl (by omega), row_len]; omega
theorem own_okL (k : okT lo up M v m w H) : okL lo up M H (ownL lo up M H w) := by
  have hmp := k.mpos
  refine ⟨own_len, fun i hi => ?_, fun i c hi hc => ?_⟩
  · rw [own_len] at hi
    rw [own_gl (by omega), row_len]
  · rw [own_len] at hi
    have ha : c / M.length ≤ (up - lo).toNat := by
      have h1 : c / M.length < (up - lo).toNat + 1 := (Nat.div_lt_iff_lt_mul hmp).2 hc
      omega
    have hlh := k.lohi
    rw [own_gi (by omega) hc]
    unfold cel pp
    generalize c / M.length = a at *
    generalize c % M.length = b at *
    have := pot_b (hd := hdB lo up M H (-1) 0) k (q := H.length - i) (x := lo + (a : Int)) (b := b) (by omega) (by omega) (by omega)
    omega
theorem potJ_ge {pk : Int → Nat → Int} {t b j : Nat} {x : Int} : ∀ n : Nat, j < n → inR lo up (aft M H x t j) = true → rev M H t b j + pk (aft M H x t j) j ≤ potJ lo up M H pk t x b n
  | 0, h, _ => by omega
  | n + 1, h, h1 => by
    simp only [potJ]
    rcases Nat.lt_succ_iff_lt_or_eq.1 h with h3 | h3
    · have ih := potJ_ge (pk := pk) (b := b) n h3 h1
      cases inR lo up (aft M H x t n) with
      | false => exact ih
      | true => simp only [cond_true]; omega
    · subst h3
      rw [h1]; simp only [cond_true]; omega
theorem own_ok (k : okT lo up M v m w H) : ∀ t, t < (ownL lo up M H w).length → anyN (badL lo up M H w (ownL lo up M H w) t) (nc lo up M) 0 = false := by
  intro t ht
  have hmp := k.mpos; have hlh := k.lohi
  rw [own_len] at ht
  refine anyN_of_f fun c _ hc => ?_
  have hc : c < nc lo up M := by omega
  have ha : c / M.length ≤ (up - lo).toNat := by
    have h1 : c / M.length < (up - lo).toNat + 1 := (Nat.div_lt_iff_lt_mul hmp).2 hc
    omega
  have hb : c % M.length < M.length := Nat.mod_lt _ hmp
  unfold badL
  rw [own_gi (by omega) hc]
  unfold cel
  generalize c / M.length = a at *
  generalize c % M.length = b at *
  rw [Bool.not_eq_false']
  unfold vldB
  by_cases hte : t = H.length
  · subst hte
    rw [decide_eq_true rfl, Nat.sub_self]
    exact decide_eq_true (Int.le_refl _)
  · rw [decide_eq_false hte]
    simp only [cond_false, Bool.not_eq_true']
    refine anyN_of_f fun j _ hj => ?_
    cases hin : inR lo up (aft M H (lo + (a : Int)) t j) with
    | false => rfl
    | true =>
      have hp := inR_p hin
      have hat := own_at (lo := lo) (up := up) (M := M) (H := H) (w := w) (t := t + 1) (b := j) (x := aft M H (lo + (a : Int)) t j) (by omega) hp.1 hp.2 (by omega)
      unfold plc at hat
      rw [Bool.true_and, hat]
      refine decide_eq_false ?_
      have e : H.length - t = (H.length - (t + 1)) + 1 := by omega
      have hpp : pp lo up M H w (-1) 0 (H.length - t) (lo + (a : Int)) b = potJ lo up M H (pp lo up M H w (-1) 0 (H.length - (t + 1))) t (lo + (a : Int)) b M.length := by
        rw [e]
        have : pp lo up M H w (-1) 0 (H.length - (t + 1) + 1) (lo + (a : Int)) b = bif hdB lo up M H (-1) 0 (H.length - (H.length - (t + 1) + 1)) (lo + (a : Int)) then potJ lo up M H (pp lo up M H w (-1) 0 (H.length - (t + 1))) (H.length - (H.length - (t + 1) + 1)) (lo + (a : Int)) b M.length else never := rfl
        rw [this, hdB_n, show H.length - (H.length - (t + 1) + 1) = t by omega]; rfl
      rw [hpp]
      have := potJ_ge (lo := lo) (up := up) (M := M) (H := H) (pk := pp lo up M H w (-1) 0 (H.length - (t + 1))) (b := b) M.length (show j < M.length by omega) hin
      omega
/-- What is accepted. -/
theorem ckB_ok (o : okL lo up M H L) (hb : ∀ t, t < L.length → anyN (badL lo up M H w L t) (nc lo up M) 0 = false) : ckB lo up M v m w H L = (gi (gl L 0) ((v - lo).toNat * M.length + m.toNat), 0) := by
  unfold ckB
  have h2 : shpB lo up M L = false := by
    unfold shpB
    rw [any_anyN (l := L) []]
    refine anyN_of_f fun i _ hi => ?_
    have := o.row i (by omega)
    unfold gl at this
    rw [this, decide_eq_true rfl]; rfl
  have h3 : strB lo up M L = false := by
    unfold strB
    refine anyN_of_f fun i _ hi => anyN_of_f fun c _ hc => ?_
    have := o.num i c (by omega) (by omega)
    unfold s12
    rw [decide_eq_true this.1, decide_eq_true this.2]; rfl
  have h4 : anyN (fun t => anyN (badL lo up M H w L t) (nc lo up M) 0) L.length 0 = false := anyN_of_f fun t _ ht => hb t (by omega)
  rw [decide_eq_true o.len, h2, h3, h4]; rfl
theorem ckB_0 (h : (ckB lo up M v m w H L).2 = 0) : okL lo up M H L ∧ (∀ t, t < L.length → anyN (badL lo up M H w L t) (nc lo up M) 0 = false) ∧ (ckB lo up M v m w H L).1 = gi (gl L 0) ((v - lo).toNat * M.length + m.toNat) := by
  unfold ckB at h ⊢
  cases h1 : decide (L.length = H.length + 1) with
  | false => rw [h1] at h; cases h
  | true =>
    cases h2 : shpB lo up M L with
    | true => rw [h1, h2] at h; cases h
    | false =>
      cases h3 : strB lo up M L with
      | true => rw [h1, h2, h3] at h; cases h
      | false =>
        cases h4 : anyN (fun t => anyN (badL lo up M H w L t) (nc lo up M) 0) L.length 0 with
        | true => rw [h1, h2, h3, h4] at h; cases h
        | false => exact ⟨okL_of (of_decide_eq_true h1) h2 h3, fun t ht => anyN_f h4 t (Nat.zero_le _) (by omega), rfl⟩

/-! ### Higher volumes -/
theorem inR_up {u x : Int} : inR (lo + u) (up + u) (x + u) = inR lo up x := by
  unfold inR
  rw [show decide (lo + u ≤ x + u) = decide (lo ≤ x) by rw [Bool.eq_iff_iff, decide_eq_true_eq, decide_eq_true_eq]; omega, show decide (x + u ≤ up + u) = decide (x ≤ up) by rw [Bool.eq_iff_iff, decide_eq_true_eq, decide_eq_true_eq]; omega]
theorem aft_up {u x : Int} {t j : Nat} : aft M H (x + u) t j = aft M H x t j + u := by unfold aft; omega
theorem opt_up {hd' : Nat → Int → Bool} {u : Int} (h : ∀ t x, hd t x = true) (h' : ∀ t x, hd' t x = true) : ∀ (q : Nat) (x : Int) (b : Nat), opt (lo + u) (up + u) M H w hd' q (x + u) b = (opt lo up M H w hd q x b).map (· + w * u)
  | 0, x, b => by simp only [opt, Option.map_some]; rw [Int.mul_add]
  | q + 1, x, b => by
    simp only [opt]
    rw [h, h']
    simp only [cond_true]
    have key : ∀ n : Nat, optJ (lo + u) (up + u) M H (opt (lo + u) (up + u) M H w hd' q) (H.length - (q + 1)) (x + u) b n = (optJ lo up M H (opt lo up M H w hd q) (H.length - (q + 1)) x b n).map (· + w * u) := by
      intro n
      induction n with
      | zero => rfl
      | succ n ih =>
        simp only [optJ]
        rw [aft_up, inR_up, opt_up h h' q, ih]
        cases inR lo up (aft M H x (H.length - (q + 1)) n) with
        | false => rfl
        | true =>
          simp only [cond_true]
          cases opt lo up M H w hd q (aft M H x (H.length - (q + 1)) n) n with
          | none => rfl
          | some y =>
            simp only [Option.map_some]
            cases optJ lo up M H (opt lo up M H w hd q) (H.length - (q + 1)) x b n with
            | none => simp only [Option.map_none, Option.map_some]; congr 1; omega
            | some z =>
              simp only [Option.map_some]
              generalize w * u = c
              by_cases h5 : z < rev M H (H.length - (q + 1)) b n + y
              · rw [decide_eq_true h5, decide_eq_true (show z + c < rev M H (H.length - (q + 1)) b n + (y + c) by omega)]
                simp only [cond_true]; congr 1; omega
              · rw [decide_eq_false h5, decide_eq_false (show ¬ z + c < rev M H (H.length - (q + 1)) b n + (y + c) by omega)]; rfl
    exact key M.length
theorem best_up {hd' : Nat → Int → Bool} {u : Int} (h : ∀ t x, hd t x = true) (h' : ∀ t x, hd' t x = true) : bestP (lo + u) (up + u) M H (v + u) m w hd' = bestP lo up M H v m w hd := by
  unfold bestP
  have ht : ∀ i x b j, tstO (lo + u) (up + u) M H (opt (lo + u) (up + u) M H w hd') i (x + u) b j = tstO lo up M H (opt lo up M H w hd) i x b j := by
    intro i x b j
    unfold tstO
    rw [aft_up, inR_up, opt_up h h', opt_up h h']
    cases opt lo up M H w hd (H.length - (i + 1)) (aft M H x i j) j with
    | none => rfl
    | some y =>
      simp only [Option.map_some]
      congr 1
      cases opt lo up M H w hd (H.length - i) x b with
      | none => rfl
      | some z =>
        simp only [Option.map_some, Option.some.injEq]
        generalize w * u = c
        rw [Bool.eq_iff_iff, decide_eq_true_eq, decide_eq_true_eq]
        omega
  have key : ∀ i : Nat, walkP M H (v + u) m (tstO (lo + u) (up + u) M H (opt (lo + u) (up + u) M H w hd')) i = ((walkP M H v m (tstO lo up M H (opt lo up M H w hd)) i).1, (walkP M H v m (tstO lo up M H (opt lo up M H w hd)) i).2.1 + u, (walkP M H v m (tstO lo up M H (opt lo up M H w hd)) i).2.2) := by
    intro i
    induction i with
    | zero => rfl
    | succ i ih =>
      simp only [walkP]
      rw [ih]
      simp only
      have e : tstO (lo + u) (up + u) M H (opt (lo + u) (up + u) M H w hd') i ((walkP M H v m (tstO lo up M H (opt lo up M H w hd)) i).2.1 + u) (walkP M H v m (tstO lo up M H (opt lo up M H w hd)) i).2.2 = tstO lo up M H (opt lo up M H w hd) i (walkP M H v m (tstO lo up M H (opt lo up M H w hd)) i).2.1 (walkP M H v m (tstO lo up M H (opt lo up M H w hd)) i).2.2 := funext fun j => ht i _ _ j
      rw [e]
      cases pickN (tstO lo up M H (opt lo up M H w hd) i (walkP M H v m (tstO lo up M H (opt lo up M H w hd)) i).2.1 (walkP M H v m (tstO lo up M H (opt lo up M H w hd)) i).2.2) M.length with
      | none => rfl
      | some j => simp only [aft_up]
  rw [key]
end
end
end Go.Proofs.YtmbekcealcjabaaGreat.AM
