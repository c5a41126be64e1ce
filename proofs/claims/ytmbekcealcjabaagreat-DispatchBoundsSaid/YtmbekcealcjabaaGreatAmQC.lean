/- Plain laws of chapter 8: lists put together; which potentials the program accepts. Conditions: none. -/
import Derived.Test.YtmbekcealcjabaaGreatAmQ3
namespace Go.Proofs.YtmbekcealcjabaaGreat.AM
section
set_option linter.unusedSimpArgs false
set_option linter.unusedVariables false
open Go Go.RowKit

/-! ### Values -/
def never : Int := -100000000000
section
variable (lo up : Int) (M : List (ByteArray × Int × Int × Int)) (H : List (Int × Int × Int)) (w : Int) (hd : Nat → Int → Bool)
/-- The greatest of never and what the first modes bring. -/
def potJ (pk : Int → Nat → Int) (t : Nat) (v : Int) (b : Nat) : Nat → Int
  | 0 => never
  | j + 1 => bif inR lo up (aft M H v t j) then max (potJ pk t v b j) (rev M H t b j + pk (aft M H v t j) j) else potJ pk t v b j
def pot : Nat → Int → Nat → Int
  | 0, v, _ => w * v
  | k + 1, v, b => bif hd (H.length - (k + 1)) v then potJ lo up M H (pot k) (H.length - (k + 1)) v b M.length else never
/-- The same, where it is marked what is possible. -/
def optJ (ok : Int → Nat → Option Int) (t : Nat) (v : Int) (b : Nat) : Nat → Option Int
  | 0 => none
  | j + 1 => bif inR lo up (aft M H v t j) then
      match ok (aft M H v t j) j with
      | none => optJ ok t v b j
      | some y => match optJ ok t v b j with
        | none => some (rev M H t b j + y)
        | some z => some (bif decide (z < rev M H t b j + y) then rev M H t b j + y else z)
    else optJ ok t v b j
def opt : Nat → Int → Nat → Option Int
  | 0, v, _ => some (w * v)
  | k + 1, v, b => bif hd (H.length - (k + 1)) v then optJ lo up M H (opt k) (H.length - (k + 1)) v b M.length else none
end
/-- Near the number, or near never. -/
def relV (k : Nat) (p : Int) : Option Int → Prop
  | some x => p = x ∧ -10000000000 - 100010000 * (k : Int) ≤ x ∧ x ≤ 10000000000 + 100010000 * (k : Int)
  | none => never - 100010000 * (k : Int) ≤ p ∧ p ≤ never + 100010000 * (k : Int)
section
variable {lo up v m w : Int} {M : List (ByteArray × Int × Int × Int)} {H : List (Int × Int × Int)} {P : List Int} {hd : Nat → Int → Bool}
theorem rel_J (k : okT lo up M v m w H) {q t : Nat} (hq : q ≤ 9) (ht : t < H.length) {pk : Int → Nat → Int} {ok : Int → Nat → Option Int} (hr : ∀ x j, lo ≤ x → x ≤ up → j < M.length → relV q (pk x j) (ok x j)) {x : Int} {b : Nat} :
    ∀ j, j ≤ M.length → match optJ lo up M H ok t x b j with
      | some y => potJ lo up M H pk t x b j = y ∧ -10000000000 - 100010000 * ((q + 1 : Nat) : Int) ≤ y ∧ y ≤ 10000000000 + 100010000 * ((q + 1 : Nat) : Int)
      | none => never ≤ potJ lo up M H pk t x b j ∧ potJ lo up M H pk t x b j ≤ never + 100010000 * ((q + 1 : Nat) : Int)
  | 0, _ => by simp only [optJ, potJ]; omega
  | j + 1, hj => by
    have ih := rel_J k hq ht hr (x := x) (b := b) j (by omega)
    simp only [optJ, potJ]
    cases h1 : inR lo up (aft M H x t j) with
    | false => simp only [cond_false]; exact ih
    | true =>
      have h2 := inR_p h1
      have h3 := hr _ j h2.1 h2.2 (by omega)
      have h4 := rev_b k (b := b) ht (show j < M.length by omega)
      simp only [cond_true]
      generalize rev M H t b j = r at *
      generalize pk (aft M H x t j) j = p at *
      generalize ok (aft M H x t j) j = o at *
      generalize potJ lo up M H pk t x b j = p' at *
      generalize optJ lo up M H ok t x b j = o' at *
      unfold never at *
      cases o with
      | none =>
        simp only [relV, never] at h3
        cases o' with
        | none => simp only at ih ⊢; omega
        | some z => simp only at ih ⊢; omega
      | some y =>
        simp only [relV] at h3
        cases o' with
        | none => simp only at ih ⊢; omega
        | some z =>
          simp only at ih ⊢
          by_cases h5 : z < r + y
          · rw [decide_eq_true h5]; simp only [cond_true]; omega
          · rw [decide_eq_false h5]; simp only [cond_false]; omega
theorem rel_pot (k : okT lo up M v m w H) : ∀ (q : Nat) (x : Int) (b : Nat), q ≤ H.length → lo ≤ x → x ≤ up → relV q (pot lo up M H w hd q x b) (opt lo up M H w hd q x b)
  | 0, x, b, _, h1, h2 => by
    have h := wv_b k h1 h2
    have e : ((0 : Nat) : Int) = 0 := rfl
    refine ⟨rfl, ?_, ?_⟩ <;> rw [e] <;> omega
  | q + 1, x, b, hq, h1, h2 => by
    have hf := k.hfew
    simp only [pot, opt]
    cases hd (H.length - (q + 1)) x with
    | false => simp only [cond_false, relV]; omega
    | true =>
      simp only [cond_true]
      have h := rel_J k (q := q) (t := H.length - (q + 1)) (by omega) (by omega) (pk := pot lo up M H w hd q) (ok := opt lo up M H w hd q) (fun y j hy1 hy2 hj => rel_pot k q y j (by omega) hy1 hy2) (x := x) (b := b) M.length (Nat.le_refl _)
      cases h3 : optJ lo up M H (opt lo up M H w hd q) (H.length - (q + 1)) x b M.length with
      | none => rw [h3] at h; simp only [relV] at h ⊢; omega
      | some y => rw [h3] at h; exact h
theorem isVal (k : okT lo up M v m w H) {q : Nat} {x : Int} {b : Nat} (hq : q ≤ H.length) (h1 : lo ≤ x) (h2 : x ≤ up) : decide (-50000000000 < pot lo up M H w hd q x b) = (opt lo up M H w hd q x b).isSome := by
  have h := rel_pot (hd := hd) k q x b hq h1 h2
  have hf := k.hfew
  cases h3 : opt lo up M H w hd q x b with
  | none => rw [h3] at h; simp only [relV, never] at h; exact decide_eq_false (by omega)
  | some y => rw [h3] at h; simp only [relV] at h; exact decide_eq_true (by omega)
theorem pot_some (k : okT lo up M v m w H) {q : Nat} {x y : Int} {b : Nat} (hq : q ≤ H.length) (h1 : lo ≤ x) (h2 : x ≤ up) (h : opt lo up M H w hd q x b = some y) : pot lo up M H w hd q x b = y ∧ -10000000000 - 100010000 * (q : Int) ≤ y ∧ y ≤ 10000000000 + 100010000 * (q : Int) := by
  have h3 := rel_pot (hd := hd) k q x b hq h1 h2
  rw [h] at h3; exact h3
theorem pot_b (k : okT lo up M v m w H) {q : Nat} {x : Int} {b : Nat} (hq : q ≤ H.length) (h1 : lo ≤ x) (h2 : x ≤ up) : -200000000000 ≤ pot lo up M H w hd q x b ∧ pot lo up M H w hd q x b ≤ 20000000000 := by
  have h := rel_pot (hd := hd) k q x b hq h1 h2
  have hf := k.hfew
  cases h3 : opt lo up M H w hd q x b with
  | none => rw [h3] at h; simp only [relV, never] at h; omega
  | some y => rw [h3] at h; simp only [relV] at h; omega
/-- A greatest value is brought by a mode. -/
theorem optJ_at {ok : Int → Nat → Option Int} {t b : Nat} {x y : Int} : ∀ n : Nat, optJ lo up M H ok t x b n = some y → ∃ j z, j < n ∧ inR lo up (aft M H x t j) = true ∧ ok (aft M H x t j) j = some z ∧ y = rev M H t b j + z
  | 0, h => by cases h
  | n + 1, h => by
    simp only [optJ] at h
    have lift : optJ lo up M H ok t x b n = some y → ∃ j z, j < n + 1 ∧ inR lo up (aft M H x t j) = true ∧ ok (aft M H x t j) j = some z ∧ y = rev M H t b j + z := fun h => by
      obtain ⟨j, z, h1, h2⟩ := optJ_at n h
      exact ⟨j, z, by omega, h2⟩
    cases h1 : inR lo up (aft M H x t n) with
    | false => rw [h1] at h; exact lift h
    | true =>
      rw [h1] at h
      simp only [cond_true] at h
      cases h2 : ok (aft M H x t n) n with
      | none => rw [h2] at h; exact lift h
      | some z =>
        rw [h2] at h
        simp only at h
        cases h3 : optJ lo up M H ok t x b n with
        | none => rw [h3] at h; injection h with h; exact ⟨n, z, by omega, h1, h2, h.symm⟩
        | some u =>
          rw [h3] at h
          injection h with h
          by_cases h4 : u < rev M H t b n + z
          · rw [decide_eq_true h4] at h; exact ⟨n, z, by omega, h1, h2, h.symm⟩
          · rw [decide_eq_false h4] at h; exact lift (by rw [h3, ← h]; rfl)
/-- No mode brings more. -/
theorem optJ_ge {ok : Int → Nat → Option Int} {t b : Nat} {x z : Int} {j : Nat} : ∀ n : Nat, j < n → inR lo up (aft M H x t j) = true → ok (aft M H x t j) j = some z → ∃ y, optJ lo up M H ok t x b n = some y ∧ rev M H t b j + z ≤ y
  | 0, h, _, _ => by omega
  | n + 1, h, h1, h2 => by
    simp only [optJ]
    rcases Nat.lt_succ_iff_lt_or_eq.1 h with h3 | h3
    · obtain ⟨y, hy, hle⟩ := optJ_ge n h3 h1 h2
      rw [hy]
      cases inR lo up (aft M H x t n) with
      | false => exact ⟨y, rfl, hle⟩
      | true =>
        simp only [cond_true]
        cases ok (aft M H x t n) n with
        | none => exact ⟨y, rfl, hle⟩
        | some u =>
          by_cases h4 : y < rev M H t b n + u
          · exact ⟨_, rfl, by rw [decide_eq_true h4]; simp only [cond_true]; omega⟩
          · exact ⟨_, rfl, by rw [decide_eq_false h4]; exact hle⟩
    · subst h3
      rw [h1]
      simp only [cond_true]
      rw [h2]
      cases optJ lo up M H ok t x b j with
      | none => exact ⟨_, rfl, Int.le_refl _⟩
      | some y =>
        by_cases h4 : y < rev M H t b j + z
        · exact ⟨_, rfl, by rw [decide_eq_true h4]; exact Int.le_refl _⟩
        · exact ⟨_, rfl, by rw [decide_eq_false h4]; simp only [cond_false]; omega⟩
end
end
section
set_option linter.unusedSimpArgs false
set_option linter.unusedVariables false
open Go Go.RowKit

/-! ### Rows that are filled from the left -/
def part {α : Type} (p q : Nat → α) (c n : Nat) : List α := (List.range n).map fun i => bif Nat.blt i c then p i else q i
theorem blt_t {a b : Nat} (h : a < b) : Nat.blt a b = true := by rw [Nat.blt_eq]; exact h
theorem blt_f {a b : Nat} (h : ¬ a < b) : Nat.blt a b = false := by rw [Bool.eq_false_iff]; intro h1; rw [Nat.blt_eq] at h1; exact h h1
theorem part_len {α : Type} {p q : Nat → α} {c n : Nat} : (part p q c n).length = n := by simp [part]
theorem part_get {α : Type} {p q : Nat → α} {c n : Nat} (h : c < n) : (part p q c n)[c]? = some (q c) := by
  simp [part, h, blt_f (Nat.lt_irrefl c)]
theorem part_set {α : Type} {p q : Nat → α} {c n : Nat} {x : α} (hx : x = p c) : (part p q c n).set c x = part p q (c + 1) n := by
  subst hx
  apply List.ext_getElem?
  intro i
  rw [List.getElem?_set]
  by_cases h : c = i
  · subst h
    rw [if_pos rfl, part_len]
    by_cases hn : c < n
    · simp [part, hn, blt_t (Nat.lt_succ_self c)]
    · simp [part, hn]
  · rw [if_neg h]
    simp only [part, List.getElem?_map]
    by_cases hn : i < n
    · rw [List.getElem?_range hn]
      simp only [Option.map_some]
      by_cases h1 : i < c
      · rw [blt_t h1, blt_t (show i < c + 1 by omega)]
      · rw [blt_f h1, blt_f (show ¬ i < c + 1 by omega)]
    · rw [List.getElem?_eq_none (by simp; omega)]
      rfl
theorem part_same {α : Type} {p q : Nat → α} {c n : Nat} {x : α} (hx : x = q c) : (part p q c n).set c x = part p q c n := by
  subst hx
  apply List.ext_getElem?
  intro i
  rw [List.getElem?_set]
  by_cases h : c = i
  · subst h
    rw [if_pos rfl, part_len]
    by_cases hn : c < n
    · rw [if_pos hn, part_get hn]
    · simp [part, hn]
  · rw [if_neg h]
theorem part_skip {α : Type} {p q : Nat → α} {c n : Nat} (h : p c = q c) : part p q c n = part p q (c + 1) n := by rw [← part_set (x := q c) h.symm, part_same rfl]
theorem part_0 {α : Type} {p q : Nat → α} {n : Nat} : part p q 0 n = (List.range n).map q := by
  unfold part; congr 1
theorem part_n {α : Type} {p q : Nat → α} {n : Nat} : part p q n n = (List.range n).map p := by
  unfold part
  apply List.map_congr_left
  intro i hi
  rw [blt_t (List.mem_range.1 hi)]; rfl
theorem range_rep {α : Type} {x : α} {n : Nat} : (List.range n).map (fun _ => x) = List.replicate n x := by
  apply List.ext_getElem <;> simp

/-! ### Cells -/
def nc (lo up : Int) (M : List (ByteArray × Int × Int × Int)) : Nat := ((up - lo).toNat + 1) * M.length
/-- A row, cell by cell. -/
def cel {α : Type} (lo : Int) (M : List (ByteArray × Int × Int × Int)) (p : Int → Nat → α) (c : Nat) : α := p (lo + (c / M.length : Nat)) (c % M.length)
def row {α : Type} (lo up : Int) (M : List (ByteArray × Int × Int × Int)) (p : Int → Nat → α) : List α := (List.range (nc lo up M)).map (cel lo M p)
section
variable {lo up v m w : Int} {M : List (ByteArray × Int × Int × Int)} {H : List (Int × Int × Int)} {hd : Nat → Int → Bool}
theorem cel_at {α : Type} {p : Int → Nat → α} {a b : Nat} (hb : b < M.length) : cel lo M p (a * M.length + b) = p (lo + (a : Int)) b := by
  unfold cel
  rw [Nat.add_comm, Nat.add_mul_div_right _ _ (by omega), Nat.add_mul_mod_self_right, Nat.div_eq_of_lt hb, Nat.mod_eq_of_lt hb, Nat.zero_add]
theorem cell_lt {a b : Nat} (ha : a ≤ (up - lo).toNat) (hb : b < M.length) : a * M.length + b < nc lo up M := by
  unfold nc
  calc a * M.length + b < a * M.length + M.length := by omega
    _ = (a + 1) * M.length := by rw [Nat.add_mul, Nat.one_mul]
    _ ≤ ((up - lo).toNat + 1) * M.length := Nat.mul_le_mul_right _ (by omega)
theorem row_len {α : Type} {p : Int → Nat → α} : (row lo up M p).length = nc lo up M := by simp [row]
theorem row_get {α : Type} {p : Int → Nat → α} {x : Int} {b : Nat} (h1 : lo ≤ x) (h2 : x ≤ up) (hb : b < M.length) : (row lo up M p)[(x - lo).toNat * M.length + b]? = some (p x b) := by
  have h := cell_lt (lo := lo) (up := up) (M := M) (a := (x - lo).toNat) (b := b) (by omega) hb
  unfold row
  rw [List.getElem?_map, List.getElem?_range h, Option.map_some, cel_at hb, show lo + ((x - lo).toNat : Int) = x by omega]
theorem nc_b (k : okT lo up M v m w H) : 0 < nc lo up M ∧ nc lo up M ≤ 200 := by
  have a := k.span; have b := k.mpos; have c := k.mfew; have d := k.lohi
  unfold nc
  constructor
  · exact Nat.mul_pos (by omega) b
  · calc ((up - lo).toNat + 1) * M.length ≤ 40 * 5 := Nat.mul_le_mul (by omega) c
      _ = 200 := rfl
theorem f234_e (k : okT lo up M v m w H) {v' m' w' : Int} {x : Int} {b : Nat} (h1 : lo ≤ x) (h2 : x ≤ up) (hb : b < M.length) : f234 lo up M v' m' w' H x (b : Int) = some (((x - lo).toNat * M.length + b : Nat) : Int) := by
  have a := k.lo0; have a1 := k.hi1
  have h := cell_lt (lo := lo) (up := up) (M := M) (a := (x - lo).toNat) (b := b) (by omega) hb
  have hn := (nc_b k).2
  unfold f234
  rw [List.length_map, wr (n := x - lo) (by omega) (by omega)]
  have e : (x - lo) * (M.length : Int) = (((x - lo).toNat * M.length : Nat) : Int) := by
    rw [Int.natCast_mul, Int.toNat_of_nonneg (by omega)]
  rw [e, wr (n := (((x - lo).toNat * M.length : Nat) : Int)) (by omega) (by omega), wr (by omega) (by omega)]
  rfl

/-! ### The program's table -/
/-- Whether a reserve can be given long enough. -/
def hdB (lo up : Int) (M : List (ByteArray × Int × Int × Int)) (H : List (Int × Int × Int)) (x d : Int) (t : Nat) (v : Int) : Bool :=
  decide (x < 0) || decide (min d ((H.length : Int) - t) ≤ (gvn lo up M H x.toNat (H.length - t) t v : Int))
theorem f247_e (k : okT lo up M v m w H) {v' m' w' : Int} {x : Int} {t : Nat} {r d : Int} (h1 : lo ≤ x) (h2 : x ≤ up) (ht : t ≤ H.length) (hr : r < M.length) : f247 lo up M v' m' w' H x (t : Int) r d = some (hdB lo up M H r d t x) := by
  have a := k.lo0; have a1 := k.hi1
  have hf := k.hfew
  unfold f247 hdB
  rw [ilt_eq]
  cases h : decide (r < 0) with
  | true => rfl
  | false =>
    have h := of_decide_eq_false h
    obtain ⟨j, rfl⟩ := Int.eq_ofNat_of_zero_le (show 0 ≤ r by omega)
    rw [oite_f, f223_e k ht (by omega) (by omega)]
    simp (disch := omega) only [obnd_s, obnd_n, oite_ss, oite_t, oite_f, ogrd_t, ogrd_f, obndS_l, obndS_r, ilt_eq, ile_eq, ieq_eq, imax_e, imin_e, k0, k1, k2, k3, k4, k5, k6, k7, k8, k9, reduceIte, k10, k11, k12, k13, k14, k15, k16, k17, k18, k19, k20, k21, k22, k23, k24, k25, k26, k27, k28, wr]
theorem mfits_t {b : Nat} {l c : Int} (h0 : 0 ≤ l) (h1 : l ≤ c) (h2 : c * b ≤ 1099511627776) (h3 : c ≤ 1099511627776) : mfits b l c = true := by
  unfold mfits
  rw [ile_eq, ile_eq, ile_eq, ile_eq, decide_eq_true h0, decide_eq_true h1, decide_eq_true h2, decide_eq_true h3]; rfl
theorem f246_r {x : Int} {n : Nat} (h0 : 0 < n) (hn : n ≤ 1000000) : f246 [x] (n : Int) = some (List.replicate n x) := by
  unfold f246
  simp only
  rw [mfits_t (by omega) (Int.le_refl _) (by omega) (by omega), ile_eq, decide_eq_true (by omega)]
  rfl
def outS {α : Type} (lo up : Int) (M : List (ByteArray × Int × Int × Int)) (n : Nat) (p : Nat → Int → Nat → α) (i : Nat) : List (List α) := (List.range (n + 1)).map fun t => bif Nat.blt n (t + i) then row lo up M (p (n - t)) else []
theorem outS_len {α : Type} {n i : Nat} {p : Nat → Int → Nat → α} : (outS lo up M n p i).length = n + 1 := by simp [outS]
theorem outS_0 {α : Type} {n : Nat} {p : Nat → Int → Nat → α} : outS lo up M n p 0 = List.replicate (n + 1) [] := by
  unfold outS
  apply List.ext_getElem
  · simp
  · intro i h1 h2
    simp only [List.getElem_map, List.getElem_range, List.getElem_replicate]
    rw [blt_f (by simp at h1; omega)]; rfl
theorem outS_get {α : Type} {n i t : Nat} {p : Nat → Int → Nat → α} (ht : t ≤ n) (h : n < t + i) : (outS lo up M n p i)[t]? = some (row lo up M (p (n - t))) := by
  simp [outS, show t < n + 1 by omega, blt_t h]
theorem outS_set {α : Type} {n i : Nat} {p : Nat → Int → Nat → α} (hi' : i ≤ n) : (outS lo up M n p i).set (n - i) (row lo up M (p i)) = outS lo up M n p (i + 1) := by
  apply List.ext_getElem?
  intro t
  rw [List.getElem?_set]
  by_cases h : n - i = t
  · subst h
    rw [if_pos rfl, outS_len, if_pos (by omega), outS_get (by omega) (by omega), show n - (n - i) = i by omega]
  · rw [if_neg h]
    simp only [outS, List.getElem?_map]
    by_cases ht : t < n + 1
    · rw [List.getElem?_range ht]
      simp only [Option.map_some]
      by_cases h1 : n < t + i
      · rw [blt_t h1, blt_t (show n < t + (i + 1) by omega)]
      · rw [blt_f h1, blt_f (show ¬ n < t + (i + 1) by omega)]
    · rw [List.getElem?_eq_none (by simp; omega)]
      rfl
end
end
section
set_option linter.unusedSimpArgs false
set_option linter.unusedVariables false
open Go Go.RowKit

/-! ### Tests of all -/
theorem anyN_iff {b : Nat → Bool} : ∀ {n i : Nat}, anyN b n i = true ↔ ∃ k, i ≤ k ∧ k < i + n ∧ b k = true
  | 0, i => ⟨fun h => by (cases h), fun ⟨k, h1, h2, _⟩ => by omega⟩
  | n + 1, i => by
    simp only [anyN, Bool.or_eq_true]
    rw [anyN_iff (n := n) (i := i + 1)]
    constructor
    · rintro (h | ⟨k, h1, h2, h3⟩)
      · exact ⟨i, Nat.le_refl _, by omega, h⟩
      · exact ⟨k, by omega, by omega, h3⟩
    · rintro ⟨k, h1, h2, h3⟩
      rcases Nat.eq_or_lt_of_le h1 with rfl | h4
      · exact .inl h3
      · exact .inr ⟨k, by omega, by omega, h3⟩
theorem anyN_congr {b b' : Nat → Bool} {n i : Nat} (h : ∀ k, i ≤ k → k < i + n → b k = b' k) : anyN b n i = anyN b' n i := by
  rw [Bool.eq_iff_iff, anyN_iff, anyN_iff]
  exact ⟨fun ⟨k, h1, h2, h3⟩ => ⟨k, h1, h2, by rw [← h k h1 h2]; exact h3⟩, fun ⟨k, h1, h2, h3⟩ => ⟨k, h1, h2, by rw [h k h1 h2]; exact h3⟩⟩
theorem anyN_mul {f : Nat → Bool} {p q : Nat} (hq : 0 < q) : anyN (fun a => anyN (fun b => f (a * q + b)) q 0) p 0 = anyN f (p * q) 0 := by
  rw [Bool.eq_iff_iff, anyN_iff, anyN_iff]
  constructor
  · rintro ⟨a, _, h2, h3⟩
    obtain ⟨b, _, h5, h6⟩ := anyN_iff.1 h3
    refine ⟨a * q + b, Nat.zero_le _, ?_, h6⟩
    have : (a + 1) * q ≤ p * q := Nat.mul_le_mul_right _ (by omega)
    rw [Nat.add_mul, Nat.one_mul] at this
    omega
  · rintro ⟨c, _, h2, h3⟩
    refine ⟨c / q, Nat.zero_le _, ?_, anyN_iff.2 ⟨c % q, Nat.zero_le _, by have := Nat.mod_lt c hq; omega, ?_⟩⟩
    · have : c / q < p := (Nat.div_lt_iff_lt_mul hq).2 (by omega)
      omega
    · rw [Nat.mul_comm, Nat.div_add_mod]; exact h3
theorem any_anyN {α : Type} {l : List α} {p : α → Bool} (d : α) : l.any p = anyN (fun i => p (l.getD i d)) l.length 0 := by
  rw [Bool.eq_iff_iff, List.any_eq_true, anyN_iff]
  constructor
  · rintro ⟨x, hx, h⟩
    obtain ⟨i, hi, rfl⟩ := List.getElem_of_mem hx
    exact ⟨i, Nat.zero_le _, by omega, by rw [getD_i hi]; exact h⟩
  · rintro ⟨i, _, hi, h⟩
    have hi' : i < l.length := by omega
    rw [getD_i hi'] at h
    exact ⟨l[i], List.getElem_mem hi', h⟩
/-- A loop that is left as soon as a test holds. -/
theorem oloop_any {τ ρ : Type} {g : τ → Option (τ ⊕ ρ)} (S : Nat → τ) (n : Nat) (b : Nat → Bool) {r d : ρ} {e0 : τ} (h0 : e0 = S 0)
    (h : ∀ i, i < n → g (S i) = some (bif b i then .inr r else .inl (S (i + 1)))) (hend : g (S n) = some (.inr d)) : oloop g e0 = some (bif anyN b n 0 then r else d) := by
  rw [oloop_scanB S n b (fun _ => r) h0 h hend, scan_c]
  cases anyN b n 0 <;> rfl

/-! ### Lists put together -/
theorem f38_e {L : List Int} (h : L.length ≤ 1000000000) : f38 L = some L := by
  unfold f38; rw [ogrd_fits (by simp; omega) (by simp; omega)]; rfl

def gl (L : List (List Int)) (i : Nat) : List Int := L.getD i []
theorem get_gl {L : List (List Int)} {i : Nat} (h : i < L.length) : L[i]? = some (gl L i) := by unfold gl; rw [getD_i h, List.getElem?_eq_getElem h]
def few (L : List (List Int)) : Prop := L.length ≤ 13 ∧ ∀ i, i < L.length → (gl L i).length ≤ 210
def fl (L : List (List Int)) (i : Nat) : List Int := (L.take i).flatten
theorem fl_s {L : List (List Int)} {i : Nat} (h : i < L.length) : fl L (i + 1) = fl L i ++ gl L i := by
  unfold fl
  rw [List.take_add_one, get_gl h, List.flatten_append]; simp
theorem fl_b {L : List (List Int)} (h : few L) : ∀ i : Nat, i ≤ L.length → (fl L i).length ≤ 210 * i
  | 0, _ => by simp [fl]
  | i + 1, hi => by
    have h1 := fl_b h i (by omega)
    have h2 := h.2 i (by omega)
    rw [fl_s (by omega), List.length_append]; omega
theorem fl_n {L : List (List Int)} : fl L L.length = L.flatten := by unfold fl; rw [List.take_length]
theorem fl_le {L : List (List Int)} : ∀ (d i : Nat), i + d ≤ L.length → (fl L i).length ≤ (fl L (i + d)).length
  | 0, i, _ => Nat.le_refl _
  | d + 1, i, h => by
    have := fl_le (L := L) d i (by omega)
    rw [← Nat.add_assoc, fl_s (by omega), List.length_append]; omega
theorem f359_e {L : List (List Int)} (h : few L) : f359 L = some L.flatten := by
  have hb := fl_b h
  have hT := hb L.length (Nat.le_refl _)
  rw [fl_n] at hT
  have hL := h.1
  unfold f359
  refine (obnd_of (a := (L.flatten.length : Int)) ?_).trans ?_
  · rw [← fl_n]
    refine oloop_all (fun i => (((fl L i).length : Int), (i : Int))) L.length rfl ?_ ?_
    · intro i hi
      have h1 := hb i (by omega)
      have h2 := h.2 i hi
      rw [fl_s hi, List.length_append]
      simp (disch := omega) only [obnd_s, obnd_n, oite_ss, oite_t, oite_f, ogrd_t, ogrd_f, obndS_l, obndS_r, ilt_eq, ile_eq, ieq_eq, imax_e, imin_e, k0, k1, k2, k3, k4, k5, k6, k7, k8, k9, reduceIte, k10, k11, k12, k13, k14, k15, k16, k17, k18, k19, k20, k21, k22, k23, k24, k25, k26, k27, k28, hi, get_gl hi]
      rw [wr (n := ((fl L i).length : Int) + ((gl L i).length : Int)) (by omega) (by omega), decide_eq_false (by omega), wr (by omega) (by omega)]
      simp only [oite_f, Int.natCast_add]; rfl
    · simp (disch := omega) only [obnd_s, obnd_n, oite_ss, oite_t, oite_f, ogrd_t, ogrd_f, obndS_l, obndS_r, ilt_eq, ile_eq, ieq_eq, imax_e, imin_e, k0, k1, k2, k3, k4, k5, k6, k7, k8, k9, reduceIte, k10, k11, k12, k13, k14, k15, k16, k17, k18, k19, k20, k21, k22, k23, k24, k25, k26, k27, k28, Int.lt_irrefl]
  · simp only [ilt_eq]
    rw [decide_eq_false (show ¬ (L.flatten.length : Int) < 0 by omega), oite_f, Int.sub_zero, wr (n := (L.flatten.length : Int)) (by omega) (by omega)]
    by_cases h0 : 0 < L.flatten.length
    · rw [decide_eq_true (show (0 : Int) < (L.flatten.length : Int) by omega), oite_t, mfits_t (by omega) (Int.le_refl _) (by omega) (by omega), ogrd_t, ile_eq, decide_eq_true (show (1 : Int) ≤ (L.flatten.length : Int) by omega), ogrd_t, Int.toNat_natCast]
      refine (obnd_of (a := (L.flatten.length, L.flatten)) ?_).trans ?_
      · refine oloop_all (fun i => ((fl L i).length, (i : Int), fl L i ++ List.replicate (L.flatten.length - (fl L i).length) (0 : Int))) L.length (by simp [fl]) ?_ ?_
        · intro i hi
          have h1 := hb i (by omega)
          have h2 := h.2 i hi
          have h3 := fl_le (L := L) (L.length - (i + 1)) (i + 1) (by omega)
          rw [show i + 1 + (L.length - (i + 1)) = L.length by omega, fl_n, fl_s hi, List.length_append] at h3
          have e0 : (fl L (i + 1)).length = (fl L i).length + (gl L i).length := by rw [fl_s hi, List.length_append]
          rw [e0, fl_s hi]
          simp only [List.length_map, ilt_eq, decide_eq_true (show (i : Int) < (L.length : Int) by omega), oite_t, ile_eq, decide_eq_true (Int.natCast_nonneg _), ogrd_t, Int.toNat_natCast, get_gl hi, obnd_s]
          rw [ogrd_fits (by omega) (by omega)]
          have hble : Nat.ble ((fl L i).length + (gl L i).length) (fl L i ++ List.replicate (L.flatten.length - (fl L i).length) (0 : Int)).length = true := by
            rw [Nat.ble_eq, List.length_append, List.length_replicate]; omega
          rw [hble, ogrd_t, wr (by omega) (by omega)]
          have e1 : (fl L i ++ List.replicate (L.flatten.length - (fl L i).length) (0 : Int)).take (fl L i).length = fl L i := by rw [List.take_left]
          have e2 : (fl L i ++ List.replicate (L.flatten.length - (fl L i).length) (0 : Int)).drop ((fl L i).length + (gl L i).length) = List.replicate (L.flatten.length - ((fl L i).length + (gl L i).length)) (0 : Int) := by
            rw [List.drop_append, List.drop_eq_nil_of_le (by omega), List.nil_append, List.drop_replicate]
            congr 1; omega
          rw [e1, e2]; rfl
        · simp only [List.length_map, ilt_eq, Int.lt_irrefl, decide_false, oite_f]
          rw [fl_n, Nat.sub_self, List.replicate_zero, List.append_nil]
      · simp only
        rw [show Nat.beq L.flatten.length L.flatten.length = true from Nat.beq_refl _]; rfl
    · rw [decide_eq_false (show ¬ (0 : Int) < (L.flatten.length : Int) by omega), oite_f]
      refine (obnd_of (a := L.flatten) ?_).trans rfl
      rw [← fl_n]
      refine oloop_all (fun i => (fl L i, (i : Int))) L.length rfl ?_ ?_
      · intro i hi
        have h1 := hb i (by omega)
        have h2 := h.2 i hi
        rw [fl_s hi]
        simp (disch := omega) only [obnd_s, obnd_n, oite_ss, oite_t, oite_f, ogrd_t, ogrd_f, obndS_l, obndS_r, ilt_eq, ile_eq, ieq_eq, imax_e, imin_e, k0, k1, k2, k3, k4, k5, k6, k7, k8, k9, reduceIte, k10, k11, k12, k13, k14, k15, k16, k17, k18, k19, k20, k21, k22, k23, k24, k25, k26, k27, k28, hi, get_gl hi, wr]
        rw [ogrd_fits (by omega) (by omega)]; rfl
      · simp (disch := omega) only [obnd_s, obnd_n, oite_ss, oite_t, oite_f, ogrd_t, ogrd_f, obndS_l, obndS_r, ilt_eq, ile_eq, ieq_eq, imax_e, imin_e, k0, k1, k2, k3, k4, k5, k6, k7, k8, k9, reduceIte, k10, k11, k12, k13, k14, k15, k16, k17, k18, k19, k20, k21, k22, k23, k24, k25, k26, k27, k28, Int.lt_irrefl]
theorem f368_e {p : List Int → Option Bool} {l : List (List Int)} (q : List Int → Bool) (hp : ∀ x, x ∈ l → p x = some (q x)) (hl : l.length < 4611686018427387904) : f368 p l = some (findI q l) := by
  unfold f368
  rw [oloop_scanB (fun i => (i : Int)) l.length (fun i => q (l.getD i [])) (fun i => .inr (i : Int)) (d := .inl ()) (e0 := 0) rfl ?_ ?_, scan_find q _ _ l.length l 0 (by omega)]
  · rw [List.drop_zero]; unfold findI
    cases l.findIdx? q with
    | none => rfl
    | some i => simp [obndS_r]
  · intro i hi
    rw [getD_i hi]
    have := hp l[i] (List.getElem_mem hi)
    simp (disch := omega) only [obnd_s, obnd_n, oite_ss, oite_t, oite_f, ogrd_t, ogrd_f, obndS_l, obndS_r, ilt_eq, ile_eq, ieq_eq, imax_e, imin_e, k0, k1, k2, k3, k4, k5, k6, k7, k8, k9, reduceIte, k10, k11, k12, k13, k14, k15, k16, k17, k18, k19, k20, k21, k22, k23, k24, k25, k26, k27, k28, hi, get_i hi, wr, this]; rfl
  · simp (disch := omega) only [obnd_s, obnd_n, oite_ss, oite_t, oite_f, ogrd_t, ogrd_f, obndS_l, obndS_r, ilt_eq, ile_eq, ieq_eq, imax_e, imin_e, k0, k1, k2, k3, k4, k5, k6, k7, k8, k9, reduceIte, k10, k11, k12, k13, k14, k15, k16, k17, k18, k19, k20, k21, k22, k23, k24, k25, k26, k27, k28, Int.lt_irrefl]
theorem f357_e {p : List Int → Option Bool} {l : List (List Int)} (q : List Int → Bool) (hp : ∀ x, x ∈ l → p x = some (q x)) (hl : l.length < 4611686018427387904) : f357 p l = some (l.any q) := by
  unfold f357
  rw [f368_e q hp hl]
  simp (disch := omega) only [obnd_s, obnd_n, oite_ss, oite_t, oite_f, ogrd_t, ogrd_f, obndS_l, obndS_r, ilt_eq, ile_eq, ieq_eq, imax_e, imin_e, k0, k1, k2, k3, k4, k5, k6, k7, k8, k9, reduceIte, k10, k11, k12, k13, k14, k15, k16, k17, k18, k19, k20, k21, k22, k23, k24, k25, k26, k27, k28, findI_any]

/-! ### Potentials -/
def s12 (n : Int) : Bool := decide (-1000000000000 ≤ n) && decide (n ≤ 1000000000000)
theorem s12_p {n : Int} (h : s12 n = true) : -1000000000000 ≤ n ∧ n ≤ 1000000000000 := by simpa [s12] using h
theorem f360_e (n : Int) : f360 n = some (!s12 n) := by
  unfold f360 f235
  rw [show IntKind.i64.wrap (0 - 1000000000000) = -1000000000000 by rw [wr (by omega) (by omega)]; rfl, f216_e]; rfl
section
variable {lo up v m w : Int} {M : List (ByteArray × Int × Int × Int)} {H : List (Int × Int × Int)} {L : List (List Int)}
/-- Some row has another length; some number is too large. -/
def shpB (lo up : Int) (M : List (ByteArray × Int × Int × Int)) (L : List (List Int)) : Bool := L.any fun l => !decide (l.length = nc lo up M)
def strB (lo up : Int) (M : List (ByteArray × Int × Int × Int)) (L : List (List Int)) : Bool := anyN (fun i => anyN (fun c => !s12 (gi (gl L i) c)) (nc lo up M) 0) L.length 0
/-- A potential is great enough. -/
def vldB (lo up : Int) (M : List (ByteArray × Int × Int × Int)) (H : List (Int × Int × Int)) (w : Int) (L : List (List Int)) (t : Nat) (x : Int) (b : Nat) (n : Int) : Bool :=
  bif decide (t = H.length) then decide (w * x ≤ n) else !anyN (fun j => inR lo up (aft M H x t j) && decide (n < rev M H t b j + gi (gl L (t + 1)) ((aft M H x t j - lo).toNat * M.length + j))) M.length 0
def badL (lo up : Int) (M : List (ByteArray × Int × Int × Int)) (H : List (Int × Int × Int)) (w : Int) (L : List (List Int)) (t c : Nat) : Bool := !vldB lo up M H w L t (lo + ((c / M.length : Nat) : Int)) (c % M.length) (gi (gl L t) c)
def ckB (lo up : Int) (M : List (ByteArray × Int × Int × Int)) (v m w : Int) (H : List (Int × Int × Int)) (L : List (List Int)) : Int × Int :=
  bif !decide (L.length = H.length + 1) || shpB lo up M L then (0, 10) else bif strB lo up M L then (0, 2) else
    bif anyN (fun t => anyN (badL lo up M H w L t) (nc lo up M) 0) L.length 0 then (0, 19) else (gi (gl L 0) ((v - lo).toNat * M.length + m.toNat), 0)
/-- Potentials of the right form. -/
structure okL (lo up : Int) (M : List (ByteArray × Int × Int × Int)) (H : List (Int × Int × Int)) (L : List (List Int)) : Prop where
  len : L.length = H.length + 1
  row : ∀ i, i < L.length → (gl L i).length = nc lo up M
  num : ∀ i c, i < L.length → c < nc lo up M → -1000000000000 ≤ gi (gl L i) c ∧ gi (gl L i) c ≤ 1000000000000
theorem gl_mem {i : Nat} (h : i < L.length) : gl L i ∈ L := by unfold gl; rw [getD_i h]; exact List.getElem_mem h
theorem okL_of (h1 : L.length = H.length + 1) (h2 : shpB lo up M L = false) (h3 : strB lo up M L = false) : okL lo up M H L := by
  refine ⟨h1, fun i hi => ?_, fun i c hi hc => ?_⟩
  · unfold shpB at h2
    rw [List.any_eq_false] at h2
    simpa using h2 _ (gl_mem hi)
  · have h4 := anyN_f h3 i (Nat.zero_le _) (by omega)
    have h5 := anyN_f h4 c (Nat.zero_le _) (by omega)
    exact s12_p (by simpa using h5)
theorem get_row (o : okL lo up M H L) {i c : Nat} (hi : i < L.length) (hc : c < nc lo up M) : (gl L i)[c]? = some (gi (gl L i) c) := get_gi (by rw [o.row i hi]; exact hc)
theorem f361_e (k : okT lo up M v m w H) (o : okL lo up M H L) {v' m' : Int} {t b : Nat} {x n : Int} (ht : t ≤ H.length) (h1 : lo ≤ x) (h2 : x ≤ up) (hb : b < M.length) :
    f361 lo up M v' m' w H L (t : Int) x (b : Int) n = some (vldB lo up M H w L t x b n) := by
  have hlo := k.lo0; have hhi := k.hi1; have hf := k.hfew; have hmf := k.mfew; have hol := o.len
  have hw := wv_b k h1 h2
  unfold f361 vldB
  rw [List.length_map, ieq_eq, ceqN]
  cases hd : decide (t = H.length) with
  | true =>
    rw [oite_t, wr (by omega) (by omega), ile_eq]; rfl
  | false =>
    have hd := of_decide_eq_false hd
    have htl : t < H.length := by omega
    rw [oite_f, oloop_any (fun j => (j : Int)) M.length (fun j => inR lo up (aft M H x t j) && decide (n < rev M H t b j + gi (gl L (t + 1)) ((aft M H x t j - lo).toNat * M.length + j))) (r := .inr false) (d := .inl ()) (e0 := (0 : Int)) rfl ?_ ?_]
    · cases anyN (fun j => inR lo up (aft M H x t j) && decide (n < rev M H t b j + gi (gl L (t + 1)) ((aft M H x t j - lo).toNat * M.length + j))) M.length 0 <;> rfl
    · intro j hj
      have hh1 := k.hour t htl
      have hm1 := k.mode j hj
      simp only [List.length_map, ilt_eq, decide_eq_true (show ((j : Nat) : Int) < ((M.length : Nat) : Int) by omega), oite_t]
      rw [f242_e k htl hj (by omega), aft_n]
      simp only [obnd_s, f243_e]
      cases hin : inR lo up (aft M H x t j) with
      | false => simp (disch := omega) only [obnd_s, obnd_n, oite_ss, oite_t, oite_f, ogrd_t, ogrd_f, obndS_l, obndS_r, ilt_eq, ile_eq, ieq_eq, imax_e, imin_e, k0, k1, k2, k3, k4, k5, k6, k7, k8, k9, reduceIte, k10, k11, k12, k13, k14, k15, k16, k17, k18, k19, k20, k21, k22, k23, k24, k25, k26, k27, k28, wr]; rfl
      | true =>
        have hp := inR_p hin
        have hcl := cell_lt (lo := lo) (up := up) (M := M) (a := (aft M H x t j - lo).toNat) (b := j) (by omega) hj
        have hnum := o.num (t + 1) _ (by omega) hcl
        have hrv := rev_b k (b := b) htl hj
        rw [oite_t, wr (n := (t : Int) + 1) (by omega) (by omega), show (t : Int) + 1 = ((t + 1 : Nat) : Int) by omega, ile_eq, decide_eq_true (Int.natCast_nonneg _), ogrd_t, Int.toNat_natCast, get_gl (by omega)]
        simp only [obnd_s]
        rw [f239_e k htl hj]
        simp only [obnd_s]
        rw [f234_e k hp.1 hp.2 hj]
        simp only [obnd_s, ile_eq, decide_eq_true (Int.natCast_nonneg _), ogrd_t, Int.toNat_natCast]
        rw [get_row o (by omega) hcl]
        simp only [obnd_s, Bool.true_and, ilt_eq]
        have e7 := wr (n := rev M H t b j + gi (gl L (t + 1)) ((aft M H x t j - lo).toNat * M.length + j)) (by omega) (by omega)
        simp only [e7]
        rw [wr (n := (j : Int) + 1) (by omega) (by omega)]
        by_cases hq : n < rev M H t b j + gi (gl L (t + 1)) ((aft M H x t j - lo).toNat * M.length + j)
        · simp [hq, oite_t]
        · simp [hq, oite_f]
    · simp (disch := omega) only [obnd_s, obnd_n, oite_ss, oite_t, oite_f, ogrd_t, ogrd_f, obndS_l, obndS_r, ilt_eq, ile_eq, ieq_eq, imax_e, imin_e, k0, k1, k2, k3, k4, k5, k6, k7, k8, k9, reduceIte, k10, k11, k12, k13, k14, k15, k16, k17, k18, k19, k20, k21, k22, k23, k24, k25, k26, k27, k28, Int.lt_irrefl]
theorem badL_at {t a b : Nat} (hb : b < M.length) : badL lo up M H w L t (a * M.length + b) = !vldB lo up M H w L t (lo + (a : Int)) b (gi (gl L t) (a * M.length + b)) := by
  unfold badL
  rw [Nat.add_comm (a * M.length) b, Nat.add_mul_div_right _ _ (by omega), Nat.add_mul_mod_self_right, Nat.div_eq_of_lt hb, Nat.mod_eq_of_lt hb, Nat.zero_add]
theorem f331_e (hM : M.length < 4611686018427387904) (hs : ∀ p, p ∈ M → p.1.size < 4611686018427387904) (hH : H.length < 4611686018427387904) (hL : few L) :
    f331 lo up M v m w H L = some (bif !decide ((ckT lo up M v m w H).2 = 0) then (0, (ckT lo up M v m w H).2) else ckB lo up M v m w H L) := by
  unfold f331
  rw [f219_e hM hs hH]
  simp only [obnd_s, ieq_eq]
  cases h0 : decide ((ckT lo up M v m w H).2 = 0) with
  | false => rfl
  | true =>
    have k := (ckT_0 (of_decide_eq_true h0)).2
    have hlo := k.lo0; have hhi := k.hi1; have hf := k.hfew; have hmp := k.mpos; have hmf := k.mfew; have hlh := k.lohi; have hsp := k.span
    have hm0 := k.m0; have hm1 := k.m1
    obtain ⟨hc0, hc1⟩ := nc_b k
    have hl13 := hL.1
    have e1 : (((M.length : Nat) : Int) - 1) = ((M.length - 1 : Nat) : Int) := by omega
    have hcell : (up - lo).toNat * M.length + (M.length - 1) + 1 = nc lo up M := by unfold nc; rw [Nat.add_mul, Nat.one_mul]; omega
    have e2 : (((up - lo).toNat * M.length + (M.length - 1) : Nat) : Int) + 1 = ((nc lo up M : Nat) : Int) := by omega
    have e3 : ((H.length : Nat) : Int) + 1 = ((H.length + 1 : Nat) : Int) := by omega
    simp only [Bool.not_true, oite_f, cond_false, List.length_map]
    rw [wr (n := ((M.length : Nat) : Int) - 1) (by omega) (by omega), e1, f234_e k hlh (Int.le_refl _) (by omega)]
    simp only [obnd_s]
    rw [wr (n := (((up - lo).toNat * M.length + (M.length - 1) : Nat) : Int) + 1) (by omega) (by omega), e2, f357_e (p := fun z0 => f358 z0 ((nc lo up M : Nat) : Int)) (l := L) (fun l => !decide (l.length = nc lo up M)) (fun x _ => by unfold f358; rw [List.length_map, ieq_eq, ceqN]) (by omega), f359_e hL]
    simp only [obnd_s]
    have hfl := fl_b hL L.length (Nat.le_refl _)
    rw [fl_n] at hfl
    rw [f80_e (p := fun z0 => f360 z0) (l := L.flatten) (fun n => !s12 n) (fun x _ => f360_e x) (by omega)]
    simp only [obnd_s, f214_e, f213_2]
    rw [wr (n := ((H.length : Nat) : Int) + 1) (by omega) (by omega), e3, ceqN, show (L.any fun l => !decide (l.length = nc lo up M)) = shpB lo up M L from rfl]
    unfold ckB
    cases h1 : decide (L.length = H.length + 1) with
    | false => rfl
    | true =>
      have h1 := of_decide_eq_true h1
      cases h2 : shpB lo up M L with
      | true => rfl
      | false =>
        have hrow : ∀ i, i < L.length → (gl L i).length = nc lo up M := fun i hi => by
          unfold shpB at h2
          rw [List.any_eq_false] at h2
          simpa using h2 _ (gl_mem hi)
        have hstr : L.flatten.any (fun n => !s12 n) = strB lo up M L := by
          unfold strB
          rw [List.any_flatten, any_anyN (l := L) []]
          refine anyN_congr fun i _ hi => ?_
          have hi' : i < L.length := by omega
          rw [show L.getD i [] = gl L i from rfl, any_anyN (l := gl L i) 0, hrow i hi']
          rfl
        rw [hstr]
        cases h3 : strB lo up M L with
        | true => rfl
        | false =>
          have o := okL_of (lo := lo) (up := up) (M := M) (H := H) h1 h2 h3
          simp only [Bool.not_false, Bool.not_true, obnd_s, oite_t, if_true, decide_true, oite_f, Bool.or_self, cond_false]
          rw [oloop_any (fun t => (t : Int)) L.length (fun t => anyN (badL lo up M H w L t) (nc lo up M) 0) (r := .inr ((0 : Int), (19 : Int))) (d := .inl ()) (e0 := (0 : Int)) rfl ?_ ?_]
          · cases anyN (fun t => anyN (badL lo up M H w L t) (nc lo up M) 0) L.length 0 with
            | true => rfl
            | false =>
              have em : m = ((m.toNat : Nat) : Int) := by omega
              have hmn : m.toNat < M.length := by omega
              have hv1 := k.vlo; have hv2 := k.vhi
              simp only [cond_false, obndS_l]
              rw [show ((0 : Int)).toNat = 0 from rfl, get_gl (by omega)]
              simp only [obnd_s]
              rw [em, f234_e k k.vlo k.vhi hmn]
              simp only [obnd_s, ile_eq, decide_eq_true (Int.natCast_nonneg _), ogrd_t, Int.toNat_natCast]
              rw [get_row o (by omega) (cell_lt (by omega) hmn)]; rfl
          · intro t ht
            simp only [ilt_eq, decide_eq_true (show ((t : Nat) : Int) < ((L.length : Nat) : Int) by omega), oite_t, ile_eq, decide_eq_true (Int.natCast_nonneg _), ogrd_t, Int.toNat_natCast, get_gl ht, obnd_s]
            rw [oloop_any (fun a => lo + (a : Int)) ((up - lo).toNat + 1) (fun a => anyN (fun b => badL lo up M H w L t (a * M.length + b)) M.length 0) (r := .inr (.inr (.inr ((0 : Int), (19 : Int))))) (d := .inl ()) (by simp) ?_ ?_]
            · rw [anyN_mul (f := badL lo up M H w L t) hmp, show ((up - lo).toNat + 1) * M.length = nc lo up M from rfl]
              cases anyN (badL lo up M H w L t) (nc lo up M) 0 with
              | true => rfl
              | false =>
                simp only [cond_false, obndS_l]
                rw [wr (by omega) (by omega)]; rfl
            · intro a ha
              have hx1 : lo ≤ lo + (a : Int) := by omega
              have hx2 : lo + (a : Int) ≤ up := by omega
              have ea : (lo + (a : Int) - lo).toNat = a := by omega
              simp only [decide_eq_true hx2, oite_t]
              rw [oloop_any (fun b => (b : Int)) M.length (fun b => badL lo up M H w L t (a * M.length + b)) (r := .inr (.inr (.inr (.inr (.inr ((0 : Int), (19 : Int))))))) (d := .inl ()) (e0 := (0 : Int)) rfl ?_ ?_]
              · cases anyN (fun b => badL lo up M H w L t (a * M.length + b)) M.length 0 with
                | true => rfl
                | false =>
                  simp only [cond_false, obndS_l]
                  rw [wr (by omega) (by omega), show lo + (a : Int) + 1 = lo + ((a + 1 : Nat) : Int) by omega]
              · intro b hb
                have hcl := cell_lt (lo := lo) (up := up) (M := M) (a := a) (b := b) (by omega) hb
                simp only [decide_eq_true (show ((b : Nat) : Int) < ((M.length : Nat) : Int) by omega), oite_t]
                rw [f234_e k hx1 hx2 hb, ea]
                simp only [obnd_s, decide_eq_true (Int.natCast_nonneg _), ogrd_t, Int.toNat_natCast]
                rw [get_row o ht hcl]
                simp only [obnd_s]
                rw [f361_e k o (by omega) hx1 hx2 hb]
                simp only [obnd_s]
                rw [badL_at hb, wr (by omega) (by omega)]
                cases vldB lo up M H w L t (lo + (a : Int)) b (gi (gl L t) (a * M.length + b)) <;> rfl
              · simp (disch := omega) only [obnd_s, obnd_n, oite_ss, oite_t, oite_f, ogrd_t, ogrd_f, obndS_l, obndS_r, ilt_eq, ile_eq, ieq_eq, imax_e, imin_e, k0, k1, k2, k3, k4, k5, k6, k7, k8, k9, reduceIte, k10, k11, k12, k13, k14, k15, k16, k17, k18, k19, k20, k21, k22, k23, k24, k25, k26, k27, k28, Int.lt_irrefl]
            · have : ¬ lo + (((up - lo).toNat + 1 : Nat) : Int) ≤ up := by omega
              rw [decide_eq_false this, oite_f]
          · simp (disch := omega) only [obnd_s, obnd_n, oite_ss, oite_t, oite_f, ogrd_t, ogrd_f, obndS_l, obndS_r, ilt_eq, ile_eq, ieq_eq, imax_e, imin_e, k0, k1, k2, k3, k4, k5, k6, k7, k8, k9, reduceIte, k10, k11, k12, k13, k14, k15, k16, k17, k18, k19, k20, k21, k22, k23, k24, k25, k26, k27, k28, Int.lt_irrefl]
theorem f332_e (hL : few L) : f332 L = some L := by
  have hl13 := hL.1
  unfold f332
  refine (obnd_of (a := L) ?_).trans rfl
  have ht : L = L.take L.length := by rw [List.take_length]
  refine oloop_all (fun i => (L.take i, (i : Int))) L.length rfl ?_ ?_
  · intro i hi
    have h2 := hL.2 i hi
    simp (disch := omega) only [obnd_s, obnd_n, oite_ss, oite_t, oite_f, ogrd_t, ogrd_f, obndS_l, obndS_r, ilt_eq, ile_eq, ieq_eq, imax_e, imin_e, k0, k1, k2, k3, k4, k5, k6, k7, k8, k9, reduceIte, k10, k11, k12, k13, k14, k15, k16, k17, k18, k19, k20, k21, k22, k23, k24, k25, k26, k27, k28, hi, get_gl hi, wr]
    rw [f38_e (by omega)]
    simp only [obnd_s]
    rw [ogrd_fits (by simp; omega) (by simp; omega), List.take_add_one, get_gl hi]; rfl
  · simp (disch := omega) only [obnd_s, obnd_n, oite_ss, oite_t, oite_f, ogrd_t, ogrd_f, obndS_l, obndS_r, ilt_eq, ile_eq, ieq_eq, imax_e, imin_e, k0, k1, k2, k3, k4, k5, k6, k7, k8, k9, reduceIte, k10, k11, k12, k13, k14, k15, k16, k17, k18, k19, k20, k21, k22, k23, k24, k25, k26, k27, k28, Int.lt_irrefl]
    rw [List.take_length]
end
end
end Go.Proofs.YtmbekcealcjabaaGreat.AM
