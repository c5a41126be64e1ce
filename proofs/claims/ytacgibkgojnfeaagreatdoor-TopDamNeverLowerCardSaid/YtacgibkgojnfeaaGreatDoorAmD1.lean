/- Determinants: lists of columns, expanded along the first row; Cramer's rule and its counterpart. Conditions: none. -/
import Derived.Test.YtacgibkgojnfeaaGreatDoorAmD0
namespace Go.Proofs.YtacgibkgojnfeaaGreatDoor.AM
set_option linter.unusedSimpArgs false
set_option linter.unusedVariables false
open Go Go.RowKit

abbrev Col := Nat → Int
/-- The alternating sum of what is left without one column. -/
def altS (w : Col → Int) : (List Col → Int) → List Col → Int
  | _, [] => 0
  | f, c :: t => w c * f t - altS w (fun l => f (c :: l)) t
/-- The determinant of some columns, rows from r on. -/
def det : Nat → Nat → List Col → Int
  | 0, _, _ => 1
  | n + 1, r, cs => altS (fun c => c r) (det n (r + 1)) cs

theorem altS_congr {w : Col → Int} : ∀ {t : List Col} {f g : List Col → Int}, (∀ l : List Col, l.length + 1 = t.length → (∀ c, c ∈ l → c ∈ t) → f l = g l) → altS w f t = altS w g t
  | [], _, _, _ => rfl
  | c :: t, f, g, h => by
    unfold altS
    rw [h t rfl (fun x hx => List.mem_cons_of_mem _ hx), altS_congr (f := fun l => f (c :: l)) (g := fun l => g (c :: l)) fun l hl hm => h (c :: l) (by simp [hl]) (fun x hx => by
      rcases List.mem_cons.1 hx with rfl | hx
      · exact List.mem_cons_self
      · exact List.mem_cons_of_mem _ (hm x hx))]
theorem altS_lin {w : Col → Int} {a b : Int} : ∀ {t : List Col} {f g : List Col → Int}, altS w (fun l => a * f l + b * g l) t = a * altS w f t + b * altS w g t
  | [], _, _ => by simp [altS]
  | c :: t, f, g => by
    unfold altS
    rw [altS_lin (f := fun l => f (c :: l)) (g := fun l => g (c :: l))]
    grind
theorem altS_neg {w : Col → Int} {t : List Col} {f : List Col → Int} : altS w (fun l => -(f l)) t = -(altS w f t) := by
  have := altS_lin (w := w) (a := -1) (b := 0) (t := t) (f := f) (g := f)
  rw [show (fun l => -(f l)) = fun l => (-1) * f l + 0 * f l by funext l; omega, this]; omega
theorem altS_zero {w : Col → Int} {t : List Col} : altS w (fun _ => 0) t = 0 := by
  have := altS_lin (w := w) (a := 0) (b := 0) (t := t) (f := fun _ => 0) (g := fun _ => 0)
  rw [show (fun _ : List Col => (0 : Int)) = fun l => 0 * (0 : Int) + 0 * 0 by rfl, this]; omega
theorem altS_z {w : Col → Int} {t : List Col} {f : List Col → Int} (h : ∀ l : List Col, l.length + 1 = t.length → (∀ c, c ∈ l → c ∈ t) → f l = 0) : altS w f t = 0 := by
  rw [altS_congr (g := fun _ => 0) h, altS_zero]
theorem altS_wcongr {w v : Col → Int} : ∀ {t : List Col} {f : List Col → Int}, (∀ c, c ∈ t → w c = v c) → altS w f t = altS v f t
  | [], _, _ => rfl
  | c :: t, f, h => by
    unfold altS
    rw [h c List.mem_cons_self, altS_wcongr fun x hx => h x (List.mem_cons_of_mem _ hx)]
theorem altS_map {w : Col → Int} {s : Col → Col} : ∀ {t : List Col} {f : List Col → Int}, altS w f (t.map s) = altS (fun c => w (s c)) (fun l => f (l.map s)) t
  | [], _ => rfl
  | c :: t, f => by
    show w (s c) * f (t.map s) - altS w (fun l => f (s c :: l)) (t.map s) = _
    rw [altS_map]; rfl

/-! ### Columns -/
/-- A column that is a sum: the rest is as for each of both. -/
def Lin (n : Nat) (f : List Col → Int) : Prop := ∀ (p q : List Col) (x y z : Col) (a b : Int), p.length + 1 + q.length = n → (∀ i, z i = a * x i + b * y i) → f (p ++ z :: q) = a * f (p ++ x :: q) + b * f (p ++ y :: q)
theorem lin_altS {r : Nat} : ∀ {n : Nat} {f : List Col → Int}, Lin n f → Lin (n + 1) (altS (fun c => c r) f) := by
  intro n f hf p
  induction p generalizing n f with
  | nil =>
    intro q x y z a b hn hz
    simp only [List.nil_append, altS]
    have hq : q.length = n := by simp at hn; omega
    have h1 : altS (fun c => c r) (fun l => f (z :: l)) q = a * altS (fun c => c r) (fun l => f (x :: l)) q + b * altS (fun c => c r) (fun l => f (y :: l)) q := by
      rw [← altS_lin]
      refine altS_congr fun l hl _ => ?_
      exact hf [] l x y z a b (by simp; omega) hz
    rw [h1, hz r]; grind
  | cons c p ih =>
    intro q x y z a b hn hz
    simp only [List.cons_append, altS]
    have hn' : p.length + 1 + q.length = n := by simp at hn; omega
    have h2 := hf p q x y z a b hn' hz
    obtain ⟨m, rfl⟩ : ∃ m, n = m + 1 := ⟨n - 1, by omega⟩
    have h3 := ih (n := m) (f := fun l => f (c :: l)) (fun p' q' x' y' z' a' b' hn'' hz' => hf (c :: p') q' x' y' z' a' b' (by simp; omega) hz') q x y z a b hn' hz
    rw [h2, h3]; grind
theorem lin_det : ∀ {n r : Nat}, Lin n (det n r)
  | 0, r => fun p q x y z a b hn _ => by omega
  | n + 1, r => lin_altS lin_det
/-- Two equal columns side by side. -/
def Adj (n : Nat) (f : List Col → Int) : Prop := ∀ (p q : List Col) (x : Col), p.length + 2 + q.length = n → f (p ++ x :: x :: q) = 0
theorem adj_altS {w : Col → Int} : ∀ {n : Nat} {f : List Col → Int}, Adj n f → Adj (n + 1) (altS w f) := by
  intro n f hf p
  induction p generalizing n f with
  | nil =>
    intro q x hn
    simp only [List.nil_append, altS]
    have hq : q.length + 1 = n := by simp at hn; omega
    rw [altS_z (f := fun l => f (x :: x :: l)) fun l hl _ => hf [] l x (by simp; omega)]; omega
  | cons c p ih =>
    intro q x hn
    simp only [List.cons_append, altS]
    have hn' : p.length + 2 + q.length = n := by simp at hn; omega
    obtain ⟨m, rfl⟩ : ∃ m, n = m + 1 := ⟨n - 1, by omega⟩
    have h3 := ih (n := m) (f := fun l => f (c :: l)) (fun p' q' x' hn'' => hf (c :: p') q' x' (by simp; omega)) q x hn'
    rw [hf p q x hn', h3]; omega
theorem adj_det : ∀ {n r : Nat}, Adj n (det n r)
  | 0, _ => fun p q x hn => by omega
  | n + 1, _ => adj_altS adj_det
/-- Two columns side by side, exchanged. -/
theorem det_swap {n r : Nat} {p q : List Col} {x y : Col} (hn : p.length + 2 + q.length = n) : det n r (p ++ x :: y :: q) = -(det n r (p ++ y :: x :: q)) := by
  have L := @lin_det n r
  have A := @adj_det n r
  have h0 := A p q (fun i => x i + y i) hn
  have h1 := L p ((fun i => x i + y i) :: q) x y (fun i => x i + y i) 1 1 (by simp; omega) (fun i => by omega)
  have h2 := L (p ++ [x]) q x y (fun i => x i + y i) 1 1 (by simp; omega) (fun i => by omega)
  have h3 := L (p ++ [y]) q x y (fun i => x i + y i) 1 1 (by simp; omega) (fun i => by omega)
  simp only [List.append_assoc, List.cons_append, List.nil_append] at h2 h3
  have h4 := A p q x hn
  have h5 := A p q y hn
  omega
/-- Two equal columns. -/
theorem det_two {n r : Nat} {x : Col} : ∀ {m p q : List Col}, p.length + m.length + 2 + q.length = n → det n r (p ++ x :: (m ++ x :: q)) = 0
  | [], p, q, hn => by simpa using adj_det p q x (by simp at hn; omega)
  | c :: m, p, q, hn => by
    rw [List.cons_append, det_swap (by simp at hn ⊢; omega)]
    have := det_two (n := n) (r := r) (x := x) (m := m) (p := p ++ [c]) (q := q) (by simp at hn ⊢; omega)
    simp only [List.append_assoc, List.cons_append, List.nil_append] at this
    rw [this]; rfl
theorem det_has {n r : Nat} {x : Col} {p q : List Col} (hn : p.length + 1 + q.length = n) (h : x ∈ p ∨ x ∈ q) : det n r (p ++ x :: q) = 0 := by
  rcases h with h | h
  · obtain ⟨a, b, rfl⟩ := List.append_of_mem h
    simpa using det_two (n := n) (r := r) (x := x) (p := a) (m := b) (q := q) (by simp at hn; omega)
  · obtain ⟨a, b, rfl⟩ := List.append_of_mem h
    exact det_two (n := n) (r := r) (x := x) (p := p) (m := a) (q := b) (by simp at hn; omega)
/-- A sum of columns. -/
def comb : List Col → List Int → Col
  | c :: cs, x :: xs => fun i => x * c i + comb cs xs i
  | _, _ => fun _ => 0
theorem det_zero {n r : Nat} {p q : List Col} (hn : p.length + 1 + q.length = n) {z : Col} (hz : ∀ i, z i = 0) : det n r (p ++ z :: q) = 0 := by
  have := lin_det (n := n) (r := r) p q z z z 0 0 hn (fun i => by rw [hz]; omega)
  rw [this]; omega
theorem det_comb {n r : Nat} {p q : List Col} (hn : p.length + 1 + q.length = n) : ∀ (cs : List Col) (xs : List Int), (∀ c, c ∈ cs → c ∈ p ∨ c ∈ q) → det n r (p ++ comb cs xs :: q) = 0
  | [], _, _ => det_zero hn fun i => rfl
  | _ :: _, [], _ => det_zero hn fun i => rfl
  | c :: cs, x :: xs, h => by
    rw [lin_det (n := n) (r := r) p q c (comb cs xs) (comb (c :: cs) (x :: xs)) x 1 hn (fun i => by simp [comb]), det_has hn (h c List.mem_cons_self), det_comb hn cs xs fun d hd => h d (List.mem_cons_of_mem _ hd)]; omega
theorem comb_app : ∀ {p q : List Col} {xs ys : List Int}, p.length = xs.length → ∀ i, comb (p ++ q) (xs ++ ys) i = comb p xs i + comb q ys i
  | [], q, [], ys, _, i => by simp [comb]
  | c :: p, q, x :: xs, ys, h, i => by
    simp only [List.cons_append, comb]
    rw [comb_app (by simpa using h)]; omega
/-- Cramer's rule. -/
theorem det_cramer {n r : Nat} {p q : List Col} {c : Col} {xs ys : List Int} {x : Int} (hn : p.length + 1 + q.length = n) (hx : p.length = xs.length) {z : Col} (hz : ∀ i, z i = comb (p ++ c :: q) (xs ++ x :: ys) i) : det n r (p ++ z :: q) = x * det n r (p ++ c :: q) := by
  have h1 := lin_det (n := n) (r := r) p q (comb p xs) (fun i => x * c i + comb q ys i) z 1 1 hn (fun i => by rw [hz, comb_app hx]; simp [comb])
  have h2 := lin_det (n := n) (r := r) p q c (comb q ys) (fun i => x * c i + comb q ys i) x 1 hn (fun i => by omega)
  rw [h1, h2, det_comb hn p xs fun c h => .inl h, det_comb hn q ys fun c h => .inr h]; omega

/-! ### Rows -/
/-- Only rows from r on, n of them. -/
theorem det_map {s : Col → Col} {d : Nat} : ∀ {n r : Nat} {cs : List Col}, (∀ c, c ∈ cs → ∀ i, r ≤ i → i < r + n → s c (i + d) = c i) → det n (r + d) (cs.map s) = det n r cs
  | 0, _, _, _ => rfl
  | n + 1, r, cs, h => by
    unfold det
    rw [altS_map, show r + d + 1 = r + 1 + d by omega]
    rw [altS_wcongr (v := fun c => c r) fun c hc => h c hc r (by omega) (by omega)]
    refine altS_congr fun l _ hm => ?_
    exact det_map fun c hc i h1 h2 => h c (hm c hc) i (by omega) (by omega)
/-- Two rows, one after the other. -/
theorem altS_two {w v : Col → Int} : ∀ {t : List Col} {f : List Col → Int}, altS w (altS v f) t = -(altS v (altS w f) t)
  | [], _ => by simp [altS]
  | c :: t, f => by
    have key : ∀ (w v : Col → Int), altS w (altS v f) (c :: t) = w c * altS v f t - v c * altS w f t + altS w (altS v fun l => f (c :: l)) t := by
      intro w v
      show w c * altS v f t - altS w (fun l => v c * f l - altS v (fun m => f (c :: m)) l) t = _
      have := altS_lin (w := w) (a := v c) (b := -1) (t := t) (f := f) (g := altS v fun m => f (c :: m))
      rw [show (fun l => v c * f l - altS v (fun m => f (c :: m)) l) = fun l => v c * f l + (-1) * altS v (fun m => f (c :: m)) l by funext l; omega, this]; omega
    rw [key w v, key v w, altS_two (w := w) (v := v)]; omega
/-- A column with the rows a and a + 1 exchanged. -/
def sw (a : Nat) (c : Col) : Col := fun j => if j = a then c (a + 1) else if j = a + 1 then c a else c j
theorem det_sw {a : Nat} : ∀ {n r : Nat} {cs : List Col}, r ≤ a → a + 1 < r + n → det n r (cs.map (sw a)) = -(det n r cs)
  | 0, _, _, _, _ => by omega
  | 1, _, _, _, _ => by omega
  | n + 2, r, cs, h1, h2 => by
    by_cases ha : r = a
    · subst ha
      show altS (fun c => c r) (altS (fun c => c (r + 1)) (det n (r + 2))) (cs.map (sw r)) = -(altS (fun c => c r) (altS (fun c => c (r + 1)) (det n (r + 2))) cs)
      rw [altS_map, altS_wcongr (w := fun c => sw r c r) (v := fun c => c (r + 1)) fun c _ => by simp [sw]]
      refine (altS_congr (g := altS (fun c => c r) (det n (r + 2))) fun l _ _ => ?_).trans altS_two
      rw [altS_map, altS_wcongr (w := fun c => sw r c (r + 1)) (v := fun c => c r) fun c _ => by simp [sw]]
      refine altS_congr fun m _ _ => ?_
      exact det_map (d := 0) fun c _ i h3 _ => by simp only [sw, Nat.add_zero]; rw [if_neg (by omega), if_neg (by omega)]
    · show altS (fun c => c r) (det (n + 1) (r + 1)) (cs.map (sw a)) = -(altS (fun c => c r) (det (n + 1) (r + 1)) cs)
      rw [altS_map, altS_wcongr (w := fun c => sw a c r) (v := fun c => c r) fun c _ => by simp only [sw]; rw [if_neg ha, if_neg (by omega)], ← altS_neg]
      refine altS_congr fun l _ _ => ?_
      exact det_sw (n := n + 1) (by omega) (by omega)
/-- Two equal rows. -/
theorem det_rows {n r : Nat} : ∀ {d : Nat} {cs : List Col}, (∀ c, c ∈ cs → c r = c (r + 1 + d)) → r + 1 + d < r + n → det n r cs = 0
  | 0, cs, h, hn => by
    have h1 := det_sw (a := r) (n := n) (r := r) (cs := cs) (Nat.le_refl _) (by omega)
    have h2 : cs.map (sw r) = cs := by
      rw [List.map_congr_left (g := id) fun c hc => ?_, List.map_id]
      have := h c hc
      funext j
      simp only [sw, id]
      by_cases h3 : j = r
      · rw [if_pos h3, h3]; exact this.symm
      · rw [if_neg h3]
        by_cases h4 : j = r + 1
        · rw [if_pos h4, h4]; exact this
        · rw [if_neg h4]
    rw [h2] at h1; omega
  | d + 1, cs, h, hn => by
    have h1 := det_sw (a := r + 1 + d) (n := n) (r := r) (cs := cs) (by omega) (by omega)
    have h2 := det_rows (n := n) (r := r) (d := d) (cs := cs.map (sw (r + 1 + d))) (fun c hc => by
      obtain ⟨x, hx, rfl⟩ := List.mem_map.1 hc
      have := h x hx
      simp only [sw]
      rw [if_neg (by omega), if_neg (by omega), if_pos trivial, this]; rfl) (by omega)
    omega
/-- The sum of a row's elements, each times the determinant with another column in its place. -/
def repS (w : Col → Int) (v : Col) : (List Col → Int) → List Col → Int
  | _, [] => 0
  | f, c :: t => w c * f (v :: t) + repS w v (fun l => f (c :: l)) t
/-- Moves of the last column. -/
def Mov (n : Nat) (f : List Col → Int) : Prop := ∀ (p q : List Col) (v : Col), p.length + 1 + q.length = n → f (p ++ (q ++ [v])) = (-1) ^ q.length * f (p ++ v :: q)
theorem mov_det {n r : Nat} : Mov n (det n r) := by
  intro p q
  induction q generalizing p with
  | nil => intro v _; simp
  | cons c q ih =>
    intro v hn
    have := ih (p ++ [c]) v (by simp at hn ⊢; omega)
    simp only [List.append_assoc, List.cons_append, List.nil_append] at this
    rw [List.cons_append, this, det_swap (by simp at hn ⊢; omega), List.length_cons, Int.pow_succ]; grind
theorem altS_last {w : Col → Int} {v : Col} : ∀ {t : List Col} {f : List Col → Int}, Mov t.length f → altS w f (t ++ [v]) = (-1) ^ t.length * (w v * f t - repS w v f t)
  | [], f, h => by simp [altS, repS]
  | c :: t, f, h => by
    have h1 := h [] t v (by simp; omega)
    have h2 := altS_last (w := w) (v := v) (t := t) (f := fun l => f (c :: l)) (fun p q u hn => h (c :: p) q u (by simp; omega))
    show w c * f (t ++ [v]) - altS w (fun l => f (c :: l)) (t ++ [v]) = _
    simp only [List.nil_append] at h1
    rw [h2, h1]
    simp only [repS, List.length_cons, Int.pow_succ]
    grind
def hat (i : Nat) (c : Col) : Col := fun j => match j with | 0 => c i | j + 1 => c j
theorem pm_one (n : Nat) : ((-1 : Int) ^ n) = 1 ∨ ((-1 : Int) ^ n) = -1 := by
  induction n with
  | zero => exact .inl rfl
  | succ n ih => rw [Int.pow_succ]; omega
/-- The counterpart of Cramer's rule: the sum of the columns, each times its determinant, is the given column times the determinant. -/
theorem det_adj {n : Nat} {cs : List Col} (hl : cs.length = n) (v : Col) {i : Nat} (hi : i < n) : repS (fun c => c i) v (det n 0) cs = v i * det n 0 cs := by
  have h0 : det (n + 1) 0 ((cs ++ [v]).map (hat i)) = 0 := det_rows (d := i) (fun c hc => by
    obtain ⟨x, _, rfl⟩ := List.mem_map.1 hc
    show x i = hat i x (0 + 1 + i)
    rw [show 0 + 1 + i = i + 1 by omega]; rfl) (by omega)
  have h1 : det (n + 1) 0 ((cs ++ [v]).map (hat i)) = altS (fun c => c i) (det n 0) (cs ++ [v]) := by
    unfold det
    rw [altS_map]
    refine altS_congr fun l _ _ => ?_
    exact det_map (d := 1) (r := 0) fun c _ j _ _ => rfl
  rw [h1, altS_last (by rw [hl]; exact mov_det)] at h0
  rcases pm_one cs.length with h | h <;> rw [h] at h0 <;> omega
end Go.Proofs.YtacgibkgojnfeaaGreatDoor.AM
