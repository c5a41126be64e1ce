/- Plain laws: FitOf's determinants stay within the machine's numbers; normal equations; Cramer. Conditions: none. -/
import Derived.Test.YtacgibkgojnfeaaAmP0
import Derived.Test.YtacgibkgojnfeaaAmDet
import Derived.Test.YtacgibkgojnfeaaAmC1
namespace Go.Proofs.Ytacgibkgojnfeaa.AM
section
set_option linter.unusedSimpArgs false
set_option linter.unusedVariables false
open Go Go.RowKit

/-! ### Loops that come to an end -/
theorem oloop_ex {τ ρ : Type} {g : τ → Option (τ ⊕ ρ)} {R : ρ → Prop} (P : Nat → τ → Prop) (n : Nat) {e0 : τ} (h0 : P 0 e0)
    (hs : ∀ i e, i < n → P i e → (∃ e', g e = some (.inl e') ∧ P (i + 1) e') ∨ (∃ r, g e = some (.inr r) ∧ R r)) (hend : ∀ e, P n e → ∃ r, g e = some (.inr r) ∧ R r) : ∃ r, oloop g e0 = some r ∧ R r := by
  have key : ∀ k i e, i + k = n → P i e → ∃ r, oloop g e = some r ∧ R r := by
    intro k
    induction k with
    | zero =>
      intro i e hi hp
      obtain ⟨r, h1, h2⟩ := hend e (by rw [show n = i by omega]; exact hp)
      exact ⟨r, oloop_done h1, h2⟩
    | succ k ih =>
      intro i e hi hp
      rcases hs i e (by omega) hp with ⟨e', h1, h2⟩ | ⟨r, h1, h2⟩
      · obtain ⟨r, h3, h4⟩ := ih (i + 1) e' (by omega) h2
        exact ⟨r, (oloop_step h1).trans h3, h4⟩
      · exact ⟨r, oloop_done h1, h2⟩
  exact key n 0 e0 (by omega) h0
theorem obnd_ex {α β : Type} {x : Option α} {f : α → Option β} {R : α → Prop} {Q : β → Prop} (h : ∃ r, x = some r ∧ R r) (hf : ∀ r, R r → ∃ y, f r = some y ∧ Q y) : ∃ y, obnd x f = some y ∧ Q y := by
  obtain ⟨r, rfl, hr⟩ := h; exact hf r hr
theorem obndS_ex {α γ : Type} {x : Option (α ⊕ γ)} {f : α → Option γ} {R : α ⊕ γ → Prop} {Q : γ → Prop} (h : ∃ r, x = some r ∧ R r) (hf : ∀ r, R (.inl r) → ∃ y, f r = some y ∧ Q y) (hg : ∀ r, R (.inr r) → Q r) : ∃ y, obndS x f = some y ∧ Q y := by
  obtain ⟨r, rfl, hr⟩ := h
  cases r with
  | inl a => exact hf a hr
  | inr c => exact ⟨c, rfl, hg c hr⟩
theorem inl_ex {α β : Type} {x : Option (α ⊕ β)} {P : α → Prop} (h : ∃ y, x = some y ∧ ∃ e, y = .inl e ∧ P e) : ∃ e, x = some (.inl e) ∧ P e := by obtain ⟨_, h1, e, rfl, h2⟩ := h; exact ⟨e, h1, h2⟩
theorem ex_eq {α : Type} {x : Option α} {y : α} (h : ∃ r, x = some r ∧ r = y) : x = some y := by obtain ⟨r, h, rfl⟩ := h; exact h
def i64 (x : Int) : Prop := -9223372036854775808 ≤ x ∧ x < 9223372036854775808
theorem wrap_r (n : Int) : i64 (IntKind.i64.wrap n) := by unfold i64; rw [IntKind.wrap_i64]; omega
theorem w_succ {i : Nat} (h : i < 1000000) : IntKind.i64.wrap ((i : Int) + 1) = ((i + 1 : Nat) : Int) := by rw [wr (by omega) (by omega)]; omega

/-! ### Alike but for whole turns -/
def Cg (a b : Int) : Prop := ∃ t : Int, a = b + 18446744073709551616 * t
theorem Cg.rfl {a : Int} : Cg a a := ⟨0, by omega⟩
theorem Cg.symm {a b : Int} : Cg a b → Cg b a := fun ⟨t, h⟩ => ⟨-t, by omega⟩
theorem Cg.trans {a b c : Int} : Cg a b → Cg b c → Cg a c := fun ⟨t, h⟩ ⟨s, k⟩ => ⟨t + s, by omega⟩
theorem Cg.add {a b c d : Int} : Cg a b → Cg c d → Cg (a + c) (b + d) := fun ⟨t, h⟩ ⟨s, k⟩ => ⟨t + s, by omega⟩
theorem Cg.sub {a b c d : Int} : Cg a b → Cg c d → Cg (a - c) (b - d) := fun ⟨t, h⟩ ⟨s, k⟩ => ⟨t - s, by omega⟩
theorem Cg.mul {a b : Int} (c : Int) : Cg a b → Cg (a * c) (b * c) := fun ⟨t, h⟩ => ⟨t * c, by subst h; rw [Int.add_mul, Int.mul_assoc]⟩
theorem Cg.wrap (a : Int) : Cg (IntKind.i64.wrap a) a := by
  rw [IntKind.wrap_i64]
  exact ⟨-((a + 9223372036854775808) / 18446744073709551616), by omega⟩
theorem Cg.eq {a b : Int} : Cg a b → i64 a → a = IntKind.i64.wrap b := fun ⟨t, h⟩ ⟨h1, h2⟩ => by rw [IntKind.wrap_i64]; omega
theorem Cg.of {a b : Int} (h : a = b) : Cg a b := h ▸ Cg.rfl

/-! ### Tables -/
def tab {α : Type} (n : Nat) (F : Nat → α) : List α := (List.range n).map F
theorem tab_len {α : Type} {n : Nat} {F : Nat → α} : (tab n F).length = n := by simp [tab]
theorem tab_get {α : Type} {n i : Nat} {F : Nat → α} (h : i < n) : (tab n F)[i]? = some (F i) := by simp [tab, h]
theorem tab_congr {α : Type} {n : Nat} {F G : Nat → α} (h : ∀ i, i < n → F i = G i) : tab n F = tab n G := List.map_congr_left fun i hi => h i (List.mem_range.1 hi)
theorem tab_set {α : Type} {n i : Nat} {F : Nat → α} {x : α} : (tab n F).set i x = tab n (fun q => if q = i then x else F q) := by
  refine List.ext_getElem (by simp [tab]) fun j h1 h2 => ?_
  simp only [tab, List.getElem_set, List.getElem_map, List.getElem_range]
  by_cases h : i = j
  · subst h; simp
  · rw [if_neg h, if_neg (fun e => h e.symm)]
theorem tab_rep {α : Type} {n : Nat} {x : α} : List.replicate n x = tab n (fun _ => x) := by
  refine List.ext_getElem (by simp [tab]) fun j h1 h2 => ?_
  simp [tab]
theorem tab_s {α : Type} {n : Nat} {F : Nat → α} : tab n F ++ [F n] = tab (n + 1) F := by simp [tab, List.range_succ]
theorem tab_of {α : Type} {l : List α} {d : α} : l = tab l.length (fun i => l.getD i d) := by
  refine List.ext_getElem (by simp [tab]) fun j h1 h2 => ?_
  simp [tab, h1]
theorem tab_map {α β : Type} {n : Nat} {F : Nat → α} {g : α → β} : (tab n F).map g = tab n (fun i => g (F i)) := by simp [tab, Function.comp_def]
end
section
set_option linter.unusedSimpArgs false
set_option linter.unusedVariables false
open Go Go.RowKit

abbrev Col := Nat → Int
/-- The alternating sum of what is left without one column. -/
def altS (w : Col → Int) : (List Col → Int) → List Col → Int
  | _, [] => 0
  | f, c :: t => w c * f t - altS w (fun l => f (c :: l)) t
/-- The determinant of some columns, rows from r on. -/
def det : Nat → Nat → List Col → Int
  | 0, _, _ => 1
  | n + 1, r, cs => altS (fun c => c r) (det n (r + 1)) cs

theorem altS_congr {w : Col → Int} : ∀ {t : List Col} {f g : List Col → Int}, (∀ l : List Col, l.length + 1 = t.length → (∀ c, c ∈ l → c ∈ t) → f l = g l) → altS w f t = altS w g t
  | [], _, _, _ => rfl
  | c :: t, f, g, h => by
    unfold altS
    rw [h t rfl (fun x hx => List.mem_cons_of_mem _ hx), altS_congr (f := fun l => f (c :: l)) (g := fun l => g (c :: l)) fun l hl hm => h (c :: l) (by simp [hl]) (fun x hx => by
      rcases List.mem_cons.1 hx with rfl | hx
      · exact List.mem_cons_self
      · exact List.mem_cons_of_mem _ (hm x hx))]
theorem altS_lin {w : Col → Int} {a b : Int} : ∀ {t : List Col} {f g : List Col → Int}, altS w (fun l => a * f l + b * g l) t = a * altS w f t + b * altS w g t
  | [], _, _ => by simp [altS]
  | c :: t, f, g => by
    unfold altS
    rw [altS_lin (f := fun l => f (c :: l)) (g := fun l => g (c :: l))]
    grind
theorem altS_neg {w : Col → Int} {t : List Col} {f : List Col → Int} : altS w (fun l => -(f l)) t = -(altS w f t) := by
  have := altS_lin (w := w) (a := -1) (b := 0) (t := t) (f := f) (g := f)
  rw [show (fun l => -(f l)) = fun l => (-1) * f l + 0 * f l by funext l; omega, this]; omega
theorem altS_zero {w : Col → Int} {t : List Col} : altS w (fun _ => 0) t = 0 := by
  have := altS_lin (w := w) (a := 0) (b := 0) (t := t) (f := fun _ => 0) (g := fun _ => 0)
  rw [show (fun _ : List Col => (0 : Int)) = fun l => 0 * (0 : Int) + 0 * 0 by rfl, this]; omega
theorem altS_z {w : Col → Int} {t : List Col} {f : List Col → Int} (h : ∀ l : List Col, l.length + 1 = t.length → (∀ c, c ∈ l → c ∈ t) → f l = 0) : altS w f t = 0 := by
  rw [altS_congr (g := fun _ => 0) h, altS_zero]
theorem altS_wcongr {w v : Col → Int} : ∀ {t : List Col} {f : List Col → Int}, (∀ c, c ∈ t → w c = v c) → altS w f t = altS v f t
  | [], _, _ => rfl
  | c :: t, f, h => by
    unfold altS
    rw [h c List.mem_cons_self, altS_wcongr fun x hx => h x (List.mem_cons_of_mem _ hx)]
theorem altS_map {w : Col → Int} {s : Col → Col} : ∀ {t : List Col} {f : List Col → Int}, altS w f (t.map s) = altS (fun c => w (s c)) (fun l => f (l.map s)) t
  | [], _ => rfl
  | c :: t, f => by
    show w (s c) * f (t.map s) - altS w (fun l => f (s c :: l)) (t.map s) = _
    rw [altS_map]; rfl

/-! ### Columns -/
/-- A column that is a sum: the rest is as for each of both. -/
def Lin (n : Nat) (f : List Col → Int) : Prop := ∀ (p q : List Col) (x y z : Col) (a b : Int), p.length + 1 + q.length = n → (∀ i, z i = a * x i + b * y i) → f (p ++ z :: q) = a * f (p ++ x :: q) + b * f (p ++ y :: q)
theorem lin_altS {r : Nat} : ∀ {n : Nat} {f : List Col → Int}, Lin n f → Lin (n + 1) (altS (fun c => c r) f) := by
  intro n f hf p
  induction p generalizing n f with
  | nil =>
    intro q x y z a b hn hz
    simp only [List.nil_append, altS]
    have hq : q.length = n := by simp at hn; omega
    have h1 : altS (fun c => c r) (fun l => f (z :: l)) q = a * altS (fun c => c r) (fun l => f (x :: l)) q + b * altS (fun c => c r) (fun l => f (y :: l)) q := by
      rw [← altS_lin]
      refine altS_congr fun l hl _ => ?_
      exact hf [] l x y z a b (by simp; omega) hz
    rw [h1, hz r]; grind
  | cons c p ih =>
    intro q x y z a b hn hz
    simp only [List.cons_append, altS]
    have hn' : p.length + 1 + q.length = n := by simp at hn; omega
    have h2 := hf p q x y z a b hn' hz
    obtain ⟨m, rfl⟩ : ∃ m, n = m + 1 := ⟨n - 1, by omega⟩
    have h3 := ih (n := m) (f := fun l => f (c :: l)) (fun p' q' x' y' z' a' b' hn'' hz' => hf (c :: p') q' x' y' z' a' b' (by simp; omega) hz') q x y z a b hn' hz
    rw [h2, h3]; grind
theorem lin_det : ∀ {n r : Nat}, Lin n (det n r)
  | 0, r => fun p q x y z a b hn _ => by omega
  | n + 1, r => lin_altS lin_det
/-- Two equal columns side by side. -/
def Adj (n : Nat) (f : List Col → Int) : Prop := ∀ (p q : List Col) (x : Col), p.length + 2 + q.length = n → f (p ++ x :: x :: q) = 0
theorem adj_altS {w : Col → Int} : ∀ {n : Nat} {f : List Col → Int}, Adj n f → Adj (n + 1) (altS w f) := by
  intro n f hf p
  induction p generalizing n f with
  | nil =>
    intro q x hn
    simp only [List.nil_append, altS]
    have hq : q.length + 1 = n := by simp at hn; omega
    rw [altS_z (f := fun l => f (x :: x :: l)) fun l hl _ => hf [] l x (by simp; omega)]; omega
  | cons c p ih =>
    intro q x hn
    simp only [List.cons_append, altS]
    have hn' : p.length + 2 + q.length = n := by simp at hn; omega
    obtain ⟨m, rfl⟩ : ∃ m, n = m + 1 := ⟨n - 1, by omega⟩
    have h3 := ih (n := m) (f := fun l => f (c :: l)) (fun p' q' x' hn'' => hf (c :: p') q' x' (by simp; omega)) q x hn'
    rw [hf p q x hn', h3]; omega
theorem adj_det : ∀ {n r : Nat}, Adj n (det n r)
  | 0, _ => fun p q x hn => by omega
  | n + 1, _ => adj_altS adj_det
/-- Two columns side by side, exchanged. -/
theorem det_swap {n r : Nat} {p q : List Col} {x y : Col} (hn : p.length + 2 + q.length = n) : det n r (p ++ x :: y :: q) = -(det n r (p ++ y :: x :: q)) := by
  have L := @lin_det n r
  have A := @adj_det n r
  have h0 := A p q (fun i => x i + y i) hn
  have h1 := L p ((fun i => x i + y i) :: q) x y (fun i => x i + y i) 1 1 (by simp; omega) (fun i => by omega)
  have h2 := L (p ++ [x]) q x y (fun i => x i + y i) 1 1 (by simp; omega) (fun i => by omega)
  have h3 := L (p ++ [y]) q x y (fun i => x i + y i) 1 1 (by simp; omega) (fun i => by omega)
  simp only [List.append_assoc, List.cons_append, List.nil_append] at h2 h3
  have h4 := A p q x hn
  have h5 := A p q y hn
  omega
/-- Two equal columns. -/
theorem det_two {n r : Nat} {x : Col} : ∀ {m p q : List Col}, p.length + m.length + 2 + q.length = n → det n r (p ++ x :: (m ++ x :: q)) = 0
  | [], p, q, hn => by simpa using adj_det p q x (by simp at hn; omega)
  | c :: m, p, q, hn => by
    rw [List.cons_append, det_swap (by simp at hn ⊢; omega)]
    have := det_two (n := n) (r := r) (x := x) (m := m) (p := p ++ [c]) (q := q) (by simp at hn ⊢; omega)
    simp only [List.append_assoc, List.cons_append, List.nil_append] at this
    rw [this]; rfl
theorem det_has {n r : Nat} {x : Col} {p q : List Col} (hn : p.length + 1 + q.length = n) (h : x ∈ p ∨ x ∈ q) : det n r (p ++ x :: q) = 0 := by
  rcases h with h | h
  · obtain ⟨a, b, rfl⟩ := List.append_of_mem h
    simpa using det_two (n := n) (r := r) (x := x) (p := a) (m := b) (q := q) (by simp at hn; omega)
  · obtain ⟨a, b, rfl⟩ := List.append_of_mem h
    exact det_two (n := n) (r := r) (x := x) (p := p) (m := a) (q := b) (by simp at hn; omega)
/-- A sum of columns. -/
def comb : List Col → List Int → Col
  | c :: cs, x :: xs => fun i => x * c i + comb cs xs i
  | _, _ => fun _ => 0
theorem det_zero {n r : Nat} {p q : List Col} (hn : p.length + 1 + q.length = n) {z : Col} (hz : ∀ i, z i = 0) : det n r (p ++ z :: q) = 0 := by
  have := lin_det (n := n) (r := r) p q z z z 0 0 hn (fun i => by rw [hz]; omega)
  rw [this]; omega
theorem det_comb {n r : Nat} {p q : List Col} (hn : p.length + 1 + q.length = n) : ∀ (cs : List Col) (xs : List Int), (∀ c, c ∈ cs → c ∈ p ∨ c ∈ q) → det n r (p ++ comb cs xs :: q) = 0
  | [], _, _ => det_zero hn fun i => rfl
  | _ :: _, [], _ => det_zero hn fun i => rfl
  | c :: cs, x :: xs, h => by
    rw [lin_det (n := n) (r := r) p q c (comb cs xs) (comb (c :: cs) (x :: xs)) x 1 hn (fun i => by simp [comb]), det_has hn (h c List.mem_cons_self), det_comb hn cs xs fun d hd => h d (List.mem_cons_of_mem _ hd)]; omega
theorem comb_app : ∀ {p q : List Col} {xs ys : List Int}, p.length = xs.length → ∀ i, comb (p ++ q) (xs ++ ys) i = comb p xs i + comb q ys i
  | [], q, [], ys, _, i => by simp [comb]
  | c :: p, q, x :: xs, ys, h, i => by
    simp only [List.cons_append, comb]
    rw [comb_app (by simpa using h)]; omega
/-- Cramer's rule. -/
theorem det_cramer {n r : Nat} {p q : List Col} {c : Col} {xs ys : List Int} {x : Int} (hn : p.length + 1 + q.length = n) (hx : p.length = xs.length) {z : Col} (hz : ∀ i, z i = comb (p ++ c :: q) (xs ++ x :: ys) i) : det n r (p ++ z :: q) = x * det n r (p ++ c :: q) := by
  have h1 := lin_det (n := n) (r := r) p q (comb p xs) (fun i => x * c i + comb q ys i) z 1 1 hn (fun i => by rw [hz, comb_app hx]; simp [comb])
  have h2 := lin_det (n := n) (r := r) p q c (comb q ys) (fun i => x * c i + comb q ys i) x 1 hn (fun i => by omega)
  rw [h1, h2, det_comb hn p xs fun c h => .inl h, det_comb hn q ys fun c h => .inr h]; omega

/-! ### Rows -/
/-- Only rows from r on, n of them. -/
theorem det_map {s : Col → Col} {d : Nat} : ∀ {n r : Nat} {cs : List Col}, (∀ c, c ∈ cs → ∀ i, r ≤ i → i < r + n → s c (i + d) = c i) → det n (r + d) (cs.map s) = det n r cs
  | 0, _, _, _ => rfl
  | n + 1, r, cs, h => by
    unfold det
    rw [altS_map, show r + d + 1 = r + 1 + d by omega]
    rw [altS_wcongr (v := fun c => c r) fun c hc => h c hc r (by omega) (by omega)]
    refine altS_congr fun l _ hm => ?_
    exact det_map fun c hc i h1 h2 => h c (hm c hc) i (by omega) (by omega)
/-- Two rows, one after the other. -/
theorem altS_two {w v : Col → Int} : ∀ {t : List Col} {f : List Col → Int}, altS w (altS v f) t = -(altS v (altS w f) t)
  | [], _ => by simp [altS]
  | c :: t, f => by
    have key : ∀ (w v : Col → Int), altS w (altS v f) (c :: t) = w c * altS v f t - v c * altS w f t + altS w (altS v fun l => f (c :: l)) t := by
      intro w v
      show w c * altS v f t - altS w (fun l => v c * f l - altS v (fun m => f (c :: m)) l) t = _
      have := altS_lin (w := w) (a := v c) (b := -1) (t := t) (f := f) (g := altS v fun m => f (c :: m))
      rw [show (fun l => v c * f l - altS v (fun m => f (c :: m)) l) = fun l => v c * f l + (-1) * altS v (fun m => f (c :: m)) l by funext l; omega, this]; omega
    rw [key w v, key v w, altS_two (w := w) (v := v)]; omega
/-- A column with the rows a and a + 1 exchanged. -/
def sw (a : Nat) (c : Col) : Col := fun j => if j = a then c (a + 1) else if j = a + 1 then c a else c j
theorem det_sw {a : Nat} : ∀ {n r : Nat} {cs : List Col}, r ≤ a → a + 1 < r + n → det n r (cs.map (sw a)) = -(det n r cs)
  | 0, _, _, _, _ => by omega
  | 1, _, _, _, _ => by omega
  | n + 2, r, cs, h1, h2 => by
    by_cases ha : r = a
    · subst ha
      show altS (fun c => c r) (altS (fun c => c (r + 1)) (det n (r + 2))) (cs.map (sw r)) = -(altS (fun c => c r) (altS (fun c => c (r + 1)) (det n (r + 2))) cs)
      rw [altS_map, altS_wcongr (w := fun c => sw r c r) (v := fun c => c (r + 1)) fun c _ => by simp [sw]]
      refine (altS_congr (g := altS (fun c => c r) (det n (r + 2))) fun l _ _ => ?_).trans altS_two
      rw [altS_map, altS_wcongr (w := fun c => sw r c (r + 1)) (v := fun c => c r) fun c _ => by simp [sw]]
      refine altS_congr fun m _ _ => ?_
      exact det_map (d := 0) fun c _ i h3 _ => by simp only [sw, Nat.add_zero]; rw [if_neg (by omega), if_neg (by omega)]
    · show altS (fun c => c r) (det (n + 1) (r + 1)) (cs.map (sw a)) = -(altS (fun c => c r) (det (n + 1) (r + 1)) cs)
      rw [altS_map, altS_wcongr (w := fun c => sw a c r) (v := fun c => c r) fun c _ => by simp only [sw]; rw [if_neg ha, if_neg (by omega)], ← altS_neg]
      refine altS_congr fun l _ _ => ?_
      exact det_sw (n := n + 1) (by omega) (by omega)
/-- Two equal rows. -/
theorem det_rows {n r : Nat} : ∀ {d : Nat} {cs : List Col}, (∀ c, c ∈ cs → c r = c (r + 1 + d)) → r + 1 + d < r + n → det n r cs = 0
  | 0, cs, h, hn => by
    have h1 := det_sw (a := r) (n := n) (r := r) (cs := cs) (Nat.le_refl _) (by omega)
    have h2 : cs.map (sw r) = cs := by
      rw [List.map_congr_left (g := id) fun c hc => ?_, List.map_id]
      have := h c hc
      funext j
      simp only [sw, id]
      by_cases h3 : j = r
      · rw [if_pos h3, h3]; exact this.symm
      · rw [if_neg h3]
        by_cases h4 : j = r + 1
        · rw [if_pos h4, h4]; exact this
        · rw [if_neg h4]
    rw [h2] at h1; omega
  | d + 1, cs, h, hn => by
    have h1 := det_sw (a := r + 1 + d) (n := n) (r := r) (cs := cs) (by omega) (by omega)
    have h2 := det_rows (n := n) (r := r) (d := d) (cs := cs.map (sw (r + 1 + d))) (fun c hc => by
      obtain ⟨x, hx, rfl⟩ := List.mem_map.1 hc
      have := h x hx
      simp only [sw]
      rw [if_neg (by omega), if_neg (by omega), if_pos trivial, this]; rfl) (by omega)
    omega
/-- The sum of a row's elements, each times the determinant with another column in its place. -/
def repS (w : Col → Int) (v : Col) : (List Col → Int) → List Col → Int
  | _, [] => 0
  | f, c :: t => w c * f (v :: t) + repS w v (fun l => f (c :: l)) t
/-- Moves of the last column. -/
def Mov (n : Nat) (f : List Col → Int) : Prop := ∀ (p q : List Col) (v : Col), p.length + 1 + q.length = n → f (p ++ (q ++ [v])) = (-1) ^ q.length * f (p ++ v :: q)
theorem mov_det {n r : Nat} : Mov n (det n r) := by
  intro p q
  induction q generalizing p with
  | nil => intro v _; simp
  | cons c q ih =>
    intro v hn
    have := ih (p ++ [c]) v (by simp at hn ⊢; omega)
    simp only [List.append_assoc, List.cons_append, List.nil_append] at this
    rw [List.cons_append, this, det_swap (by simp at hn ⊢; omega), List.length_cons, Int.pow_succ]; grind
theorem altS_last {w : Col → Int} {v : Col} : ∀ {t : List Col} {f : List Col → Int}, Mov t.length f → altS w f (t ++ [v]) = (-1) ^ t.length * (w v * f t - repS w v f t)
  | [], f, h => by simp [altS, repS]
  | c :: t, f, h => by
    have h1 := h [] t v (by simp; omega)
    have h2 := altS_last (w := w) (v := v) (t := t) (f := fun l => f (c :: l)) (fun p q u hn => h (c :: p) q u (by simp; omega))
    show w c * f (t ++ [v]) - altS w (fun l => f (c :: l)) (t ++ [v]) = _
    simp only [List.nil_append] at h1
    rw [h2, h1]
    simp only [repS, List.length_cons, Int.pow_succ]
    grind
def hat (i : Nat) (c : Col) : Col := fun j => match j with | 0 => c i | j + 1 => c j
theorem pm_one (n : Nat) : ((-1 : Int) ^ n) = 1 ∨ ((-1 : Int) ^ n) = -1 := by
  induction n with
  | zero => exact .inl rfl
  | succ n ih => rw [Int.pow_succ]; omega
/-- The counterpart of Cramer's rule: the sum of the columns, each times its determinant, is the given column times the determinant. -/
theorem det_adj {n : Nat} {cs : List Col} (hl : cs.length = n) (v : Col) {i : Nat} (hi : i < n) : repS (fun c => c i) v (det n 0) cs = v i * det n 0 cs := by
  have h0 : det (n + 1) 0 ((cs ++ [v]).map (hat i)) = 0 := det_rows (d := i) (fun c hc => by
    obtain ⟨x, _, rfl⟩ := List.mem_map.1 hc
    show x i = hat i x (0 + 1 + i)
    rw [show 0 + 1 + i = i + 1 by omega]; rfl) (by omega)
  have h1 : det (n + 1) 0 ((cs ++ [v]).map (hat i)) = altS (fun c => c i) (det n 0) (cs ++ [v]) := by
    unfold det
    rw [altS_map]
    refine altS_congr fun l _ _ => ?_
    exact det_map (d := 1) (r := 0) fun c _ j _ _ => rfl
  rw [h1, altS_last (by rw [hl]; exact mov_det)] at h0
  rcases pm_one cs.length with h | h <;> rw [h] at h0 <;> omega
end
section
set_option linter.unusedSimpArgs false
set_option linter.unusedVariables false
open Go Go.RowKit

def rI (b : List Int) (e : Int) : Unit ⊕ Int → Prop
  | .inl _ => e ∉ b
  | .inr y => 0 ≤ y ∧ e ∈ b
theorem f145_e {b : List Int} {e : Int} (hl : b.length ≤ 1000) : ∃ y, f145 b e = some y ∧ (0 ≤ y ↔ e ∈ b) := by
  unfold f145
  refine obndS_ex (R := rI b e) (Q := fun y => 0 ≤ y ↔ e ∈ b) (oloop_ex (R := rI b e) (fun i j => j = (i : Int) ∧ e ∉ b.take i) b.length ⟨rfl, by simp⟩ ?_ ?_) ?_ (fun y h => ⟨fun _ => h.2, fun _ => h.1⟩)
  · rintro i _ hi ⟨rfl, hn⟩
    have t1 : ilt (i : Int) ((b.length : Nat) : Int) = true := ilt_t (by omega)
    have t2 : ile 0 (i : Int) = true := ile_t (by omega)
    simp only [List.length_map, t1, t2, oite_t, ogrd_t, Int.toNat_natCast, get_i hi, obnd_s, w_succ (show i < 1000000 by omega), ieq_eq]
    by_cases he : e = b[i]
    · rw [decide_eq_true he]
      exact .inr ⟨_, rfl, by omega, he ▸ List.getElem_mem hi⟩
    · rw [decide_eq_false he]
      refine .inl ⟨_, rfl, rfl, ?_⟩
      rw [List.take_succ_eq_append_getElem hi, List.mem_append]
      rintro (h | h)
      · exact hn h
      · simp at h; exact he h
  · rintro _ ⟨rfl, hn⟩
    have t1 : ilt ((b.length : Nat) : Int) ((b.length : Nat) : Int) = false := ilt_f (by omega)
    simp only [List.length_map, t1, oite_f]
    exact ⟨_, rfl, by rw [List.take_length] at hn; exact hn⟩
  · intro _ h
    exact ⟨-1, rfl, ⟨fun h0 => absurd h0 (by omega), fun h2 => absurd h2 h⟩⟩
theorem f138_e {b : List Int} {e : Int} (hl : b.length ≤ 1000) : f138 b e = some (decide (e ∈ b)) := by
  unfold f138
  obtain ⟨y, h1, h2⟩ := f145_e (e := e) hl
  rw [h1, obnd_s]
  by_cases h : e ∈ b
  · rw [ile_t (h2.2 h), decide_eq_true h]
  · rw [ile_f (by have := mt h2.1 h; omega), decide_eq_false h]
structure sq (m : List (List Int)) (k : Nat) : Prop where
  len : m.length = k
  row : ∀ r, r ∈ m → r.length = k
  few : k ≤ 5
/-- A matrix's columns. -/
def mcol (m : List (List Int)) (j : Nat) : Col := fun i => (m.getD i []).getD j 0
/-- The product along an order. -/
def oprd (m : List (List Int)) : Nat → List Int → Int
  | _, [] => 1
  | r, x :: t => mcol m x.toNat r * oprd m (r + 1) t
theorem prd_app {m : List (List Int)} {x : Int} : ∀ {b : List Int} {r : Nat}, oprd m r (b ++ [x]) = oprd m r b * mcol m x.toNat (r + b.length)
  | [], r => by simp [oprd]
  | c :: b, r => by
    show mcol m c.toNat r * oprd m (r + 1) (b ++ [x]) = mcol m c.toNat r * oprd m (r + 1) b * _
    rw [prd_app, show r + 1 + b.length = r + (c :: b).length by simp; omega, Int.mul_assoc]
theorem stepD_e {m : List (List Int)} {k : Nat} (hm : sq m k) {o : List Int} (ho : o.length = k) (hi : ∀ x, x ∈ o → 0 ≤ x ∧ x < k) (sg s : Int) : stepD m o sg s = some (IntKind.i64.wrap (s + sg * oprd m 0 o)) := by
  have hk := hm.few
  unfold stepD
  refine ex_eq (obnd_ex (R := fun r => Cg r (sg * oprd m 0 o)) (oloop_ex (fun i e => e.2 = (i : Int) ∧ Cg e.1 (sg * oprd m 0 (o.take i))) k ⟨rfl, .of (by simp [oprd])⟩ ?_ ?_) fun p hp => ⟨_, rfl, ?_⟩)
  · rintro i ⟨p, j⟩ hik ⟨hj, hp⟩
    have hj : j = (i : Int) := hj
    have hp : Cg p (sg * oprd m 0 (o.take i)) := hp
    subst hj
    have h1 : i < o.length := by omega
    have h2 : i < m.length := by rw [hm.len]; exact hik
    have h3 := hi _ (List.getElem_mem h1)
    have h4 := hm.row _ (List.getElem_mem h2)
    have h5 : (o[i]).toNat < (m[i]).length := by omega
    have t1 : ilt (i : Int) ((o.length : Nat) : Int) = true := ilt_t (by omega)
    have t2 : ile 0 (i : Int) = true := ile_t (by omega)
    have t3 : ile 0 o[i] = true := ile_t h3.1
    simp only [List.length_map, t1, t2, t3, oite_t, ogrd_t, Int.toNat_natCast, get_i h1, get_i h2, get_i h5, obnd_s, w_succ (show i < 1000000 by omega)]
    refine .inl ⟨_, rfl, rfl, (Cg.wrap _).trans ((hp.mul _).trans (.of ?_))⟩
    rw [List.take_succ_eq_append_getElem h1, prd_app, Int.mul_assoc, Nat.zero_add, List.length_take, Nat.min_eq_left (by omega)]
    simp only [mcol, List.getD_eq_getElem?_getD, get_i h2, Option.getD_some, get_i h5]
  · rintro ⟨p, j⟩ ⟨hj, hp⟩
    have hj : j = (k : Int) := hj
    subst hj
    have t1 : ilt (k : Int) ((o.length : Nat) : Int) = false := ilt_f (by omega)
    simp only [List.length_map, t1, oite_f]
    refine ⟨_, rfl, ?_⟩
    rw [List.take_of_length_le (by omega)] at hp; exact hp
  · exact ((Cg.wrap _).trans (Cg.rfl.add hp)).eq (wrap_r _)
/-- The columns from i on, n of them, that are not in a beginning. -/
def av (b : List Int) : Nat → Nat → List Nat
  | _, 0 => []
  | i, n + 1 => if (i : Int) ∈ b then av b (i + 1) n else i :: av b (i + 1) n
theorem av_app {b : List Int} : ∀ {n m i : Nat}, av b i (n + m) = av b i n ++ av b (i + n) m
  | 0, m, i => by simp [av]
  | n + 1, m, i => by
    rw [show n + 1 + m = (n + m) + 1 by omega]
    simp only [av]
    rw [av_app (n := n) (m := m) (i := i + 1), show i + 1 + n = i + (n + 1) by omega]
    split <;> rfl
theorem av_out {b : List Int} {j : Nat} : ∀ {n i : Nat}, j < i ∨ i + n ≤ j → av (b ++ [(j : Int)]) i n = av b i n
  | 0, _, _ => rfl
  | n + 1, i, h => by
    simp only [av]
    rw [av_out (by omega)]
    have : ((i : Int) ∈ b ++ [(j : Int)]) = ((i : Int) ∈ b) := by
      simp only [List.mem_append, List.mem_singleton, eq_iff_iff]
      constructor
      · rintro (h | h)
        · exact h
        · omega
      · exact .inl
    simp only [this]
theorem av_push {b : List Int} {j k : Nat} (h : j < k) : av (b ++ [(j : Int)]) 0 k = av b 0 j ++ av b (j + 1) (k - (j + 1)) := by
  rw [show k = j + (1 + (k - (j + 1))) by omega, av_app, av_app, av_out (by omega), av_out (i := 0 + j + 1) (by omega)]
  rw [show av (b ++ [(j : Int)]) (0 + j) 1 = [] by simp [av], Nat.zero_add, List.nil_append]
  rw [show j + (1 + (k - (j + 1))) - (j + 1) = k - (j + 1) by omega]
/-- What is added from the column i on. -/
noncomputable def later (m : List (List Int)) (b : List Int) (k i : Nat) : Int := altS (fun c => c b.length) (fun l => det (k - (b.length + 1)) (b.length + 1) ((av b 0 i).map (mcol m) ++ l)) ((av b i (k - i)).map (mcol m))
theorem later_in {m : List (List Int)} {b : List Int} {k i : Nat} (h : i < k) (hi : (i : Int) ∈ b) : later m b k i = later m b k (i + 1) := by
  unfold later
  have h1 : av b i (k - i) = av b (i + 1) (k - (i + 1)) := by
    rw [show k - i = (k - (i + 1)) + 1 by omega]
    simp only [av]; rw [if_pos hi]
  have h2 : av b 0 (i + 1) = av b 0 i := by
    rw [av_app]; simp [av, hi]
  rw [h1, h2]
theorem later_out {m : List (List Int)} {b : List Int} {k i : Nat} (h : i < k) (hi : (i : Int) ∉ b) : later m b k i = mcol m i b.length * det (k - (b.length + 1)) (b.length + 1) ((av (b ++ [(i : Int)]) 0 k).map (mcol m)) - later m b k (i + 1) := by
  unfold later
  have h1 : av b i (k - i) = i :: av b (i + 1) (k - (i + 1)) := by
    rw [show k - i = (k - (i + 1)) + 1 by omega]
    simp only [av]; rw [if_neg hi]
  have h2 : av b 0 (i + 1) = av b 0 i ++ [i] := by
    rw [av_app]; simp [av, hi]
  rw [h1, h2, av_push h, List.map_cons, List.map_append, List.map_append]
  simp only [altS, List.map_cons, List.map_nil, List.append_assoc, List.cons_append, List.nil_append]
theorem later_end {m : List (List Int)} {b : List Int} {k : Nat} : later m b k k = 0 := by
  unfold later; rw [Nat.sub_self]; rfl
theorem later_0 {m : List (List Int)} {b : List Int} {k : Nat} (h : b.length < k) : later m b k 0 = det (k - b.length) b.length ((av b 0 k).map (mcol m)) := by
  unfold later
  rw [show k - b.length = (k - (b.length + 1)) + 1 by omega]
  simp only [det, av, List.map_nil, List.nil_append, Nat.sub_zero]
theorem d125n_e {m : List (List Int)} {k : Nat} (hm : sq m k) : ∀ (n : Nat) (b : List Int) (g s : Int), b ≠ [] → b.length ≤ k → k < n + b.length → (∀ x, x ∈ b → 0 ≤ x ∧ x < k) → i64 s → (g = 1 ∨ g = -1) → d125n m n b (k : Int) g s = some (IntKind.i64.wrap (s + g * (oprd m 0 b * det (k - b.length) b.length ((av b 0 k).map (mcol m)))))
  | 0, b, _, _, _, h1, h2, _, _, _ => by omega
  | n + 1, b, g, s, hb, h1, h2, h3, hs, hg => by
    have hk := hm.few
    show r125 (stepD m) (d125n m n) b (k : Int) g s = _
    unfold r125
    simp only [List.length_map, ieq_eq]
    by_cases hbk : b.length = k
    · rw [decide_eq_true (show (b.length : Int) = (k : Int) by omega), oite_t, stepD_e hm hbk h3]
      simp only [obnd_s, hbk, Nat.sub_self, det, Int.mul_one]
    · rw [decide_eq_false (show ¬ (b.length : Int) = (k : Int) by omega), oite_f, ← later_0 (by omega)]
      refine ex_eq (obnd_ex (R := fun r => r = IntKind.i64.wrap (s + g * (oprd m 0 b * later m b k 0))) (oloop_ex (fun i e => e.2.1 = (i : Int) ∧ i64 e.2.2 ∧ (e.1 = 1 ∨ e.1 = -1) ∧ Cg (e.2.2 + e.1 * (oprd m 0 b * later m b k i)) (s + g * (oprd m 0 b * later m b k 0))) k ⟨rfl, hs, hg, .rfl⟩ ?_ ?_) fun y hy => ⟨y, rfl, hy⟩)
      · rintro i ⟨g', j, s1⟩ hik ⟨hj, hs1, hg1, hc⟩
        have hj : j = (i : Int) := hj
        subst hj
        have hs1 : i64 s1 := hs1
        have hg1 : g' = 1 ∨ g' = -1 := hg1
        have hc : Cg (s1 + g' * (oprd m 0 b * later m b k i)) (s + g * (oprd m 0 b * later m b k 0)) := hc
        have t1 : ilt (i : Int) (k : Int) = true := ilt_t (by omega)
        simp only [t1, oite_t, f138_e (b := b) (e := (i : Int)) (by omega), obnd_s, w_succ (show i < 1000000 by omega)]
        by_cases hin : (i : Int) ∈ b
        · rw [decide_eq_true hin, oite_t]
          exact .inl ⟨_, rfl, rfl, hs1, hg1, by rw [← later_in hik hin]; exact hc⟩
        · rw [decide_eq_false hin, oite_f]
          obtain ⟨a, r, rfl⟩ : ∃ a r, b = a :: r := by
            cases b with
            | nil => exact absurd rfl hb
            | cons a r => exact ⟨a, r, rfl⟩
          have h73 : f73 (a :: r) = some (a :: r) := by
            show (if fits 8 (a :: r).length = true then some (a :: r) else none) = _
            rw [if_pos (fits_t (by omega) (by omega))]
          rw [h73, obnd_s, ogrd_fits (by simp at h1 ⊢; omega) (by simp at h1 ⊢; omega)]
          rw [d125n_e hm n ((a :: r) ++ [(i : Int)]) g' s1 (by simp) (by simp at h1 hbk ⊢; omega) (by simp at h2 ⊢; omega) (fun x hx => by
            rw [List.mem_append] at hx
            rcases hx with hx | hx
            · exact h3 x hx
            · simp at hx; subst hx; omega) hs1 hg1, obnd_s]
          refine .inl ⟨_, rfl, rfl, wrap_r _, ?_, ?_⟩
          · rcases hg1 with rfl | rfl
            · exact .inr (by rw [wr (by omega) (by omega)]; omega)
            · exact .inl (by rw [wr (by omega) (by omega)]; omega)
          · have hw : IntKind.i64.wrap (0 - g') = -g' := by
              rcases hg1 with rfl | rfl <;> rw [wr (by omega) (by omega)] <;> omega
            show Cg (IntKind.i64.wrap _ + IntKind.i64.wrap (0 - g') * _) _
            rw [hw]
            refine (((Cg.wrap _).add .rfl).trans (.of ?_)).trans hc
            rw [later_out hik hin, prd_app, List.length_append, Nat.zero_add]
            simp only [List.length_cons, List.length_nil, Int.toNat_natCast]
            grind
      · rintro ⟨g', j, s1⟩ ⟨hj, hs1, hg1, hc⟩
        have hj : j = (k : Int) := hj
        subst hj
        have t1 : ilt (k : Int) (k : Int) = false := ilt_f (by omega)
        simp only [t1, oite_f]
        refine ⟨_, rfl, ?_⟩
        rw [later_end] at hc
        refine Cg.eq ?_ hs1
        refine (Cg.of ?_).trans hc
        show s1 = s1 + g' * (oprd m 0 b * 0)
        rw [Int.mul_zero, Int.mul_zero]; omega
/-- The columns of a matrix. -/
def cols (m : List (List Int)) (k : Nat) : List Col := (List.range k).map (mcol m)
theorem av_nil : ∀ {n i : Nat}, av [] i n = (List.range n).map (· + i)
  | 0, _ => rfl
  | n + 1, i => by
    simp only [av, List.not_mem_nil, if_false]
    rw [av_nil, List.range_succ_eq_map, List.map_cons, List.map_map, Nat.zero_add]
    refine congrArg _ (List.map_congr_left fun j _ => ?_)
    simp only [Function.comp]; omega
theorem av_all {k : Nat} : av [] 0 k = List.range k := by
  rw [av_nil]; simp
theorem f96_e {m : List (List Int)} {k : Nat} (hm : sq m k) : f96 m = some (IntKind.i64.wrap (det k 0 (cols m k))) := by
  have hk := hm.few
  have hl := hm.len
  unfold f96
  simp only [List.length_map, hl, ieq_eq]
  by_cases h0 : k = 0
  · rw [decide_eq_true (show (0 : Int) = (k : Int) by omega), oite_t, stepD_e hm (o := []) (by simp [h0]) (by intro x hx; cases hx)]
    subst h0
    simp [obnd_s, oprd, det]
  · rw [decide_eq_false (show ¬ (0 : Int) = (k : Int) by omega), oite_f]
    have e0 : later m [] k 0 = det k 0 (cols m k) := by
      rw [later_0 (by simp; omega)]
      simp only [List.length_nil, Nat.sub_zero, av_all, cols]
    rw [← e0]
    refine ex_eq (obnd_ex (R := fun r => r = IntKind.i64.wrap (later m [] k 0)) ?_ fun y hy => ⟨y, rfl, hy⟩)
    refine obnd_ex (R := fun r => r = IntKind.i64.wrap (later m [] k 0)) (oloop_ex (fun i e => e.2.1 = (i : Int) ∧ i64 e.2.2 ∧ (e.1 = 1 ∨ e.1 = -1) ∧ Cg (e.2.2 + e.1 * later m [] k i) (later m [] k 0)) k ⟨rfl, ⟨by show -9223372036854775808 ≤ (0 : Int); omega, by show (0 : Int) < 9223372036854775808; omega⟩, .inl rfl, .of ?_⟩ ?_ ?_) fun y hy => ⟨y, rfl, hy⟩
    · show 0 + 1 * later m [] k 0 = _
      omega
    · rintro i ⟨g', j, s1⟩ hik ⟨hj, hs1, hg1, hc⟩
      have hj : j = (i : Int) := hj
      subst hj
      have hs1 : i64 s1 := hs1
      have hg1 : g' = 1 ∨ g' = -1 := hg1
      have hc : Cg (s1 + g' * later m [] k i) (later m [] k 0) := hc
      have t1 : ilt (i : Int) (k : Int) = true := ilt_t (by omega)
      simp only [t1, oite_t, f138_e (b := []) (e := (i : Int)) (by simp), obnd_s, w_succ (show i < 1000000 by omega)]
      rw [decide_eq_false (by simp), oite_f]
      unfold d125
      rw [d125n_e hm ((k : Int).toNat + 1) [(i : Int)] g' s1 (by simp) (by simp; omega) (by simp; omega) (fun x hx => by simp at hx; subst hx; omega) hs1 hg1, obnd_s]
      have hw : IntKind.i64.wrap (0 - g') = -g' := by
        rcases hg1 with rfl | rfl <;> rw [wr (by omega) (by omega)] <;> omega
      refine .inl ⟨_, rfl, rfl, wrap_r _, ?_, ?_⟩
      · show IntKind.i64.wrap (0 - g') = 1 ∨ IntKind.i64.wrap (0 - g') = -1
        rw [hw]; omega
      · show Cg (IntKind.i64.wrap _ + IntKind.i64.wrap (0 - g') * _) _
        rw [hw]
        refine (((Cg.wrap _).add .rfl).trans (.of ?_)).trans hc
        rw [later_out hik (by simp)]
        simp only [oprd, List.nil_append, List.length_nil, List.length_cons, Int.toNat_natCast, Nat.zero_add, Int.mul_one]
        grind
    · rintro ⟨g', j, s1⟩ ⟨hj, hs1, hg1, hc⟩
      have hj : j = (k : Int) := hj
      subst hj
      have t1 : ilt (k : Int) (k : Int) = false := ilt_f (by omega)
      simp only [t1, oite_f]
      refine ⟨_, rfl, ?_⟩
      rw [later_end] at hc
      refine Cg.eq ?_ hs1
      refine (Cg.of ?_).trans hc
      show s1 = s1 + g' * 0
      omega
end
section
set_option linter.unusedSimpArgs false
set_option linter.unusedVariables false
open Go Go.RowKit

theorem gcd_e : ∀ (n : Nat) (a b : Int), b.natAbs ≤ n → a.natAbs ≤ 9223372036854775807 → b.natAbs ≤ 9223372036854775807 → ∃ r, oloop (τ := Int × Int) (ρ := Int) (fun e9 =>
     oite ((!(ieq e9.2 (0 : Int)))) (
      ogrd (!((ieq e9.2 0))) (
      some (.inl (e9.2, (e9.1.tmod e9.2)))
      )
       ) (
      some (.inr (e9.1))
       )
      ) (a, b) = some r ∧ (r.natAbs = Nat.gcd a.natAbs b.natAbs ∧ r.natAbs ≤ 9223372036854775807) := by
  intro n
  induction n with
  | zero =>
    intro a b hb ha hb2
    have : b = 0 := by omega
    subst this
    exact ⟨a, oloop_done rfl, by simp, ha⟩
  | succ n ih =>
    intro a b hb ha hb2
    by_cases h0 : b = 0
    · subst h0
      exact ⟨a, oloop_done rfl, by simp, ha⟩
    · have h1 : (a.tmod b).natAbs < b.natAbs := by
        rw [Int.natAbs_tmod]
        exact Nat.mod_lt _ (by omega)
      obtain ⟨r, h2, h3, h4⟩ := ih b (a.tmod b) (by omega) hb2 (by omega)
      refine ⟨r, ?_, ?_, h4⟩
      · rw [oloop_step (e' := (b, a.tmod b)) ?_, h2]
        simp only [ieq_eq, decide_eq_false h0, Bool.not_false, oite_t, ogrd_t]
      · rw [h3, Int.natAbs_tmod, Nat.gcd_comm, ← Nat.gcd_rec, Nat.gcd_comm]
def gc (d p0 p1 p2 p3 p4 : Int) : Nat := Nat.gcd (Nat.gcd (Nat.gcd (Nat.gcd (Nat.gcd d.natAbs p0.natAbs) p1.natAbs) p2.natAbs) p3.natAbs) p4.natAbs
theorem f97_e {d p0 p1 p2 p3 p4 : Int} (hd : d.natAbs ≤ 9223372036854775807) (h0 : p0.natAbs ≤ 9223372036854775807) (h1 : p1.natAbs ≤ 9223372036854775807) (h2 : p2.natAbs ≤ 9223372036854775807) (h3 : p3.natAbs ≤ 9223372036854775807) (h4 : p4.natAbs ≤ 9223372036854775807) : f97 d p0 p1 p2 p3 p4 = some ((gc d p0 p1 p2 p3 p4 : Nat) : Int) := by
  unfold f97
  refine ex_eq (obnd_ex (R := fun r => r.natAbs = gc d p0 p1 p2 p3 p4 ∧ r.natAbs ≤ 9223372036854775807) ?_ fun r hr => ?_)
  · refine obnd_ex (gcd_e _ d p0 (Nat.le_refl _) hd h0) fun r ⟨e1, i1⟩ => ?_
    refine obnd_ex (gcd_e _ r p1 (Nat.le_refl _) i1 h1) fun r2 ⟨e2, i2⟩ => ?_
    refine obnd_ex (gcd_e _ r2 p2 (Nat.le_refl _) i2 h2) fun r3 ⟨e3, i3⟩ => ?_
    refine obnd_ex (gcd_e _ r3 p3 (Nat.le_refl _) i3 h3) fun r4 ⟨e4, i4⟩ => ?_
    refine obnd_ex (gcd_e _ r4 p4 (Nat.le_refl _) i4 h4) fun r5 ⟨e5, i5⟩ => ?_
    exact ⟨r5, rfl, by rw [e5, e4, e3, e2, e1]; rfl, i5⟩
  · rw [f100_e, obnd_s]
    refine ⟨_, rfl, ?_⟩
    unfold ab
    rw [wr (by omega) (by omega), ← hr.1]
    omega
end
section
set_option linter.unusedSimpArgs false
set_option linter.unusedVariables false
open Go Go.RowKit

theorem blt_t {a b : Nat} (h : a < b) : Nat.blt a b = true := Nat.blt_eq.mpr h
theorem beq_t {a b : Nat} (h : a = b) : Nat.beq a b = true := by subst h; exact Nat.beq_refl a

/-! ### The chosen terms -/
/-- Whether a number has a bit. -/
def hasB (s : Int) (t : Nat) : Bool := ieq (IntKind.i64.wrap (BitVec.ofInt (IntKind.bits .i64) (s.fdiv (2 ^ (min ((t : Int)).toNat (IntKind.bits .i64)))) &&& BitVec.ofInt (IntKind.bits .i64) (1 : Int)).toNat) (1 : Int)
theorem f114_e (s : Int) (t : Nat) : f114 s (t : Int) = some (hasB s t) := by
  unfold f114
  rw [ilt_f (by omega)]; rfl
def chN (s : Int) : List Nat := (List.range 5).filter (hasB s)
theorem chN_len (s : Int) : (chN s).length ≤ 5 := by
  have := List.length_filter_le (hasB s) (List.range 5)
  simpa [chN] using this
theorem chN_lt {s : Int} {t : Nat} (h : t ∈ chN s) : t < 5 := List.mem_range.1 (List.mem_filter.1 h).1
theorem chN_has {s : Int} {t : Nat} : t ∈ chN s ↔ t < 5 ∧ hasB s t = true := by simp [chN]
theorem chN_nd (s : Int) : (chN s).Nodup := List.nodup_range.filter _
theorem f95_e (s : Int) : f95 s = some ((chN s).map fun n : Nat => (n : Int)) := by
  unfold f95
  rw [oloop_all (fun i => (((List.range i).filter (hasB s)).map (fun n : Nat => (n : Int)), (i : Int))) 5 (r := (chN s).map (fun n : Nat => (n : Int))) (e0 := (([] : List Int), (0 : Int))) rfl ?_ ?_]; rfl
  · intro i hi
    have hl := List.length_filter_le (hasB s) (List.range i)
    rw [List.length_range] at hl
    simp only [ilt_t (show (i : Int) < 5 by omega), oite_t, f114_e, obnd_s, w_succ (show i < 1000000 by omega)]
    rw [ogrd_fits (by simp; omega) (by simp; omega), List.range_succ, List.filter_append]
    cases h : hasB s i with
    | true => rw [oite_t]; simp [h]
    | false => rw [oite_f]; simp [h]
  · rw [ilt_f (by omega)]; rfl

/-! ### The matrix -/
def gram (l : List Rd) (a b : Nat) : Nat → Int
  | 0 => 0
  | j + 1 => gram l a b j + tm (gR l j) a * tm (gR l j) b
def rgt (l : List Rd) (a : Nat) : Nat → Int
  | 0 => 0
  | j + 1 => rgt l a j + tm (gR l j) a * (gR l j).2.2
theorem mul4 {a t : Int} (ha : -100 ≤ a ∧ a ≤ 100) (ht : -100 ≤ t ∧ t ≤ 100) : -10000 ≤ a * t ∧ a * t ≤ 10000 := mulb ha ht
theorem mul5 {a t : Int} (ha : -100 ≤ a ∧ a ≤ 100) (ht : -2000 ≤ t ∧ t ≤ 2000) : -200000 ≤ a * t ∧ a * t ≤ 200000 := mulb ha ht
theorem gram_b {l : List Rd} (hx : ∀ j, j < l.length → rdP (gR l j)) (a b : Nat) : ∀ j : Nat, j ≤ l.length → -(10000 * (j : Int)) ≤ gram l a b j ∧ gram l a b j ≤ 10000 * (j : Int)
  | 0, _ => by simp [gram]
  | j + 1, h => by
    have h1 := gram_b hx a b j (by omega)
    have h2 := mul4 (tmb (hx j (by omega)) a) (tmb (hx j (by omega)) b)
    simp only [gram]; omega
theorem rgt_b {l : List Rd} (hx : ∀ j, j < l.length → rdP (gR l j)) (a : Nat) : ∀ j : Nat, j ≤ l.length → -(200000 * (j : Int)) ≤ rgt l a j ∧ rgt l a j ≤ 200000 * (j : Int)
  | 0, _ => by simp [rgt]
  | j + 1, h => by
    have h1 := rgt_b hx a j (by omega)
    have h2 := mul5 (tmb (hx j (by omega)) a) (hx j (by omega)).2.2
    simp only [rgt]; omega
theorem tm_get {x : Rd} {k : Nat} (hk : k < 5) : ([1, x.2.1, (sea x.1).1, (sea x.1).2, x.1 / 360] : List Int)[(0 + ((k : Int)).toNat * 1)]? = some (tm x k) := by
  match k, hk with
  | 0, _ => rfl
  | 1, _ => rfl
  | 2, _ => rfl
  | 3, _ => rfl
  | 4, _ => rfl
section
variable (l : List Rd) (s : Int)
/-- The term of a row. -/
def chI (q : Nat) : Nat := (chN s).getD q 0
def gN : Nat := (chN s).length
def gMat : List (List Int) := tab (gN s) fun i => tab (gN s) fun k => gram l (chI s i) (chI s k) l.length
def gRgt : List Int := tab (gN s) fun i => rgt l (chI s i) l.length
/-- The matrix with the right side in place of a column. -/
def gOwn (k : Nat) : List (List Int) := tab (gN s) fun i => tab (gN s) fun q => if q = k then rgt l (chI s i) l.length else gram l (chI s i) (chI s q) l.length
def mS (i : Nat) : List (List Int) := tab (gN s) fun q => if q < i then tab (gN s) (fun k => gram l (chI s q) (chI s k) l.length) else []
def rS (i j : Nat) : List Int := tab (gN s) fun q => if q < i then rgt l (chI s q) l.length else if q = i then rgt l (chI s q) j else 0
def wS (i j k : Nat) : List Int := tab (gN s) fun q => gram l (chI s i) (chI s q) (if q < k then j + 1 else j)
theorem chI_get {q : Nat} (h : q < gN s) : ((chN s).map fun n : Nat => (n : Int))[q]? = some ((chI s q : Nat) : Int) := by
  unfold gN at h
  rw [List.getElem?_map, get_i h]
  simp [chI, h]
theorem chI_lt {q : Nat} (h : q < gN s) : chI s q < 5 := by
  unfold gN at h
  apply chN_lt (s := s)
  simp [chI, h]
theorem gN_le : gN s ≤ 5 := chN_len s
variable {l s}
theorem wS_s {i j k : Nat} (hk : k < gN s) : (wS l s i j k).set k (gram l (chI s i) (chI s k) j + tm (gR l j) (chI s i) * tm (gR l j) (chI s k)) = wS l s i j (k + 1) := by
  unfold wS
  rw [tab_set]
  refine tab_congr fun q hq => ?_
  by_cases h : q = k
  · subst h; rw [if_pos rfl, if_pos (by omega)]; rfl
  · rw [if_neg h]
    by_cases h2 : q < k
    · rw [if_pos h2, if_pos (by omega)]
    · rw [if_neg h2, if_neg (by omega)]
theorem rS_s {i j : Nat} (hi : i < gN s) : (rS l s i j).set i (rgt l (chI s i) j + tm (gR l j) (chI s i) * (gR l j).2.2) = rS l s i (j + 1) := by
  unfold rS
  rw [tab_set]
  refine tab_congr fun q hq => ?_
  by_cases h : q = i
  · subst h; rw [if_pos rfl, if_neg (by omega), if_pos rfl]; rfl
  · rw [if_neg h]
    by_cases h2 : q < i
    · rw [if_pos h2, if_pos h2]
    · rw [if_neg h2, if_neg h2, if_neg h, if_neg h]
theorem mS_s {i : Nat} (hi : i < gN s) : (mS l s i).set i (wS l s i l.length 0) = mS l s (i + 1) := by
  unfold mS
  rw [tab_set]
  refine tab_congr fun q hq => ?_
  by_cases h : q = i
  · subst h; rw [if_pos rfl, if_pos (by omega)]; unfold wS; rfl
  · rw [if_neg h]
    by_cases h2 : q < i
    · rw [if_pos h2, if_pos (by omega)]
    · rw [if_neg h2, if_neg (by omega)]
theorem mS_n : mS l s (gN s) = gMat l s := by
  unfold mS gMat
  exact tab_congr fun q hq => by rw [if_pos hq]
theorem rS_n {j : Nat} : rS l s (gN s) j = gRgt l s := by
  unfold rS gRgt
  exact tab_congr fun q hq => by rw [if_pos hq]
theorem rS_next {i : Nat} : rS l s i l.length = rS l s (i + 1) 0 := by
  unfold rS
  refine tab_congr fun q hq => ?_
  by_cases h : q < i
  · rw [if_pos h, if_pos (by omega)]
  · rw [if_neg h]
    by_cases h2 : q = i
    · rw [if_pos h2, if_pos (by omega)]
    · rw [if_neg h2, if_neg (by omega)]; split <;> rfl
theorem wS_next {i j : Nat} : wS l s i j (gN s) = wS l s i (j + 1) 0 := by
  unfold wS
  exact tab_congr fun q hq => by rw [if_pos hq, if_neg (by omega)]
theorem wS_get {i j k q : Nat} (h : q < gN s) : (wS l s i j k)[q]? = some (gram l (chI s i) (chI s q) (if q < k then j + 1 else j)) := tab_get h
theorem rS_get {i j : Nat} (h : i < gN s) : (rS l s i j)[i]? = some (rgt l (chI s i) j) := by
  unfold rS; rw [tab_get h, if_neg (by omega), if_pos rfl]
theorem wS_len {i j k : Nat} : (wS l s i j k).length = gN s := tab_len
theorem rS_len {i j : Nat} : (rS l s i j).length = gN s := tab_len
theorem mS_len {i : Nat} : (mS l s i).length = gN s := tab_len
/-- The matrix with some rows changed. -/
def oS (l : List Rd) (s : Int) (k i : Nat) : List (List Int) := tab (gN s) fun q => if q < i then tab (gN s) (fun p => if p = k then rgt l (chI s q) l.length else gram l (chI s q) (chI s p) l.length) else []
theorem oS_len {k i : Nat} : (oS l s k i).length = gN s := tab_len
theorem oS_s {k i : Nat} (hi : i < gN s) : (oS l s k i).set i ((tab (gN s) fun p => gram l (chI s i) (chI s p) l.length).set k (rgt l (chI s i) l.length)) = oS l s k (i + 1) := by
  unfold oS
  rw [tab_set, tab_set]
  refine tab_congr fun q hq => ?_
  by_cases h : q = i
  · subst h; rw [if_pos rfl, if_pos (by omega)]
  · rw [if_neg h]
    by_cases h2 : q < i
    · rw [if_pos h2, if_pos (by omega)]
    · rw [if_neg h2, if_neg (by omega)]
theorem oS_n {k : Nat} : oS l s k (gN s) = gOwn l s k := by
  unfold oS gOwn
  exact tab_congr fun q hq => by rw [if_pos hq]
end
theorem sq_tab {n : Nat} (hn : n ≤ 5) {F : Nat → Nat → Int} : sq (tab n fun i => tab n (F i)) n :=
  ⟨tab_len, fun r hr => by
    simp only [tab, List.mem_map] at hr
    obtain ⟨i, _, rfl⟩ := hr
    simp, hn⟩
/-- The determinants, in the machine's numbers. -/
noncomputable def dD (l : List Rd) (s : Int) : Int := IntKind.i64.wrap (det (gN s) 0 (cols (gMat l s) (gN s)))
noncomputable def dO (l : List Rd) (s : Int) (k : Nat) : Int := IntKind.i64.wrap (det (gN s) 0 (cols (gOwn l s k) (gN s)))
/-- The parts, after some columns. -/
noncomputable def pS (l : List Rd) (s : Int) : Nat → Nat → Int
  | 0, _ => 0
  | k + 1, t => if chI s k = t then dO l s k else pS l s k t
/-- The end of FitOf. -/
noncomputable def fitR (d p0 p1 p2 p3 p4 : Int) : Int × Int × Int × Int × Int × Int × Int :=
  if d = 0 then (0, 0, 0, 0, 0, 0, 12) else
  if fitE (d / gc d p0 p1 p2 p3 p4) (p0 / gc d p0 p1 p2 p3 p4) (p1 / gc d p0 p1 p2 p3 p4) (p2 / gc d p0 p1 p2 p3 p4) (p3 / gc d p0 p1 p2 p3 p4) (p4 / gc d p0 p1 p2 p3 p4) ≠ 0 then (0, 0, 0, 0, 0, 0, 8) else
  (d / gc d p0 p1 p2 p3 p4, p0 / gc d p0 p1 p2 p3 p4, p1 / gc d p0 p1 p2 p3 p4, p2 / gc d p0 p1 p2 p3 p4, p3 / gc d p0 p1 p2 p3 p4, p4 / gc d p0 p1 p2 p3 p4, 0)
theorem tdivE {a : Int} {g : Nat} (h : (g : Int) ∣ a) : a.tdiv g = a / g := by
  obtain ⟨c, rfl⟩ := h
  by_cases hg : g = 0
  · subst hg; simp
  · rw [Int.mul_tdiv_cancel_left _ (by omega), Int.mul_ediv_cancel_left _ (by omega)]
end
section
set_option linter.unusedSimpArgs false
set_option linter.unusedVariables false
open Go Go.RowKit

theorem dvd_gc {d p0 p1 p2 p3 p4 : Int} : ((gc d p0 p1 p2 p3 p4 : Nat) : Int) ∣ d ∧ ((gc d p0 p1 p2 p3 p4 : Nat) : Int) ∣ p0 ∧ ((gc d p0 p1 p2 p3 p4 : Nat) : Int) ∣ p1 ∧ ((gc d p0 p1 p2 p3 p4 : Nat) : Int) ∣ p2 ∧ ((gc d p0 p1 p2 p3 p4 : Nat) : Int) ∣ p3 ∧ ((gc d p0 p1 p2 p3 p4 : Nat) : Int) ∣ p4 := by
  unfold gc
  have a5 := Nat.gcd_dvd (Nat.gcd (Nat.gcd (Nat.gcd (Nat.gcd d.natAbs p0.natAbs) p1.natAbs) p2.natAbs) p3.natAbs) p4.natAbs
  have a4 := Nat.gcd_dvd (Nat.gcd (Nat.gcd (Nat.gcd d.natAbs p0.natAbs) p1.natAbs) p2.natAbs) p3.natAbs
  have a3 := Nat.gcd_dvd (Nat.gcd (Nat.gcd d.natAbs p0.natAbs) p1.natAbs) p2.natAbs
  have a2 := Nat.gcd_dvd (Nat.gcd d.natAbs p0.natAbs) p1.natAbs
  have a1 := Nat.gcd_dvd d.natAbs p0.natAbs
  have b4 := Nat.dvd_trans a5.1 a4.1
  have b3 := Nat.dvd_trans b4 a3.1
  have b2 := Nat.dvd_trans b3 a2.1
  have b1 := Nat.dvd_trans b2 a1.1
  simp only [Int.ofNat_dvd_left]
  exact ⟨b1, Nat.dvd_trans b2 a1.2, Nat.dvd_trans b3 a2.2, Nat.dvd_trans b4 a3.2, Nat.dvd_trans a5.1 a4.2, a5.2⟩
theorem gc_pos {d p0 p1 p2 p3 p4 : Int} (h : d ≠ 0) : 0 < gc d p0 p1 p2 p3 p4 := by
  have := (dvd_gc (d := d) (p0 := p0) (p1 := p1) (p2 := p2) (p3 := p3) (p4 := p4)).1
  rcases Nat.eq_zero_or_pos (gc d p0 p1 p2 p3 p4) with h0 | h0
  · rw [h0] at this
    obtain ⟨c, hc⟩ := this
    exact absurd (by simpa using hc) h
  · exact h0
theorem div_i64 {a : Int} {g : Nat} (ha : a.natAbs ≤ 9223372036854775807) (h : (g : Int) ∣ a) : IntKind.i64.wrap (a.tdiv g) = a / g := by
  have h1 := Int.natAbs_tdiv_le_natAbs a g
  rw [wr (by omega) (by omega), tdivE h]
def small (d : Int) : Prop := d.natAbs ≤ 9223372036854775807
theorem gMat_det {l : List Rd} {s : Int} : f96 (gMat l s) = some (dD l s) := f96_e (sq_tab (F := fun i k => gram l (chI s i) (chI s k) l.length) (gN_le s))
theorem gOwn_det {l : List Rd} {s : Int} {k : Nat} : f96 (gOwn l s k) = some (dO l s k) := f96_e (sq_tab (F := fun i q => if q = k then rgt l (chI s i) l.length else gram l (chI s i) (chI s q) l.length) (gN_le s))
set_option maxHeartbeats 1000000 in
theorem f55_e {l : List Rd} {s : Int} (hl : l.length ≤ 12) (hx : ∀ j, j < l.length → rdP (gR l j)) (hE : rdsE l = 0) (hs : f94 s = some 0) (hd : small (dD l s)) (hp : ∀ k, k < gN s → small (dO l s k)) :
    f55 l s = some (fitR (dD l s) (pS l s (gN s) 0) (pS l s (gN s) 1) (pS l s (gN s) 2) (pS l s (gN s) 3) (pS l s (gN s) 4)) := by
  have hn := gN_le s
  have hps : ∀ k t, k ≤ gN s → small (pS l s k t) := by
    intro k
    induction k with
    | zero => intro t _; show (0 : Int).natAbs ≤ _; omega
    | succ k ih =>
      intro t hk
      simp only [pS]; split
      · exact hp k (by omega)
      · exact ih t (by omega)
  unfold f55
  rw [f93_e (by omega), hE, hs]
  simp only [obnd_s, f63_2]
  rw [show ieq (fstN [0, 0]) 0 = true by rfl, Bool.not_true, oite_f, f95_e]
  simp only [obnd_s, List.length_map]
  rw [show ((chN s).length : Int) = ((gN s : Nat) : Int) from rfl]
  have hm24 : mfits 24 ((gN s : Nat) : Int) ((gN s : Nat) : Int) = true := by
    simp only [mfits, ile_eq, Bool.and_eq_true, decide_eq_true_eq]; omega
  have hm8 : mfits 8 ((gN s : Nat) : Int) ((gN s : Nat) : Int) = true := by
    simp only [mfits, ile_eq, Bool.and_eq_true, decide_eq_true_eq]; omega
  rw [hm24, hm8, ogrd_t, ogrd_t]
  simp only [Int.toNat_natCast]
  rw [oloop_all (fun i => ((i : Int), mS l s i, rS l s i 0)) (gN s) (r := (gMat l s, gRgt l s)) ?_ ?_ ?_]
  · simp only [obnd_s]
    rw [beq_t (by simp [gMat, tab_len]), ogrd_t, gMat_det]
    simp only [obnd_s]
    rw [ieq_eq]
    by_cases h0 : dD l s = 0
    · rw [decide_eq_true h0, oite_t]
      unfold fitR; rw [if_pos h0]
    rw [decide_eq_false h0, oite_f]
    rw [oloop_all (fun k => ((k : Int), pS l s k 0, pS l s k 1, pS l s k 2, pS l s k 3, pS l s k 4)) (gN s) (r := (pS l s (gN s) 0, pS l s (gN s) 1, pS l s (gN s) 2, pS l s (gN s) 3, pS l s (gN s) 4)) (e0 := ((0 : Int), (0 : Int), (0 : Int), (0 : Int), (0 : Int), (0 : Int))) rfl ?_ ?_]
    · have g0 := gc_pos (p0 := pS l s (gN s) 0) (p1 := pS l s (gN s) 1) (p2 := pS l s (gN s) 2) (p3 := pS l s (gN s) 3) (p4 := pS l s (gN s) 4) h0
      obtain ⟨v0, v1, v2, v3, v4, v5⟩ := @dvd_gc (dD l s) (pS l s (gN s) 0) (pS l s (gN s) 1) (pS l s (gN s) 2) (pS l s (gN s) 3) (pS l s (gN s) 4)
      simp only [obnd_s]
      rw [f97_e hd (hps _ 0 (Nat.le_refl _)) (hps _ 1 (Nat.le_refl _)) (hps _ 2 (Nat.le_refl _)) (hps _ 3 (Nat.le_refl _)) (hps _ 4 (Nat.le_refl _))]
      simp only [obnd_s]
      rw [ieq_eq, decide_eq_false (by omega), Bool.not_false, ogrd_t]
      rw [div_i64 hd v0, div_i64 (hps _ 0 (Nat.le_refl _)) v1, div_i64 (hps _ 1 (Nat.le_refl _)) v2, div_i64 (hps _ 2 (Nat.le_refl _)) v3, div_i64 (hps _ 3 (Nat.le_refl _)) v4, div_i64 (hps _ 4 (Nat.le_refl _)) v5]
      rw [f98_e]
      simp only [obnd_s, ieq_eq]
      unfold fitR
      rw [if_neg h0]
      by_cases hf : fitE (dD l s / gc (dD l s) (pS l s (gN s) 0) (pS l s (gN s) 1) (pS l s (gN s) 2) (pS l s (gN s) 3) (pS l s (gN s) 4)) (pS l s (gN s) 0 / gc (dD l s) (pS l s (gN s) 0) (pS l s (gN s) 1) (pS l s (gN s) 2) (pS l s (gN s) 3) (pS l s (gN s) 4)) (pS l s (gN s) 1 / gc (dD l s) (pS l s (gN s) 0) (pS l s (gN s) 1) (pS l s (gN s) 2) (pS l s (gN s) 3) (pS l s (gN s) 4)) (pS l s (gN s) 2 / gc (dD l s) (pS l s (gN s) 0) (pS l s (gN s) 1) (pS l s (gN s) 2) (pS l s (gN s) 3) (pS l s (gN s) 4)) (pS l s (gN s) 3 / gc (dD l s) (pS l s (gN s) 0) (pS l s (gN s) 1) (pS l s (gN s) 2) (pS l s (gN s) 3) (pS l s (gN s) 4)) (pS l s (gN s) 4 / gc (dD l s) (pS l s (gN s) 0) (pS l s (gN s) 1) (pS l s (gN s) 2) (pS l s (gN s) 3) (pS l s (gN s) 4)) = 0
      · rw [hf, if_neg (by simp)]; rfl
      · rw [decide_eq_false hf, if_pos hf]; rfl
    · intro k hk
      have hc := chI_lt s hk
      simp only [ilt_t (show (k : Int) < ((gN s : Nat) : Int) by omega), ile_t (show 0 ≤ (k : Int) by omega), oite_t, ogrd_t, Int.toNat_natCast, chI_get s hk, obnd_s, w_succ (show k < 1000000 by omega), hm24]
      rw [oloop_all (fun i => ((i : Int), oS l s k i)) (gN s) (r := gOwn l s k) ?_ ?_ ?_]
      · simp only [obnd_s]
        rw [beq_t (by simp [gOwn, tab_len]), ogrd_t, gOwn_det]
        simp only [obnd_s]
        rw [ilt_t (show ((chI s k : Nat) : Int) < 5 by omega), ogrd_t, ile_t (by omega), ogrd_t]
        have hsel : ∀ t, sel (chI s k) t (dO l s k) (pS l s k t) = pS l s (k + 1) t := by
          intro t
          unfold sel
          simp only [pS]
          by_cases h : chI s k = t
          · rw [beq_t h, if_pos h]; rfl
          · rw [nbeq_ne h, if_neg h]; rfl
        simp only [hsel]
      · simp only [tab_rep]
        refine Prod.ext rfl (tab_congr fun q hq => ?_)
        rw [if_neg (by omega)]
      · intro i hi
        have hro : (gMat l s)[i]? = some (tab (gN s) fun q => gram l (chI s i) (chI s q) l.length) := tab_get hi
        have hrg : (gRgt l s)[i]? = some (rgt l (chI s i) l.length) := tab_get hi
        have h73 : f73 (tab (gN s) fun q => gram l (chI s i) (chI s q) l.length) = some (tab (gN s) fun q => gram l (chI s i) (chI s q) l.length) := by
          generalize ht : (tab (gN s) fun q => gram l (chI s i) (chI s q) l.length) = t
          have htl : t.length = gN s := by rw [← ht, tab_len]
          cases t with
          | nil => simp at htl; omega
          | cons a r =>
            show (if fits 8 (a :: r).length = true then some (a :: r) else none) = _
            rw [if_pos (fits_t (by omega) (by omega))]
        simp only [ilt_t (show (i : Int) < ((gN s : Nat) : Int) by omega), ile_t (show 0 ≤ (i : Int) by omega), oite_t, ogrd_t, Int.toNat_natCast, hro, obnd_s, h73, hrg, tab_len, oS_len, blt_t hi, blt_t hk, ilt_t (show (k : Int) < ((gN s : Nat) : Int) by omega), List.length_set, beq_t rfl, w_succ (show i < 1000000 by omega), oS_s hi]
      · simp only [ilt_f (Int.le_refl ((gN s : Nat) : Int)), oite_f, oS_n]
    · simp only [ilt_f (Int.le_refl ((gN s : Nat) : Int)), oite_f]
  · simp only [tab_rep]
    refine Prod.ext rfl (Prod.ext (tab_congr fun q hq => ?_) (tab_congr fun q hq => ?_))
    · rw [if_neg (by omega)]
    · rw [if_neg (by omega)]; split <;> rfl
  · intro i hi
    have hc := chI_lt s hi
    simp only [ilt_t (show (i : Int) < ((gN s : Nat) : Int) by omega), ile_t (show 0 ≤ (i : Int) by omega), oite_t, ogrd_t, Int.toNat_natCast, chI_get s hi, obnd_s, w_succ (show i < 1000000 by omega), mS_len, blt_t hi]
    rw [oloop_all (fun j => ((j : Int), rS l s i j, wS l s i j 0)) l.length (r := (rS l s i l.length, wS l s i l.length 0)) ?_ ?_ ?_]
    · simp only [obnd_s]
      rw [beq_t (by simp [wS_len]), ogrd_t, mS_s hi, rS_next]
    · simp only [tab_rep]
      refine Prod.ext rfl (Prod.ext rfl (tab_congr fun q hq => ?_))
      rw [if_neg (by omega)]; rfl
    · intro j hj
      have hpj := hx j hj
      have b3 := mul5 (tmb hpj (chI s i)) hpj.2.2
      have b4 := rgt_b hx (chI s i) j (by omega)
      simp only [ilt_t (show (j : Int) < ((l.length : Nat) : Int) by omega), ile_t (show 0 ≤ (j : Int) by omega), ile_t (show 0 ≤ ((chI s i : Nat) : Int) by omega), ilt_t (show ((chI s i : Nat) : Int) < 5 by omega), oite_t, ogrd_t, Int.toNat_natCast, get_gR hj, obnd_s, f77_e hpj, w_succ (show j < 1000000 by omega), rS_get hi, rS_len, blt_t hi]
      have hti : ([1, (gR l j).2.1, (sea (gR l j).1).1, (sea (gR l j).1).2, (gR l j).1 / 360] : List Int)[0 + chI s i * 1]? = some (tm (gR l j) (chI s i)) := tm_get hc
      simp only [hti, obnd_s]
      rw [oloop_all (fun k => ((k : Int), wS l s i j k)) (gN s) (r := ((gR l j).1, (gR l j).2.1, (gR l j).2.2, 1, (gR l j).2.1, (sea (gR l j).1).1, (sea (gR l j).1).2, (gR l j).1 / 360, rS l s i (j + 1), wS l s i j (gN s))) (e0 := ((0 : Int), wS l s i j 0)) rfl ?_ ?_]
      · simp only [obnd_s, wS_next]
      · intro k hk
        have hck := chI_lt s hk
        have htk : ([1, (gR l j).2.1, (sea (gR l j).1).1, (sea (gR l j).1).2, (gR l j).1 / 360] : List Int)[0 + chI s k * 1]? = some (tm (gR l j) (chI s k)) := tm_get hck
        have b1 := mul4 (tmb hpj (chI s i)) (tmb hpj (chI s k))
        have b2 := gram_b hx (chI s i) (chI s k) j (by omega)
        simp only [ilt_t (show (k : Int) < ((gN s : Nat) : Int) by omega), ile_t (show 0 ≤ (k : Int) by omega), ile_t (show 0 ≤ ((chI s k : Nat) : Int) by omega), ilt_t (show ((chI s k : Nat) : Int) < 5 by omega), oite_t, ogrd_t, Int.toNat_natCast, chI_get s hk, obnd_s, htk, w_succ (show k < 1000000 by omega), wS_get hk, wS_len, blt_t hk]
        rw [if_neg (by omega), wr (n := tm (gR l j) (chI s i) * tm (gR l j) (chI s k)) (by omega) (by omega), wr (by omega) (by omega), wS_s hk]
      · simp only [ilt_f (Int.le_refl ((gN s : Nat) : Int)), oite_f]
        rw [wr (n := tm (gR l j) (chI s i) * (gR l j).2.2) (by omega) (by omega), wr (by omega) (by omega), rS_s hi]
    · simp only [ilt_f (Int.le_refl ((l.length : Nat) : Int)), oite_f]
  · simp only [ilt_f (Int.le_refl ((gN s : Nat) : Int)), oite_f, mS_n, rS_n]
end
section
set_option linter.unusedSimpArgs false
set_option linter.unusedVariables false
open Go Go.RowKit

theorem det_tab {n r m : Nat} {F G : Nat → Col} (h : ∀ j, j < m → ∀ i, r ≤ i → i < r + n → F j i = G j i) : det n r (tab m F) = det n r (tab m G) := by
  have key : ∀ H : Nat → Col, det n r (tab m H) = det n r (tab m fun j i => if r ≤ i ∧ i < r + n then H j i else 0) := by
    intro H
    rw [← det_map (s := fun c i => if r ≤ i ∧ i < r + n then c i else 0) (d := 0) (n := n) (r := r) (cs := tab m H) (fun c _ i h1 h2 => by simp only [Nat.add_zero]; rw [if_pos ⟨h1, h2⟩]), tab_map]
    rfl
  rw [key F, key G]
  refine congrArg _ (tab_congr fun j hj => ?_)
  funext i
  by_cases hi : r ≤ i ∧ i < r + n
  · rw [if_pos hi, if_pos hi, h j hj i hi.1 hi.2]
  · rw [if_neg hi, if_neg hi]

/-! ### Sums -/
def sumN : Nat → (Nat → Int) → Int
  | 0, _ => 0
  | n + 1, F => sumN n F + F n
theorem sumN_congr : ∀ {n : Nat} {F G : Nat → Int}, (∀ k, k < n → F k = G k) → sumN n F = sumN n G
  | 0, _, _, _ => rfl
  | n + 1, F, G, h => by simp only [sumN]; rw [sumN_congr fun k hk => h k (by omega), h n (by omega)]
theorem sumN_add : ∀ {n : Nat} {F G : Nat → Int}, sumN n (fun k => F k + G k) = sumN n F + sumN n G
  | 0, _, _ => rfl
  | n + 1, F, G => by simp only [sumN]; rw [sumN_add]; omega
theorem sumN_mul {a : Int} : ∀ {n : Nat} {F : Nat → Int}, sumN n (fun k => a * F k) = a * sumN n F
  | 0, _ => by simp [sumN]
  | n + 1, F => by simp only [sumN]; rw [sumN_mul, Int.mul_add]
theorem sumN_zero {n : Nat} : sumN n (fun _ => 0) = 0 := by
  have := sumN_mul (a := 0) (n := n) (F := fun _ => 0)
  simpa using this
theorem sumN_swap {m : Nat} : ∀ {n : Nat} {F : Nat → Nat → Int}, sumN n (fun i => sumN m (F i)) = sumN m (fun j => sumN n fun i => F i j)
  | 0, _ => by simp only [sumN]; rw [sumN_zero]
  | n + 1, F => by simp only [sumN]; rw [sumN_swap, ← sumN_add]
theorem sumN_head : ∀ {n : Nat} {F : Nat → Int}, sumN (n + 1) F = F 0 + sumN n (fun k => F (k + 1))
  | 0, _ => by simp only [sumN]; omega
  | n + 1, F => by
    rw [show sumN (n + 1 + 1) F = sumN (n + 1) F + F (n + 1) from rfl, sumN_head]
    simp only [sumN]; omega
theorem repS_sum {w : Col → Int} {v : Col} : ∀ {t : List Col} {f : List Col → Int}, repS w v f t = sumN t.length fun k => w (t.getD k v) * f (t.set k v)
  | [], _ => rfl
  | c :: t, f => by
    show w c * f (v :: t) + repS w v (fun l => f (c :: l)) t = _
    rw [repS_sum, List.length_cons, sumN_head]; rfl
theorem comb_sum : ∀ {cs : List Col} {xs : List Int} {i : Nat} {z : Col}, cs.length = xs.length → comb cs xs i = sumN cs.length fun k => xs.getD k 0 * cs.getD k z i
  | [], _, _, _, _ => rfl
  | c :: cs, [], _, _, h => by simp at h
  | c :: cs, x :: xs, i, z, h => by
    rw [List.length_cons, sumN_head]
    show x * c i + comb cs xs i = _
    rw [comb_sum (z := z) (by simpa using h)]; rfl

/-! ### Bounds -/
/-- Columns whose elements are at most a row's factor times their own; the product of their own. -/
inductive Bd (B : Nat → Nat) : List Col → Nat → Prop
  | nil : Bd B [] 1
  | cons {c : Col} {t : List Col} {x y : Nat} : (∀ i, (c i).natAbs ≤ B i * x) → Bd B t y → Bd B (c :: t) (x * y)
theorem altS_bd {B : Nat → Nat} {r : Nat} : ∀ {t : List Col} {f : List Col → Int} {K Y : Nat}, (∀ l y, l.length + 1 = t.length → Bd B l y → (f l).natAbs ≤ K * y) → Bd B t Y → (altS (fun c => c r) f t).natAbs ≤ t.length * K * B r * Y
  | [], _, _, _, _, _ => by simp [altS]
  | c :: t, f, K, _, hf, .cons (x := x) (y := y) hc ht => by
    have h1 := hf t y rfl ht
    have h2 := altS_bd (r := r) (f := fun l => f (c :: l)) (K := K * x) (fun l z hl hb => by
      have := hf (c :: l) (x * z) (by simp at hl ⊢; omega) (.cons hc hb)
      rw [Nat.mul_assoc]; exact this) ht
    show (c r * f t - altS (fun c => c r) (fun l => f (c :: l)) t).natAbs ≤ _
    refine Nat.le_trans (Int.natAbs_sub_le _ _) ?_
    rw [Int.natAbs_mul]
    have h3 := Nat.mul_le_mul (hc r) h1
    have h4 : B r * x * (K * y) + t.length * (K * x) * B r * y = (c :: t).length * K * B r * (x * y) := by
      rw [List.length_cons, Nat.add_mul, Nat.add_mul, Nat.add_mul, Nat.one_mul]
      grind
    omega
/-- The product of the factors of n rows from r on, with the number of orders. -/
def rowsB (B : Nat → Nat) : Nat → Nat → Nat
  | 0, _ => 1
  | n + 1, r => (n + 1) * rowsB B n (r + 1) * B r
theorem det_bd {B : Nat → Nat} : ∀ {n r : Nat} {cs : List Col} {Y : Nat}, Bd B cs Y → cs.length = n → (det n r cs).natAbs ≤ rowsB B n r * Y
  | 0, r, cs, Y, h, hl => by
    have : cs = [] := List.length_eq_zero_iff.1 hl
    subst this; cases h; simp [det, rowsB]
  | n + 1, r, cs, Y, h, hl => by
    have := altS_bd (r := r) (f := det n (r + 1)) (K := rowsB B n (r + 1)) (fun l y hl' hb => det_bd hb (by omega)) h
    rw [hl] at this
    exact this
end
section
set_option linter.unusedSimpArgs false
set_option linter.unusedVariables false
open Go Go.RowKit

/-! ### The columns -/
def gcol (l : List Rd) (s : Int) (b : Nat) : Col := fun i => gram l (chI s i) b l.length
def rcol (l : List Rd) (s : Int) : Col := fun i => rgt l (chI s i) l.length
def GC (l : List Rd) (s : Int) : List Col := tab (gN s) fun j => gcol l s (chI s j)
noncomputable def DD (l : List Rd) (s : Int) : Int := det (gN s) 0 (GC l s)
noncomputable def DK (l : List Rd) (s : Int) (k : Nat) : Int := det (gN s) 0 ((GC l s).set k (rcol l s))
theorem GC_len {l : List Rd} {s : Int} : (GC l s).length = gN s := tab_len
theorem mcol_tab {n i j : Nat} {F : Nat → Nat → Int} (hi : i < n) (hj : j < n) : mcol (tab n fun i => tab n (F i)) j i = F i j := by
  unfold mcol
  simp only [List.getD_eq_getElem?_getD, tab_get hi, Option.getD_some, tab_get hj]
theorem dD_w {l : List Rd} {s : Int} : dD l s = IntKind.i64.wrap (DD l s) := by
  unfold dD DD GC
  refine congrArg _ ?_
  show det (gN s) 0 (tab (gN s) (mcol (gMat l s))) = _
  refine det_tab fun j hj i _ hi => ?_
  rw [Nat.zero_add] at hi
  exact mcol_tab (F := fun i k => gram l (chI s i) (chI s k) l.length) hi hj
theorem dO_w {l : List Rd} {s : Int} {k : Nat} : dO l s k = IntKind.i64.wrap (DK l s k) := by
  unfold dO DK GC
  rw [tab_set]
  refine congrArg _ ?_
  show det (gN s) 0 (tab (gN s) (mcol (gOwn l s k))) = _
  refine det_tab fun j hj i _ hi => ?_
  rw [Nat.zero_add] at hi
  have := mcol_tab (F := fun i q => if q = k then rgt l (chI s i) l.length else gram l (chI s i) (chI s q) l.length) hi hj
  rw [show mcol (gOwn l s k) j i = _ from this]
  by_cases h : j = k
  · rw [if_pos h, if_pos h]; rfl
  · rw [if_neg h, if_neg h]; rfl

/-! ### Bounds -/
def tB : Nat → Nat
  | 0 => 1 | 1 => 50 | 2 => 1 | 3 => 1 | _ => 100
theorem tB_pos (a : Nat) : 1 ≤ tB a := by unfold tB; split <;> omega
theorem tm_B {x : Rd} (h : rdP x) (a : Nat) : (tm x a).natAbs ≤ tB a := by
  obtain ⟨h1, h2, _⟩ := h
  have h3 := sea_b x.1
  match a with
  | 0 => show (1 : Int).natAbs ≤ 1; omega
  | 1 => show x.2.1.natAbs ≤ 50; omega
  | 2 => show (sea x.1).1.natAbs ≤ 1; omega
  | 3 => show (sea x.1).2.natAbs ≤ 1; omega
  | n + 4 => show (x.1 / 360).natAbs ≤ 100; omega
theorem gram_B {l : List Rd} (hx : ∀ j, j < l.length → rdP (gR l j)) (a b : Nat) : ∀ j : Nat, j ≤ l.length → (gram l a b j).natAbs ≤ j * (tB a * tB b)
  | 0, _ => by simp [gram]
  | j + 1, h => by
    have h1 := gram_B hx a b j (by omega)
    have h2 := Nat.mul_le_mul (tm_B (hx j (by omega)) a) (tm_B (hx j (by omega)) b)
    rw [← Int.natAbs_mul] at h2
    simp only [gram]
    refine Nat.le_trans (Int.natAbs_add_le _ _) ?_
    rw [Nat.add_mul, Nat.one_mul]; omega
theorem rgt_B {l : List Rd} (hx : ∀ j, j < l.length → rdP (gR l j)) (a : Nat) : ∀ j : Nat, j ≤ l.length → (rgt l a j).natAbs ≤ j * (tB a * 2000)
  | 0, _ => by simp [rgt]
  | j + 1, h => by
    have h1 := rgt_B hx a j (by omega)
    have h3 := (hx j (by omega)).2.2
    have h2 := Nat.mul_le_mul (tm_B (hx j (by omega)) a) (show (gR l j).2.2.natAbs ≤ 2000 by omega)
    rw [← Int.natAbs_mul] at h2
    simp only [rgt]
    refine Nat.le_trans (Int.natAbs_add_le _ _) ?_
    rw [Nat.add_mul, Nat.one_mul]; omega
def prT : List Nat → Nat
  | [] => 1
  | c :: t => tB c * prT t
theorem prT_pos : ∀ {L : List Nat}, 1 ≤ prT L
  | [] => Nat.le_refl _
  | c :: t => Nat.mul_le_mul (tB_pos c) (prT_pos (L := t))
theorem prT_filter {p : Nat → Bool} : ∀ {L : List Nat}, prT (L.filter p) ≤ prT L
  | [] => Nat.le_refl _
  | c :: t => by
    have ih := prT_filter (p := p) (L := t)
    have := tB_pos c
    rw [List.filter_cons]
    split
    · exact Nat.mul_le_mul (Nat.le_refl _) ih
    · exact Nat.le_trans ih (by show prT t ≤ tB c * prT t; exact Nat.le_mul_of_pos_left _ this)
theorem prT_ch (s : Int) : prT (chN s) ≤ 5000 := prT_filter
theorem bd_map {B : Nat → Nat} {F : Nat → Col} : ∀ {L : List Nat}, (∀ b, b ∈ L → ∀ i, (F b i).natAbs ≤ B i * tB b) → Bd B (L.map F) (prT L)
  | [], _ => .nil
  | c :: t, h => .cons (h c List.mem_cons_self) (bd_map fun b hb => h b (List.mem_cons_of_mem _ hb))
theorem bd_set {B : Nat → Nat} {F : Nat → Col} {v : Col} (hv : ∀ i, (v i).natAbs ≤ B i * 2000) : ∀ {L : List Nat} {k : Nat}, (∀ b, b ∈ L → ∀ i, (F b i).natAbs ≤ B i * tB b) → ∃ Y, Bd B ((L.map F).set k v) Y ∧ Y ≤ 2000 * prT L
  | [], _, _ => ⟨1, .nil, by simp [prT]⟩
  | c :: t, 0, h => ⟨2000 * prT t, .cons hv (bd_map fun b hb => h b (List.mem_cons_of_mem _ hb)), by
    have := tB_pos c
    exact Nat.mul_le_mul (Nat.le_refl _) (Nat.le_mul_of_pos_left _ this)⟩
  | c :: t, k + 1, h => by
    obtain ⟨Y, h1, h2⟩ := bd_set hv (k := k) fun b hb => h b (List.mem_cons_of_mem _ hb)
    refine ⟨tB c * Y, .cons (h c List.mem_cons_self) h1, ?_⟩
    have := Nat.mul_le_mul (Nat.le_refl (tB c)) h2
    show tB c * Y ≤ 2000 * (tB c * prT t)
    rw [Nat.mul_left_comm]; exact this
def fac12 : Nat → Nat
  | 0 => 1
  | n + 1 => (n + 1) * fac12 n * 12
theorem rows_B {s : Int} : ∀ {n r : Nat}, r + n = (chN s).length → rowsB (fun i => 12 * tB (chI s i)) n r = fac12 n * prT ((chN s).drop r)
  | 0, r, h => by
    rw [List.drop_of_length_le (by omega)]; rfl
  | n + 1, r, h => by
    have ih := rows_B (s := s) (n := n) (r := r + 1) (by omega)
    have hr : r < (chN s).length := by omega
    have e : (chN s).drop r = chI s r :: (chN s).drop (r + 1) := by
      rw [List.drop_eq_getElem_cons hr]; simp [chI, hr]
    rw [e]
    simp only [rowsB, fac12, prT]
    rw [ih]; grind
theorem fac12_5 : ∀ n, n ≤ 5 → fac12 n ≤ 29859840 := by decide
theorem tab_chN {s : Int} {α : Type} {F : Nat → α} : (tab (gN s) fun j => F (chI s j)) = (chN s).map F := by
  have : (tab (gN s) fun j => chI s j) = chN s := (tab_of (l := chN s) (d := 0)).symm
  rw [← tab_map (F := fun j => chI s j), this]
section
variable {l : List Rd} {s : Int} (hl : l.length ≤ 12) (hx : ∀ j, j < l.length → rdP (gR l j))
include hl hx
theorem gcol_B (b : Nat) : ∀ i, (gcol l s b i).natAbs ≤ 12 * tB (chI s i) * tB b := by
  intro i
  have h := gram_B hx (chI s i) b l.length (Nat.le_refl _)
  refine Nat.le_trans h ?_
  rw [Nat.mul_assoc]
  exact Nat.mul_le_mul hl (Nat.le_refl _)
theorem rcol_B : ∀ i, (rcol l s i).natAbs ≤ 12 * tB (chI s i) * 2000 := by
  intro i
  have h := rgt_B hx (chI s i) l.length (Nat.le_refl _)
  refine Nat.le_trans h ?_
  rw [Nat.mul_assoc]
  exact Nat.mul_le_mul hl (Nat.le_refl _)
omit hl hx in
theorem rows_5 : rowsB (fun i => 12 * tB (chI s i)) (gN s) 0 ≤ 149299200000 := by
  rw [rows_B (by simp [gN]), List.drop_zero]
  exact Nat.mul_le_mul (fac12_5 _ (gN_le s)) (prT_ch s)
theorem DD_b : (DD l s).natAbs ≤ 1492992000000000000 := by
  unfold DD GC
  rw [tab_chN (F := gcol l s)]
  have h := det_bd (n := gN s) (r := 0) (bd_map (B := fun i => 12 * tB (chI s i)) (L := chN s) (F := gcol l s) fun b _ => gcol_B hl hx b) (by simp [gN])
  have h2 := Nat.mul_le_mul (rows_5 (s := s)) (prT_ch s)
  omega
theorem DK_b (k : Nat) : (DK l s k).natAbs ≤ 1492992000000000000 := by
  unfold DK GC
  rw [tab_chN (F := gcol l s)]
  obtain ⟨Y, h1, h2⟩ := bd_set (k := k) (rcol_B hl hx) (B := fun i => 12 * tB (chI s i)) (L := chN s) (F := gcol l s) fun b _ => gcol_B hl hx b
  have h := det_bd (n := gN s) (r := 0) h1 (by simp [gN])
  have h3 := Nat.mul_le_mul (rows_5 (s := s)) (Nat.le_trans h2 (Nat.mul_le_mul (Nat.le_refl 2000) (prT_ch s)))
  omega
theorem dD_e : dD l s = DD l s := by
  have := DD_b (s := s) hl hx
  rw [dD_w, wr (by omega) (by omega)]
theorem dO_e (k : Nat) : dO l s k = DK l s k := by
  have := DK_b (s := s) hl hx k
  rw [dO_w, wr (by omega) (by omega)]
end

/-! ### The parts -/
/-- The part of a term, before it is reduced. -/
noncomputable def PT (l : List Rd) (s : Int) (t : Nat) : Int := pS l s (gN s) t
theorem pS_out {l : List Rd} {s : Int} {t : Nat} (h : t ∉ chN s) : ∀ k, k ≤ gN s → pS l s k t = 0
  | 0, _ => rfl
  | k + 1, hk => by
    simp only [pS]
    rw [if_neg, pS_out h k (by omega)]
    rintro rfl
    apply h
    unfold gN at hk
    simp [chI, show k < (chN s).length by omega]
theorem chI_inj {s : Int} {i j : Nat} (hi : i < gN s) (hj : j < gN s) (h : chI s i = chI s j) : i = j := by
  unfold gN at hi hj
  have hp := List.pairwise_iff_getElem.1 (chN_nd s)
  simp only [chI, List.getD_eq_getElem?_getD, List.getElem?_eq_getElem hi, List.getElem?_eq_getElem hj, Option.getD_some] at h
  rcases Nat.lt_trichotomy i j with h1 | h1 | h1
  · exact absurd h (hp i j hi hj h1)
  · exact h1
  · exact absurd h.symm (hp j i hj hi h1)
theorem pS_at {l : List Rd} {s : Int} {q : Nat} (hq : q < gN s) : ∀ k, k ≤ gN s → pS l s k (chI s q) = if q < k then dO l s q else 0
  | 0, _ => by rw [if_neg (by omega)]; rfl
  | k + 1, hk => by
    simp only [pS]
    by_cases h : chI s k = chI s q
    · have := chI_inj (by omega) hq h
      subst this
      rw [if_pos rfl, if_pos (by omega)]
    · rw [if_neg h, pS_at hq k (by omega)]
      have : k ≠ q := by rintro rfl; exact h rfl
      by_cases h2 : q < k
      · rw [if_pos h2, if_pos (by omega)]
      · rw [if_neg h2, if_neg (by omega)]
theorem PT_at {l : List Rd} {s : Int} {q : Nat} (hq : q < gN s) : PT l s (chI s q) = dO l s q := by
  unfold PT; rw [pS_at hq _ (Nat.le_refl _), if_pos hq]
theorem PT_out {l : List Rd} {s : Int} {t : Nat} (h : t ∉ chN s) : PT l s t = 0 := pS_out h _ (Nat.le_refl _)
theorem GC_get {l : List Rd} {s : Int} {k : Nat} (hk : k < gN s) {d : Col} : (GC l s).getD k d = gcol l s (chI s k) := by
  unfold GC; rw [List.getD_eq_getElem?_getD, tab_get hk]; rfl
/-- The normal equations. -/
theorem normal {l : List Rd} {s : Int} (hl : l.length ≤ 12) (hx : ∀ j, j < l.length → rdP (gR l j)) {i : Nat} (hi : i < gN s) : sumN (gN s) (fun k => gram l (chI s i) (chI s k) l.length * PT l s (chI s k)) = rgt l (chI s i) l.length * dD l s := by
  have h := det_adj (n := gN s) (cs := GC l s) GC_len (rcol l s) hi
  rw [repS_sum, GC_len] at h
  rw [dD_e hl hx]
  refine Eq.trans (sumN_congr fun k hk => ?_) h
  rw [PT_at hk, dO_e hl hx, GC_get hk]; rfl
end
end Go.Proofs.Ytacgibkgojnfeaa.AM
