/- What the two sides' values have in common, operand by operand. Conditions: none. -/
import Derived.Test.YtfdapegcngmknaaAmComp
namespace Go.Proofs.Ytfdapegcngmknaa.AM
open Go Go.RowKit

def VRL (ι : Iota) (N : Nat) (us vs : List Value) : Prop :=
  us.length = vs.length ∧ ∀ (i : Nat) (u v : Value), us[i]? = some u → vs[i]? = some v → VR ι N u v

section
variable {ι : Iota} {N : Nat} {u v : Value}

theorem VR.int_of (h : VR ι N u v) {k : IntKind} {n : Int} (hu : vint k u = some n) : u = .int k n ∧ v = .int k n := by
  unfold vint at hu
  split at hu
  · rename_i k' m
    split at hu
    · rename_i hk; subst hk; injection hu with hu; subst hu; cases h; exact ⟨rfl, rfl⟩
    · simp at hu
  · simp at hu
theorem VR.any_of (h : VR ι N u v) {n : Int} (hu : vany u = some n) : ∃ k, u = .int k n ∧ v = .int k n := by
  unfold vany at hu
  split at hu
  · rename_i k' m; injection hu with hu; subst hu; cases h; exact ⟨_, rfl, rfl⟩
  · simp at hu
theorem VR.str_of (h : VR ι N u v) {s : ByteArray} (hu : vstr u = some s) : u = .string s ∧ v = .string s := by
  unfold vstr at hu
  split at hu
  · injection hu with hu; subst hu; cases h; exact ⟨rfl, rfl⟩
  · simp at hu
theorem VR.bool_of (h : VR ι N u v) {b : Bool} (hu : vbool u = some b) : u = .bool b ∧ v = .bool b := by
  unfold vbool at hu
  split at hu
  · injection hu with hu; subst hu; cases h; exact ⟨rfl, rfl⟩
  · simp at hu
theorem VR.agg_of (h : VR ι N u v) {xs : Array Value} (hu : vagg u = some xs) : u = .agg xs ∧ ∃ ys, v = .agg ys ∧ xs.size = ys.size ∧
    ∀ (i : Nat) (u v : Value), xs[i]? = some u → ys[i]? = some v → VR ι N u v := by
  unfold vagg at hu
  split at hu
  · injection hu with hu; subst hu; cases h with | agg _ ys hs hh => exact ⟨rfl, ys, rfl, hs, hh⟩
  · simp at hu
theorem VR.ptr_of (h : VR ι N u v) {p : Nat × Nat} (hu : vptr u = some p) :
    u = .pointer (some ⟨p.1, p.2, none⟩) ∧ p.1 < N ∧ v = .pointer (some ⟨(ι p.1).r, (ι p.1).f + p.2, none⟩) := by
  unfold vptr at hu
  split at hu
  · rename_i b o; injection hu with hu; subst hu; cases h with | ptr _ _ hb => exact ⟨rfl, hb, rfl⟩
  · simp at hu
theorem VR.nil_of (h : VR ι N u v) {k : NK} {b : Bool} (hu : vnil k u = some b) : vnil k v = some b := by
  unfold vnil at hu
  split at hu <;> first | (simp at hu; done) | (cases h <;> exact hu)
/-- A slice: nil on both sides, or somewhere. -/
theorem VR.sl_of (h : VR ι N u v) {a : Sl} (hu : vsl u = some a) :
    (a.base = none ∧ a.len = 0 ∧ a.code = 0 ∧ u = .slice none 0 0 ∧ v = .slice none 0 0) ∨
    ∃ b o a' c', a.base = some (b, o) ∧ b < N ∧ u = mkSl b o a.len a.code ∧ v = .slice (some a') a.len c' ∧ a.len ≤ c' ∧ (a.code = 0 → c' = a.len) ∧
      (c' = 0 ∨ a' = ⟨(ι b).r, (ι b).f + o, none⟩) ∧ (∀ z, a.code = z + 2 → c' = 0 ∨ o + c' * (z + 1) ≤ (ι b).tot) := by
  unfold vsl at hu
  split at hu
  · injection hu with hu; subst hu; cases h with | nilslice => exact .inl ⟨rfl, rfl, rfl, rfl, rfl⟩
  · rename_i b o n c
    split at hu
    · rename_i hle
      injection hu with hu; subst hu
      obtain ⟨d, rfl⟩ : ∃ d, c = n + d := ⟨c - n, by omega⟩
      generalize hm : n + d = m at h
      cases h with
      | slice _ _ _ d2 a' c' hb ha hn hc hr =>
        obtain rfl : d = d2 := by omega
        have hd : n + d - n = d := by omega
        refine .inr ⟨b, o, a', c', rfl, hb, ?_, rfl, hn, ?_, ha, ?_⟩
        · simp [mkSl]
        · simpa [hd] using hc
        · simpa [hd] using hr
    · simp at hu
  · simp at hu

theorem VR.cells (h : VR ι N u v) : VRL ι N u.cells.toList v.cells.toList := by
  cases h with
  | agg xs ys hs hh => exact ⟨by simpa [Value.cells] using hs, fun i u v hu hv => hh i u v (by simpa [Value.cells] using hu) (by simpa [Value.cells] using hv)⟩
  | _ =>
    refine ⟨rfl, fun i u v hu hv => ?_⟩
    cases i with
    | succ i => simp [Value.cells] at hu
    | zero =>
      simp [Value.cells] at hu hv
      subst hu; subst hv
      first
        | constructor <;> assumption
        | constructor
end

section
variable {E : Env} {ι : Iota} {N : Nat} {s : St} {a : Act}

theorem ev_sim {x : Operand} {y : Opd} {u : Value} (hc : copd E x = some y) (T : TR ι N s.t a.tmps) (he : s.ev E y = some u) : VR ι N u (a.eval x) := by
  cases x with
  | tmp t =>
    simp [copd] at hc; subst hc
    obtain ⟨v, h1, h2⟩ := T t u he
    simp only [Act.eval, Array.getD_eq_getD_getElem?, h1, Option.getD_some]
    exact h2
  | const v =>
    simp only [copd] at hc
    split at hc
    · rename_i hv; injection hc with hc; subst hc
      simp only [St.ev, Option.some.injEq] at he; subst he
      exact vrc_vr hv
    · simp at hc
  | global g => simp [copd] at hc
  | func f =>
    simp only [copd] at hc
    split at hc
    · rename_i k _
      split at hc
      · rename_i hk; injection hc with hc; subst hc
        simp only [St.ev, Option.some.injEq, hk] at he; subst he
        exact .func f #[] #[] #[] #[] rfl (by simp) rfl (by simp)
      · simp at hc
    · simp at hc

theorem VRL.cons {u v : Value} {us vs : List Value} (h : VR ι N u v) (hl : VRL ι N us vs) : VRL ι N (u :: us) (v :: vs) :=
  ⟨by simp [hl.1], fun i x y hx hy => by
    cases i with
    | zero => simp at hx hy; subst hx; subst hy; exact h
    | succ i => exact hl.2 i x y (by simpa using hx) (by simpa using hy)⟩

theorem VRL.nil : VRL ι N [] [] := ⟨rfl, fun i x y hx => by simp at hx⟩

theorem VRL.tail {u v : Value} {us vs : List Value} (h : VRL ι N (u :: us) (v :: vs)) : VRL ι N us vs :=
  ⟨by simpa using h.1, fun i x y hx hy => h.2 (i + 1) x y (by simpa using hx) (by simpa using hy)⟩
theorem VRL.head {u v : Value} {us vs : List Value} (h : VRL ι N (u :: us) (v :: vs)) : VR ι N u v := h.2 0 u v rfl rfl

theorem evs_sim : ∀ {xs : List Operand} {ys : List Opd} {us : List Value}, copds E xs = some ys → TR ι N s.t a.tmps → evs E s ys = some us → VRL ι N us (xs.map a.eval)
  | [], ys, us, hc, T, he => by simp [copds] at hc; subst hc; simp [evs] at he; subst he; exact .nil
  | x :: xs, ys, us, hc, T, he => by
    simp only [copds] at hc
    split at hc
    · rename_i y l hy hl
      injection hc with hc; subst hc
      simp only [evs] at he
      split at he
      · rename_i v vs hv hvs
        injection he with he; subst he
        exact .cons (ev_sim hy T hv) (evs_sim hl T hvs)
      · simp at he
    · simp at hc

theorem VRL.get {us vs : List Value} (h : VRL ι N us vs) {i : Nat} {u : Value} (hu : us[i]? = some u) : ∃ v, vs[i]? = some v ∧ VR ι N u v := by
  have hi : i < vs.length := by rw [← h.1]; exact (List.getElem?_eq_some_iff.1 hu).1
  exact ⟨vs[i], List.getElem?_eq_getElem hi, h.2 i u _ hu (List.getElem?_eq_getElem hi)⟩

theorem VRL.more {ι' : Iota} {N' : Nat} {us vs : List Value} (h : VRL ι N us vs) (hN : N ≤ N') (hi : ∀ b, b < N → ι' b = ι b) : VRL ι' N' us vs :=
  ⟨h.1, fun i u v hu hv => (h.2 i u v hu hv).more hN hi⟩

theorem VRL.append {us vs us' vs' : List Value} (h : VRL ι N us vs) (h' : VRL ι N us' vs') : VRL ι N (us ++ us') (vs ++ vs') := by
  refine ⟨by simp [h.1, h'.1], fun i u v hu hv => ?_⟩
  rcases Nat.lt_or_ge i us.length with hi | hi
  · rw [List.getElem?_append_left hi] at hu
    rw [List.getElem?_append_left (by rw [← h.1]; exact hi)] at hv
    exact h.2 i u v hu hv
  · rw [List.getElem?_append_right hi] at hu
    rw [List.getElem?_append_right (by rw [← h.1]; exact hi), ← h.1] at hv
    exact h'.2 _ u v hu hv

theorem VRL.drop {us vs : List Value} (h : VRL ι N us vs) (n : Nat) : VRL ι N (us.drop n) (vs.drop n) :=
  ⟨by simp [h.1], fun i u v hu hv => h.2 (n + i) u v (by simpa using hu) (by simpa using hv)⟩
theorem VRL.take {us vs : List Value} (h : VRL ι N us vs) (n : Nat) : VRL ι N (us.take n) (vs.take n) := by
  refine ⟨by simp [h.1], fun i u v hu hv => ?_⟩
  rw [List.getElem?_take] at hu hv
  split at hu
  · rename_i hi; rw [if_pos hi] at hv; exact h.2 i u v hu hv
  · simp at hu
theorem VRL.set {us vs : List Value} {x y : Value} (h : VRL ι N us vs) (n : Nat) (hx : VR ι N x y) : VRL ι N (us.set n x) (vs.set n y) := by
  refine ⟨by simp [h.1], fun i u v hu hv => ?_⟩
  by_cases hi : n = i
  · subst hi
    rw [List.getElem?_set_self'] at hu hv
    cases hn : us[n]? with
    | none => simp [hn] at hu
    | some z =>
      obtain ⟨z', hz', _⟩ := h.get hn
      simp [hn] at hu; simp [hz'] at hv; subst hu; subst hv; exact hx
  · rw [List.getElem?_set_ne hi] at hu hv; exact h.2 i u v hu hv
theorem VRL.toArray {us vs : List Value} (h : VRL ι N us vs) : VR ι N (.agg us.toArray) (.agg vs.toArray) :=
  .agg _ _ (by simp [h.1]) fun i u v hu hv => h.2 i u v (by simpa using hu) (by simpa using hv)
theorem vrc_list {l : List Value} (h : l.all vrc1 = true) : VRL ι N l l :=
  ⟨rfl, fun i u v hu hv => by
    rw [hu] at hv; injection hv with hv; subst hv
    exact vrc1_vr (List.all_eq_true.1 h u (List.mem_of_getElem? hu))⟩
end
end Go.Proofs.Ytfdapegcngmknaa.AM
