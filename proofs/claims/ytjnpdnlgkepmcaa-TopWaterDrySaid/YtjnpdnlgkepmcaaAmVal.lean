/- What the two sides' values have in common, operand by operand. Conditions: none. -/
import Derived.Test.YtjnpdnlgkepmcaaAmComp
namespace Go.Proofs.Ytjnpdnlgkepmcaa.AM
set_option linter.unusedSimpArgs false
set_option linter.unusedVariables false
open Go Go.RowKit
def VRL (ι : Iota) (N : Nat) (us vs : List Value) : Prop :=
 us.length = vs.length ∧ ∀ (i : Nat) (u v : Value), us[i]? = some u → vs[i]? = some v → VR ι N u v
section
variable {ι : Iota} {N : Nat} {u v : Value}
theorem VR.int_of (h : VR ι N u v) {k : IntKind} {n : Int} (hu : vint k u = some n) : u = .int k n ∧ v = .int k n := by
 unfold vint at hu
 split at hu
 · rename_i k' m
   split at hu
   · rename_i hk; subst hk; injection hu with hu; subst hu; cases h; exact ⟨rfl, rfl⟩
   · simp at hu
 · simp at hu
theorem VR.any_of (h : VR ι N u v) {n : Int} (hu : vany u = some n) : ∃ k, u = .int k n ∧ v = .int k n := by
 unfold vany at hu
 split at hu
 · rename_i k' m; injection hu with hu; subst hu; cases h; exact ⟨_, rfl, rfl⟩
 · simp at hu
theorem VR.str_of (h : VR ι N u v) {s : ByteArray} (hu : vstr u = some s) : u = .string s ∧ v = .string s := by
 unfold vstr at hu
 split at hu
 · injection hu with hu; subst hu; cases h; exact ⟨rfl, rfl⟩
 · simp at hu
theorem VR.bool_of (h : VR ι N u v) {b : Bool} (hu : vbool u = some b) : u = .bool b ∧ v = .bool b := by
 unfold vbool at hu
 split at hu
 · injection hu with hu; subst hu; cases h; exact ⟨rfl, rfl⟩
 · simp at hu
theorem VR.agg_of (h : VR ι N u v) {xs : Array Value} (hu : vagg u = some xs) : u = .agg xs ∧ ∃ ys, v = .agg ys ∧ xs.size = ys.size ∧
   ∀ (i : Nat) (u v : Value), xs[i]? = some u → ys[i]? = some v → VR ι N u v := by
 unfold vagg at hu
 split at hu
 · injection hu with hu; subst hu; cases h with | agg _ ys hs hh => exact ⟨rfl, ys, rfl, hs, hh⟩
 · simp at hu
theorem VR.ptr_of (h : VR ι N u v) {p : Nat × Nat} (hu : vptr u = some p) :
   u = .pointer (some ⟨p.1, p.2, none⟩) ∧ p.1 < N ∧ v = .pointer (some ⟨(ι p.1).r, (ι p.1).f + p.2, none⟩) := by
 unfold vptr at hu
 split at hu
 · rename_i b o; injection hu with hu; subst hu; cases h with | ptr _ _ hb => exact ⟨rfl, hb, rfl⟩
 · simp at hu
theorem VR.vs_of {z : Nat} {es : List Value} (h : VR ι N (VS z es) v) : (es = [] ∧ (v = .slice none 0 0 ∨ ∃ a' c', v = .slice (some a') 0 c')) ∨
    ∃ r f c', 0 < z ∧ es.length ≤ c' ∧ v = .slice (some ⟨r, f, none⟩) es.length c' ∧ (∀ (i : Nat) (e : Value), es[i]? = some e → e.cells.size = z) ∧
      (∀ (i j : Nat) (e u : Value), es[i]? = some e → e.cells[j]? = some u → u.oneCell' = true ∧ ∃ v, ι.im r (f + i * z + j) = some v ∧ VR ι N u v) := by
  unfold VS at h
  cases h with
  | vsn => exact .inl ⟨rfl, .inl rfl⟩
  | vs0 _ a' c' => exact .inl ⟨rfl, .inr ⟨a', c', rfl⟩⟩
  | vs z es r f c' hz hn h0 h1 h =>
    refine .inr ⟨r, f, c', hz, hn, rfl, h0, fun i j e u he hu => ?_⟩
    obtain ⟨h2, v, h3⟩ := h1 i j e u he hu
    exact ⟨h2, v, h3, h i j e u v he hu h3⟩
theorem VR.vs_mk {es : List Value} {z r f c' : Nat} (hz : 0 < z) (hn : es.length ≤ c') (h0 : ∀ (i : Nat) (e : Value), es[i]? = some e → e.cells.size = z)
  (h1 : ∀ (i j : Nat) (e u : Value), es[i]? = some e → e.cells[j]? = some u → u.oneCell' = true ∧ ∃ v, ι.im r (f + i * z + j) = some v ∧ VR ι N u v) : VR ι N (VS z es) (.slice (some ⟨r, f, none⟩) es.length c') :=
 .vs z es r f c' hz hn h0 (fun i j e u he hu => let ⟨a, v, b, _⟩ := h1 i j e u he hu; ⟨a, v, b⟩) fun i j e u v he hu hv => by
  obtain ⟨_, v', h2, h3⟩ := h1 i j e u he hu
  rw [hv] at h2; injection h2 with h2; subst h2; exact h3
theorem VR.vp_of (h : VR ι N u v) {e : Value} {off : Nat} (hu : vvp u = some (e, off)) : ∃ r f, v = .pointer (some ⟨r, f + off, none⟩) ∧
    ∀ (j : Nat) (u : Value), e.cells[j]? = some u → u.oneCell' = true ∧ ∃ v, ι.im r (f + j) = some v ∧ VR ι N u v := by
  unfold vvp at hu
  split at hu
  · injection hu with hu; injection hu with h1 h2; subst h1; subst h2
    generalize hx : Value.func _ _ _ = x at h
    cases h with
    | vp e off r f h1 h =>
      unfold VP at hx
      injection hx with e1 e2 e3
      injection e1 with e4 e5
      injection e2 with e2
      injection e2 with e2
      subst e2 e3 e4
      exact ⟨r, f, rfl, fun j u hu => let ⟨a, v, b⟩ := h1 j u hu; ⟨a, v, b, h j u v hu b⟩⟩
    | _ => first | (cases hx; done) | (unfold VS at hx; cases hx; done) | (unfold VZ at hx; cases hx; done) | (unfold VE at hx; cases hx; done) | (unfold VT at hx; cases hx; done)
  · simp at hu
theorem VR.vp_mk {e : Value} {off r f : Nat} (h1 : ∀ (j : Nat) (u : Value), e.cells[j]? = some u → u.oneCell' = true ∧ ∃ v, ι.im r (f + j) = some v ∧ VR ι N u v) : VR ι N (VP e off) (.pointer (some ⟨r, f + off, none⟩)) :=
 .vp e off r f (fun j u hu => let ⟨a, v, b, _⟩ := h1 j u hu; ⟨a, v, b⟩) fun j u v hu hv => by
  obtain ⟨_, v', h2, h3⟩ := h1 j u hu
  rw [hv] at h2; injection h2 with h2; subst h2; exact h3
theorem VR.vt_of {z : Nat} {es : List Value} {b : Nat} (h : VR ι N u v) (hu : vvt u = some (z, es, b)) : b < N ∧ VR ι N (VS z es) v ∧ es.length ≤ (ι.tk b).n ∧ (es.length = (ι.tk b).n → TokAt (ι.tk b) es.length v) := by
  unfold vvt at hu
  split at hu
  · injection hu with hu; injection hu with h1 h2; injection h2 with h2 h3; subst h1; subst h2; subst h3
    generalize hx : Value.func _ _ _ = x at h
    cases h with
    | vt z es b v hb h hl ht =>
      unfold VT at hx
      injection hx with e1 e2 e3
      injection e1 with e0 e4 e5 e6
      injection e2 with e2
      subst e0 e2 e3 e4 e5
      exact ⟨hb, h, hl, ht⟩
    | _ => first | (cases hx; done) | (unfold VS at hx; cases hx; done) | (unfold VZ at hx; cases hx; done) | (unfold VE at hx; cases hx; done) | (unfold VP at hx; cases hx; done)
  · simp at hu
theorem VR.val_of {z : Nat} {es : List Value} (h : VR ι N u v) (hu : vvs u = some (z, es)) : VR ι N (VS z es) v := by
  unfold vvs at hu
  split at hu
  · injection hu with hu; injection hu with h1 h2; subst h1; subst h2
    generalize hx : Value.func _ _ _ = x at h
    have h' := h
    cases h with
    | vs =>
      unfold VS at hx; injection hx with e1 e2 e3; injection e2 with e2; injection e1 with e0; subst e0; subst e2; exact h'
    | vs0 =>
      unfold VS at hx; injection hx with e1 e2 e3; injection e2 with e2; injection e1 with e0; subst e0; subst e2; exact h'
    | vsn =>
      unfold VS at hx; injection hx with e1 e2 e3; injection e2 with e2; injection e1 with e0; subst e0; subst e2; exact h'
    | vt z es b v hb h hl ht =>
      unfold VT at hx; injection hx with e1 e2 e3; injection e2 with e2; injection e1 with e0; subst e0; subst e2; exact h
    | vz z a =>
      unfold VZ at hx; injection hx with e1 e2 e3; injection e2 with e2; injection e1 with e0; subst e0; subst e2
      cases a with
      | none => exact .vsn _
      | some a => exact .vs0 _ _ _
    | ve z a c =>
      unfold VE at hx; injection hx with e1 e2 e3; injection e2 with e2; injection e1 with e0; subst e0; subst e2
      exact .vs0 _ _ _
    | _ => first | (cases hx; done) | (unfold VP at hx; cases hx; done)
  · simp at hu
theorem VR.z_of {z : Nat} {p : Array FieldStep} {xs us : Array Value} (h : VR ι N (.func (.via z p 1 false) xs us) v) : ∃ a, v = .slice a 0 0 := by
 generalize hx : Value.func _ _ _ = x at h
 cases h with
 | vz z a => exact ⟨a, rfl⟩
 | _ => first | (cases hx; done) | (unfold VE at hx; cases hx; done) | (unfold VP at hx; cases hx; done) | (unfold VS at hx; cases hx; done) | (unfold VT at hx; cases hx; done)
theorem VR.e_of {z : Nat} {p : Array FieldStep} {xs us : Array Value} (h : VR ι N (.func (.via z p 2 false) xs us) v) : ∃ a c, v = .slice (some a) 0 c := by
 generalize hx : Value.func _ _ _ = x at h
 cases h with
 | ve z a c => exact ⟨a, c, rfl⟩
 | _ => first | (cases hx; done) | (unfold VP at hx; cases hx; done) | (unfold VS at hx; cases hx; done) | (unfold VT at hx; cases hx; done) | (unfold VZ at hx; cases hx; done)
theorem VR.nil_of (h : VR ι N u v) {k : NK} {b : Bool} (hu : vnil k u = some b) : vnilr k v = some b := by
 unfold vnil at hu
 split at hu <;> first | (simp at hu; done) | skip
 · cases h <;> exact hu
 · rcases (h.val_of (es := _ :: _) rfl).vs_of with ⟨h1, _⟩ | ⟨r, f, c', _, _, h1, _⟩
   · cases h1
   · rw [h1]; exact hu
 · generalize hx : Value.func _ _ _ = x at h
   cases h with
   | ve z a c => exact hu
   | _ => first | (cases hx; done) | (unfold VS at hx; cases hx; done) | (unfold VZ at hx; cases hx; done) | (unfold VP at hx; cases hx; done) | (unfold VT at hx; cases hx; done)
 · cases h <;> exact hu
 · cases h; exact hu
 · generalize hx : Value.func _ _ _ = x at h
   cases h <;> first | exact hu | (cases hx; done) | (unfold VS at hx; cases hx; done) | (unfold VZ at hx; cases hx; done) | (unfold VE at hx; cases hx; done) | (unfold VP at hx; cases hx; done) | (unfold VT at hx; cases hx; done)
 · generalize hx : Value.func _ _ _ = x at h
   cases h <;> first | (cases hx; done) | (unfold VS at hx; cases hx; done) | (unfold VZ at hx; cases hx; done) | (unfold VE at hx; cases hx; done) | (unfold VT at hx; cases hx; done) | exact hu
 · cases h <;> exact hu
 · cases h; exact hu
 · cases h; exact hu
theorem VR.sl_of (h : VR ι N u v) {a : Sl} (hu : vsl u = some a) :
   (a.base = .nil ∧ a.len = 0 ∧ a.code = 0 ∧ u = .slice none 0 0 ∧ v = .slice none 0 0) ∨
   (∃ b o a' c', a.base = .blk b o ∧ b < N ∧ u = mkSl b o a.len a.code ∧ v = .slice (some a') a.len c' ∧ a.len ≤ c' ∧ (a.code = 0 → c' = a.len) ∧
    (c' = 0 ∨ a' = ⟨(ι b).r, (ι b).f + o, none⟩) ∧ (∀ z, a.code = z + 2 → o + c' * (z + 1) = (ι b).tot)) ∨ ∃ z es, a.base = .val z es ∧ a.len = es.length ∧ a.code = 1 ∧ vvs u = some (z, es) ∧ VR ι N (VS z es) v := by
 unfold vsl at hu
 split at hu
 · injection hu with hu; subst hu; cases h with | nilslice => exact .inl ⟨rfl, rfl, rfl, rfl, rfl⟩
 · rename_i b o n c
   injection hu with hu; subst hu
   cases h with
   | slice _ _ _ _ a' c' hb ha hn hc hr => exact .inr (.inl ⟨b, o, a', c', rfl, hb, rfl, rfl, hn, hc, ha, hr⟩)
 · injection hu with hu; subst hu; exact .inr (.inr ⟨_, _, rfl, rfl, rfl, rfl, h.val_of rfl⟩)
 · simp at hu
theorem VR.cells (h : VR ι N u v) : VRL ι N u.cells.toList v.cells.toList := by
  have h' := h
  have one : (∀ xs, u ≠ .agg xs) → (∀ ys, v ≠ .agg ys) → VRL ι N u.cells.toList v.cells.toList := by
    intro h1 h2
    have e1 : u.cells = #[u] := by cases u <;> first | rfl | exact absurd rfl (h1 _)
    have e2 : v.cells = #[v] := by cases v <;> first | rfl | exact absurd rfl (h2 _)
    rw [e1, e2]
    refine ⟨rfl, fun i a b ha hb => ?_⟩
    cases i with
    | succ i => simp at ha
    | zero => simp at ha hb; subst ha; subst hb; exact h'
  cases h with
  | agg xs ys hs hh => exact ⟨by simpa [Value.cells] using hs, fun i u v hu hv => hh i u v (by simpa [Value.cells] using hu) (by simpa [Value.cells] using hv)⟩
  | vt z es b v hb h hl ht =>
    refine one (fun _ e => by cases e) (fun ys e => ?_)
    rcases h.vs_of with ⟨_, h1 | ⟨a', c', h1⟩⟩ | ⟨_, _, _, _, _, h1, _⟩ <;> rw [h1] at e <;> cases e
  | _ => exact one (fun _ e => by cases e) (fun _ e => by cases e)
end
section
variable {E : Env} {ι : Iota} {N : Nat} {s : St} {a : Act}
theorem ev_sim {x : Operand} {y : Opd} {u : Value} (hc : copd E x = some y) (T : TR ι N s.t a.tmps) (he : s.ev E y = some u) : VR ι N u (a.eval x) := by
  cases x with
  | tmp t =>
    simp [copd] at hc; subst hc
    obtain ⟨v, h1, h2⟩ := T t u he
    simp only [Act.eval, Array.getD_eq_getD_getElem?, h1, Option.getD_some]
    exact h2
  | const v =>
    simp only [copd] at hc
    split at hc
    · rename_i hv; injection hc with hc; subst hc
      simp only [St.ev, Option.some.injEq] at he; subst he
      exact vrc_vr hv
    · simp at hc
  | global g => simp [copd] at hc
  | func f =>
    simp only [copd] at hc
    split at hc
    · rename_i k _
      split at hc
      · rename_i hk; injection hc with hc; subst hc
        simp only [St.ev, Option.some.injEq, hk] at he; subst he
        exact .func f #[] #[] #[] #[] rfl (by simp) rfl (by simp)
      · simp at hc
    · simp at hc
theorem VRL.cons {u v : Value} {us vs : List Value} (h : VR ι N u v) (hl : VRL ι N us vs) : VRL ι N (u :: us) (v :: vs) :=
 ⟨by simp [hl.1], fun i x y hx hy => by
  cases i with
  | zero => simp at hx hy; subst hx; subst hy; exact h
  | succ i => exact hl.2 i x y (by simpa using hx) (by simpa using hy)⟩
theorem VRL.nil : VRL ι N [] [] := ⟨rfl, fun i x y hx => by simp at hx⟩
theorem VRL.tail {u v : Value} {us vs : List Value} (h : VRL ι N (u :: us) (v :: vs)) : VRL ι N us vs :=
 ⟨by simpa using h.1, fun i x y hx hy => h.2 (i + 1) x y (by simpa using hx) (by simpa using hy)⟩
theorem VRL.head {u v : Value} {us vs : List Value} (h : VRL ι N (u :: us) (v :: vs)) : VR ι N u v := h.2 0 u v rfl rfl
theorem evs_sim : ∀ {xs : List Operand} {ys : List Opd} {us : List Value}, copds E xs = some ys → TR ι N s.t a.tmps → evs E s ys = some us → VRL ι N us (xs.map a.eval)
  | [], ys, us, hc, T, he => by simp [copds] at hc; subst hc; simp [evs] at he; subst he; exact .nil
  | x :: xs, ys, us, hc, T, he => by
    simp only [copds] at hc
    split at hc
    · rename_i y l hy hl
      injection hc with hc; subst hc
      simp only [evs] at he
      split at he
      · rename_i v vs hv hvs
        injection he with he; subst he
        exact .cons (ev_sim hy T hv) (evs_sim hl T hvs)
      · simp at he
    · simp at hc
theorem VRL.get {us vs : List Value} (h : VRL ι N us vs) {i : Nat} {u : Value} (hu : us[i]? = some u) : ∃ v, vs[i]? = some v ∧ VR ι N u v := by
 have hi : i < vs.length := by rw [← h.1]; exact (List.getElem?_eq_some_iff.1 hu).1
 exact ⟨vs[i], List.getElem?_eq_getElem hi, h.2 i u _ hu (List.getElem?_eq_getElem hi)⟩
theorem VRL.more {ι' : Iota} {N' : Nat} {us vs : List Value} (h : VRL ι N us vs) (hN : N ≤ N') (hi : Up N ι ι') : VRL ι' N' us vs :=
 ⟨h.1, fun i u v hu hv => (h.2 i u v hu hv).more hN hi⟩
theorem VRL.append {us vs us' vs' : List Value} (h : VRL ι N us vs) (h' : VRL ι N us' vs') : VRL ι N (us ++ us') (vs ++ vs') := by
 refine ⟨by simp [h.1, h'.1], fun i u v hu hv => ?_⟩
 rcases Nat.lt_or_ge i us.length with hi | hi
 · rw [List.getElem?_append_left hi] at hu
   rw [List.getElem?_append_left (by rw [← h.1]; exact hi)] at hv
   exact h.2 i u v hu hv
 · rw [List.getElem?_append_right hi] at hu
   rw [List.getElem?_append_right (by rw [← h.1]; exact hi), ← h.1] at hv
   exact h'.2 _ u v hu hv
theorem VRL.drop {us vs : List Value} (h : VRL ι N us vs) (n : Nat) : VRL ι N (us.drop n) (vs.drop n) :=
 ⟨by simp [h.1], fun i u v hu hv => h.2 (n + i) u v (by simpa using hu) (by simpa using hv)⟩
theorem VRL.take {us vs : List Value} (h : VRL ι N us vs) (n : Nat) : VRL ι N (us.take n) (vs.take n) := by
 refine ⟨by simp [h.1], fun i u v hu hv => ?_⟩
 rw [List.getElem?_take] at hu hv
 split at hu
 · rename_i hi; rw [if_pos hi] at hv; exact h.2 i u v hu hv
 · simp at hu
theorem VRL.set {us vs : List Value} {x y : Value} (h : VRL ι N us vs) (n : Nat) (hx : VR ι N x y) : VRL ι N (us.set n x) (vs.set n y) := by
  refine ⟨by simp [h.1], fun i u v hu hv => ?_⟩
  by_cases hi : n = i
  · subst hi
    rw [List.getElem?_set_self'] at hu hv
    cases hn : us[n]? with
    | none => simp [hn] at hu
    | some z =>
      obtain ⟨z', hz', _⟩ := h.get hn
      simp [hn] at hu; simp [hz'] at hv; subst hu; subst hv; exact hx
  · rw [List.getElem?_set_ne hi] at hu hv; exact h.2 i u v hu hv
theorem VRL.toArray {us vs : List Value} (h : VRL ι N us vs) : VR ι N (.agg us.toArray) (.agg vs.toArray) :=
 .agg _ _ (by simp [h.1]) fun i u v hu hv => h.2 i u v (by simpa using hu) (by simpa using hv)
theorem vrc_list {l : List Value} (h : l.all vrc1 = true) : VRL ι N l l :=
 ⟨rfl, fun i u v hu hv => by
  rw [hu] at hv; injection hv with hv; subst hv
  exact vrc1_vr (List.all_eq_true.1 h u (List.mem_of_getElem? hu))⟩
end
theorem cells_one {v : Value} (h : v.oneCell' = true) : v.cells = #[v] := by
 cases v <;> first | rfl | (simp [Value.oneCell'] at h)
theorem chunk_len : ∀ (n z : Nat) (c : List Value), n * z ≤ c.length → (chunk n z c).length = n
  | 0, _, _, _ => by simp [chunk]
  | n + 1, 1, c, h => by
    cases c with
    | nil => simp at h
    | cons v r => simp only [chunk, List.length_cons]; rw [chunk_len n 1 r (by simp at h; omega)]
  | n + 1, 0, c, h => by simp only [chunk, List.length_cons]; rw [chunk_len n 0 _ (by simp)]
  | n + 1, z + 2, c, h => by simp only [chunk, List.length_cons]; rw [chunk_len n _ _ (by rw [List.length_drop]; rw [Nat.succ_mul] at h; omega)]
theorem chunk_get {z : Nat} (hz : 0 < z) : ∀ (n : Nat) (c : List Value), n * z ≤ c.length → (∀ (i : Nat) (u : Value), i < n * z → c[i]? = some u → u.oneCell' = true) →
    ∀ (i : Nat) (e : Value), (chunk n z c)[i]? = some e → e.cells.size = z ∧ i < n ∧ ∀ (j : Nat) (u : Value), e.cells[j]? = some u → c[i * z + j]? = some u
  | 0, c, h, h1, i, e, he => by simp [chunk] at he
  | n + 1, c, h, h1, i, e, he => by
    have hsucc : (n + 1) * z = n * z + z := Nat.succ_mul _ _
    by_cases hz1 : z = 1
    · subst hz1
      cases c with
      | nil => simp at h
      | cons v r =>
        simp only [chunk] at he
        cases i with
        | zero =>
          simp at he; subst he
          rw [cells_one (h1 0 v (by omega) rfl)]
          refine ⟨rfl, by omega, fun j u hu => ?_⟩
          cases j with
          | zero => simpa using hu
          | succ j => simp at hu
        | succ i =>
          obtain ⟨h2, h3, h4⟩ := chunk_get hz n r (by simp at h; omega) (fun j u hj hu => h1 (j + 1) u (by omega) (by simpa using hu)) i e (by simpa using he)
          refine ⟨h2, by omega, fun j u hu => ?_⟩
          rw [show (i + 1) * 1 + j = (i * 1 + j) + 1 by omega, List.getElem?_cons_succ]
          exact h4 j u hu
    · have hc : chunk (n + 1) z c = .agg ⟨c.take z⟩ :: chunk n z (c.drop z) := by
        match z, hz, hz1 with
        | z + 2, _, _ => rfl
      rw [hc] at he
      cases i with
      | zero =>
        simp at he; subst he
        refine ⟨by simp [Value.cells]; omega, by omega, fun j u hu => ?_⟩
        simp only [Value.cells, List.getElem?_toArray, List.getElem?_take] at hu
        split at hu
        · simpa using hu
        · cases hu
      | succ i =>
        obtain ⟨h2, h3, h4⟩ := chunk_get hz n (c.drop z) (by simp; omega) (fun j u hj hu => h1 (z + j) u (by omega) (by simpa using hu)) i e (by simpa using he)
        refine ⟨h2, by omega, fun j u hu => ?_⟩
        have := h4 j u hu
        rw [List.getElem?_drop] at this
        rw [show (i + 1) * z + j = z + (i * z + j) by rw [Nat.succ_mul]; omega]
        exact this
theorem subl_len {es : List Value} {l h : Nat} {hi : Bool} (h1 : h ≤ es.length) (h2 : hi = true ∨ h = es.length) : (subl es l h hi).length = h - l := by
 unfold subl; split
 · simp; omega
 · rcases h2 with h2 | h2
   · contradiction
   · simp [h2]
theorem subl_get {es : List Value} {l h : Nat} {hi : Bool} {i : Nat} {e : Value} (he : (subl es l h hi)[i]? = some e) : es[l + i]? = some e := by
 unfold subl at he; split at he
 · rw [List.getElem?_take] at he; split at he
   · simpa using he
   · cases he
 · simpa using he
theorem flat_len {z : Nat} : ∀ (es : List Value), (∀ (i : Nat) (e : Value), es[i]? = some e → e.cells.size = z) → (flat es).length = es.length * z
  | [], _ => by simp [flat]
  | e :: r, h => by
    simp only [flat, List.length_append, Array.length_toList, List.length_cons]
    rw [h 0 e rfl, flat_len r (fun i e he => h (i + 1) e (by simpa using he)), Nat.succ_mul]; omega
theorem flat_get {z : Nat} (hz : 0 < z) : ∀ (es : List Value) (i : Nat) (u : Value), (∀ (i : Nat) (e : Value), es[i]? = some e → e.cells.size = z) → (flat es)[i]? = some u → ∃ e, es[i / z]? = some e ∧ e.cells[i % z]? = some u
  | [], i, u, _, h => by simp [flat] at h
  | e :: r, i, u, h, hu => by
    have he : e.cells.size = z := h 0 e rfl
    simp only [flat] at hu
    rcases Nat.lt_or_ge i z with hi | hi
    · rw [List.getElem?_append_left (by simpa [he] using hi)] at hu
      refine ⟨e, by rw [Nat.div_eq_of_lt hi]; rfl, ?_⟩
      rw [Nat.mod_eq_of_lt hi]; simpa using hu
    · rw [List.getElem?_append_right (by simpa [he] using hi)] at hu
      simp only [Array.length_toList, he] at hu
      obtain ⟨e', h1, h2⟩ := flat_get hz r (i - z) u (fun i e he => h (i + 1) e (by simpa using he)) hu
      refine ⟨e', ?_, ?_⟩
      · rw [Nat.div_eq_sub_div hz hi, List.getElem?_cons_succ]; exact h1
      · rw [Nat.mod_eq_sub_mod hi]; exact h2
theorem flat_mk {z : Nat} (hz : 0 < z) : ∀ (es : List Value) (i j : Nat) (e u : Value), (∀ (i : Nat) (e : Value), es[i]? = some e → e.cells.size = z) → es[i]? = some e → e.cells[j]? = some u → (flat es)[i * z + j]? = some u
  | [], i, j, e, u, _, he, _ => by simp at he
  | e' :: r, 0, j, e, u, h, he, hu => by
    simp at he; subst he
    simp only [flat, Nat.zero_mul, Nat.zero_add]
    rw [List.getElem?_append_left (by simpa using (Array.getElem?_eq_some_iff.1 hu).1)]; simpa using hu
  | e' :: r, i + 1, j, e, u, h, he, hu => by
    have hs := h 0 e' rfl
    simp only [flat]
    rw [List.getElem?_append_right (by simp [hs, Nat.succ_mul]; omega)]
    have := flat_mk hz r i j e u (fun i e he => h (i + 1) e (by simpa using he)) (by simpa using he) hu
    rw [← this]; congr 1; simp [hs, Nat.succ_mul]; omega
theorem VR.subl {ι : Iota} {N : Nat} {z l h M c' n : Nat} {es : List Value} {base : Option Addr} {hi : Bool} (hv : VR ι N (VS z es) (.slice base n c')) (hl : l ≤ h) (hn : h ≤ es.length) (hM : h ≤ M) (hMc : M ≤ c') (hh : hi = true ∨ h = es.length) :
    VR ι N (VS z (AM.subl es l h hi)) (.slice (base.map fun a => if M = l then a else a.add (l * z)) (h - l) (M - l)) := by
  have hlen := subl_len (l := l) hn hh
  by_cases h0 : h = l
  · have : AM.subl es l h hi = [] := List.eq_nil_of_length_eq_zero (by omega)
    rw [this, show h - l = 0 by omega]
    cases base with
    | none =>
      rcases hv.vs_of with ⟨_, hx | ⟨a', c2, hx⟩⟩ | ⟨r, f, c2, _, _, hx, _⟩
      · injection hx with _ h1 h2; subst h2
        rw [show M - l = 0 by omega]; exact .vsn z
      · cases hx
      · cases hx
    | some a => exact .vs0 z _ _
  · rcases hv.vs_of with ⟨hx, _⟩ | ⟨r, f, c2, hz, hle, hx, h2, h3⟩
    · subst hx; simp at hn; omega
    · injection hx with h4 h5 h6
      subst h4; subst h6
      have hMl : M ≠ l := by omega
      simp only [Option.map_some, if_neg hMl, Addr.add_lit]
      rw [← hlen]
      refine .vs_mk hz (by omega) (fun i e he => h2 _ e (subl_get he)) fun i j e u he hu => ?_
      obtain ⟨h7, v, h8, h9⟩ := h3 _ j e u (subl_get he) hu
      exact ⟨h7, v, by rw [← h8]; congr 1; rw [Nat.add_mul]; omega, h9⟩
end Go.Proofs.Ytjnpdnlgkepmcaa.AM
