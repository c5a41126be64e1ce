/- Loads, and the operations that write or make memory. Conditions: none. -/
import Derived.Test.YtjnpdnlgkepmcaaAmPure3
import Derived.Laws.Append
namespace Go.Proofs.Ytjnpdnlgkepmcaa.AM
set_option linter.unusedSimpArgs false
set_option linter.unusedVariables false
open Go Go.RowKit
theorem oneL_mem {l : List Value} (h : oneL l = true) {i : Nat} {u : Value} (hu : l[i]? = some u) : u.oneCell' = true := by
  induction l generalizing i with
  | nil => simp at hu
  | cons v r ih =>
    simp only [oneL, Bool.and_eq_true] at h
    cases i with
    | zero => simp at hu; subst hu; exact h.1
    | succ i => exact ih h.2 (by simpa using hu)
theorem vrc1_one {l : List Value} (h : l.all vrc1 = true) {i : Nat} {u : Value} (hu : l[i]? = some u) : u.oneCell' = true := by
 have := List.all_eq_true.1 h u (List.mem_of_getElem? hu)
 unfold vrc1 at this
 split at this <;> first | rfl | (simp at this)
section
variable {E : Env} {ι : Iota} {s : St} {a : Act} {w : World}
theorem cells_list {N r : Nat} : ∀ (us : List Value) (o : Nat), (∀ (i : Nat) (u : Value), us[i]? = some u → ∃ v, w.cell? ⟨r, o + i, none⟩ = some v ∧ VR ι N u v) →
    ∃ vs, VRL ι N us vs ∧ ∀ j v, vs[j]? = some v → w.cell? ⟨r, o + j, none⟩ = some v
  | [], o, _ => ⟨[], .nil, fun j v h => by simp at h⟩
  | u :: us, o, h => by
    obtain ⟨v, h1, h2⟩ := h 0 u rfl
    obtain ⟨vs, h3, h4⟩ := cells_list us (o + 1) (fun i x hx => by
      obtain ⟨v, h5, h6⟩ := h (i + 1) x (by simpa using hx)
      exact ⟨v, by rw [show o + 1 + i = o + (i + 1) by omega]; exact h5, h6⟩)
    refine ⟨v :: vs, .cons h2 h3, fun j x hx => ?_⟩
    cases j with
    | zero => simp at hx; subst hx; exact h1
    | succ j => rw [show o + (j + 1) = o + 1 + j by omega]; exact h4 j x (by simpa using hx)
theorem run_cells {P : Program} {r f n : Nat} {vs : List Value} (hn : vs.length = n) (h : ∀ j v, vs[j]? = some v → w.cell? ⟨r, f + j, none⟩ = some v) :
  (loadCells ⟨r, f, none⟩ n).run P w = .ok vs.toArray w := by
 subst hn
 exact run_loadCells_list (P := P) w ⟨r, f, none⟩ vs (fun j v hv => by rw [Addr.add_lit]; exact h j v hv)
theorem lev_sim {o : Oper} {n : Nat} {g : Bool} {x : Opd} {u : Value} (hc : cop E o = some (.load n g x)) (R : Rel ι s.h w) (T : TR ι s.h.next s.t a.tmps) (he : lev E s n g x = some u) :
    Yld E ι s.h.next a w o u := by
  obtain ⟨dst, op, ty, pos, after, guard⟩ := o
  have hop : ∃ t y, op = .load t y ∧ tsz E t = some n ∧ tagg E t = some g ∧ copd E y = some x := by
    cases op
    case load t y =>
      simp only [cop] at hc
      split at hc
      · rename_i n' g' x' h1 h2 h3
        injection hc with hc
        injection hc with e1 e2 e3
        subst e1; subst e2; subst e3
        exact ⟨t, y, rfl, h1, h2, h3⟩
      · simp at hc
    case call c =>
      exfalso
      obtain ⟨callee, args, argTypes⟩ := c
      cases callee with
      | value f => cases f <;> simp only [cop] at hc <;> (repeat' split at hc) <;> simp at hc
      | invoke r m => simp [cop] at hc
      | builtin b =>
        cases b <;> simp only [cop] at hc <;> (repeat' split at hc) <;> first | (simp at hc; done) | skip
        obtain ⟨sz, _, hc⟩ := bind_some hc
        split at hc <;> simp at hc
    case binOp op t x y t2 =>
      exfalso
      simp only [cop, cbin] at hc
      (repeat' split at hc) <;> simp at hc
    case makeFunc fn f c =>
      exfalso
      cases fn <;> simp only [cop] at hc <;> (repeat' split at hc) <;> simp at hc
    case makeMap t r =>
      exfalso
      cases r <;> simp only [cop] at hc <;> (repeat' split at hc) <;> simp at hc
    case lookup t x i c =>
      exfalso
      cases c <;> simp only [cop] at hc <;> (repeat' split at hc) <;> simp at hc
    case mapUpdate t x i v =>
      exfalso
      by_cases hv : v = .const (.bool true)
      · subst hv
        simp only [cop] at hc
        (repeat' split at hc) <;> simp at hc
      · unfold cop at hc
        split at hc <;> first | (rename_i h; simp at h; done) | (rename_i h; injection h with h1 h2 h3 h4; exact absurd h4 hv) | cases hc
    all_goals
      exfalso
      simp only [cop, Option.map_eq_some_iff] at hc
      first
        | (simp at hc; done)
        | ((repeat' split at hc) <;> simp at hc)
  obtain ⟨t, y, rfl, hn, hg, hy⟩ := hop
  unfold lev at he
  obtain ⟨v, h2, he⟩ := bind_some he
  split at he
  · rename_i q hq
    obtain ⟨r, f, hx, hcell⟩ := (ev_sim hy T h2).vp_of hq
    cases g with
    | true =>
      simp only [if_true] at he
      have key : q.2 + n ≤ q.1.cells.size ∧ u = .agg ((q.1.cells.toList.drop q.2).take n).toArray := by
        unfold ldV at he
        split at he
        · rename_i xs h0 h1
          split at he
          · rename_i hsz
            injection he with he
            refine ⟨by rw [h0, h1]; simp [Value.cells]; omega, ?_⟩
            rw [← he, h0, h1]
            congr 1
            rw [← Array.toList_inj]
            simp only [Value.cells, List.drop_zero, ← hsz]
            exact (List.take_of_length_le (by simp)).symm
          · split at he
            · rename_i hle
              injection he with he
              refine ⟨by rw [h0, h1]; simp [Value.cells]; omega, ?_⟩
              rw [← he, h0, h1]
              congr 1
              rw [← Array.toList_inj]
              simp [Value.cells, List.extract_eq_take_drop]
            · cases he
        · split at he
          · rename_i hle
            injection he with he
            refine ⟨hle, ?_⟩
            rw [← he]
            congr 1
            rw [← Array.toList_inj]
            simp [List.extract_eq_take_drop]
          · cases he
      obtain ⟨hle, rfl⟩ := key
      obtain ⟨vs, h5, h6⟩ := cells_list (ι := ι) (w := w) (r := r) (N := s.h.next) ((q.1.cells.toList.drop q.2).take n) (f + q.2) (fun i u hu => by
        rw [List.getElem?_take] at hu
        split at hu
        · rw [List.getElem?_drop] at hu
          obtain ⟨_, v, h7, h8⟩ := hcell (q.2 + i) u (by simpa using hu)
          exact ⟨v, by rw [Nat.add_assoc]; exact R.im _ _ _ h7, h8⟩
        · simp at hu)
      have hlen : vs.length = n := by rw [← h5.1]; simp; omega
      refine yld_of rfl ⟨.agg vs.toArray, ?_, h5.toArray⟩
      simp only [Instr.loadAt, Sem.run_bind, hx, Instr.sureAddr, Sem.run_pure, Result.andThen, loadVar, run_isAgg hg, if_true, run_sizeOf hn, run_cells hlen h6]
    | false =>
      simp only [Bool.false_eq_true, if_false] at he
      obtain ⟨_, v', h7, h8⟩ := hcell q.2 u he
      refine yld_of rfl ⟨v', ?_, h8⟩
      simp only [Instr.loadAt, Sem.run_bind, hx, Instr.sureAddr, Sem.run_pure, Result.andThen, loadVar, run_isAgg hg, Bool.false_eq_true, if_false, run_load, R.im _ _ _ h7]
  obtain ⟨p, h3, he⟩ := bind_some he
  obtain ⟨c, h4, he⟩ := bind_some he
  obtain ⟨_, hlt, hx⟩ := (ev_sim hy T h2).ptr_of h3
  have hCR := (R.row h4).2
  cases g with
  | true =>
    simp only [if_true] at he
    split at he
    · rename_i hle
      injection he with he; subst he
      obtain ⟨vs, h5, h6⟩ := cells_list (ι := ι) (w := w) (r := (ι p.1).r) (N := s.h.next) ((c.drop p.2).take n) ((ι p.1).f + p.2) (fun i u hu => by
        rw [List.getElem?_take] at hu
        split at hu
        · rw [List.getElem?_drop] at hu
          obtain ⟨_, v, h7, h8⟩ := hCR (p.2 + i) u hu
          exact ⟨v, by rw [Nat.add_assoc]; exact h7, h8⟩
        · simp at hu)
      have hlen : vs.length = n := by rw [← h5.1]; simp; omega
      refine yld_of rfl ⟨.agg vs.toArray, ?_, h5.toArray⟩
      simp only [Instr.loadAt, Sem.run_bind, hx, Instr.sureAddr, Sem.run_pure, Result.andThen, loadVar, run_isAgg hg, if_true, run_sizeOf hn, run_cells hlen h6]
    · simp at he
  | false =>
    simp only [Bool.false_eq_true, if_false] at he
    obtain ⟨_, v', h7, h8⟩ := hCR p.2 u he
    refine yld_of rfl ⟨v', ?_, h8⟩
    simp only [Instr.loadAt, Sem.run_bind, hx, Instr.sureAddr, Sem.run_pure, Result.andThen, loadVar, run_isAgg hg, Bool.false_eq_true, if_false, run_load, h7]
def gset (c : List Value) (o : Nat) (u : Value) : List Value := if o < c.length then c.set o u else c ++ [u]
def gsets : List Value → Nat → List Value → List Value
 | c, _, [] => c
 | c, o, u :: us => gsets (gset c o u) (o + 1) us
theorem gsets_set : ∀ (us : List Value) (c : List Value) (o : Nat), o + us.length ≤ c.length → gsets c o us = setCells c o us
  | [], c, o, _ => rfl
  | u :: us, c, o, h => by
    simp only [List.length_cons] at h
    simp only [gsets, setCells, gset, if_pos (show o < c.length by omega)]
    exact gsets_set us _ _ (by simp; omega)
theorem gsets_app : ∀ (us : List Value) (c : List Value), gsets c c.length us = c ++ us
  | [], c => by simp [gsets]
  | u :: us, c => by
    simp only [gsets, gset, Nat.lt_irrefl, if_false]
    have := gsets_app us (c ++ [u])
    simp only [List.length_append, List.length_singleton] at this
    rw [this]; simp
theorem store_sim {P : Program} {b o : Nat} : ∀ (us vs : List Value) (k : Nat) (h : AHeap) (w : World) (c : List Value), Rel ι h w → h.get b = some (.rw c) → VRL ι h.next us vs →
    (∀ (i : Nat) (u : Value), us[i]? = some u → u.oneCell' = true) → o + k ≤ c.length → o + k + us.length ≤ (ι b).tot →
    ∃ w', (storeCells ⟨(ι b).r, (ι b).f + o, none⟩ vs k).run P w = .ok () w' ∧ Rel ι (h.put b (.rw (gsets c (o + k) us))) w' ∧ Ext ι h w ι (h.put b (.rw (gsets c (o + k) us))) w'
  | [], vs, k, h, w, c, R, hb, hl, h1, hk, ht => by
    have : vs = [] := List.eq_nil_of_length_eq_zero (by simpa using hl.1.symm)
    subst this
    have hg : ∀ x, (h.put b (.rw c)).get x = h.get x := fun x => by
      rw [AHeap.get_put]; split
      · rename_i hx; subst hx; rw [hb]; rfl
      · rfl
    exact ⟨w, rfl, R.sub (Nat.le_refl _) (fun x y hx => by rw [← hg]; exact hx), Ext.sub (Nat.le_refl _) (fun x y hx => by rw [← hg]; exact hx)⟩
  | u :: us, vs, k, h, w, c, R, hb, hl, h1, hk, ht => by
    cases vs with
    | nil => simp [VRL] at hl
    | cons v vs =>
      simp only [List.length_cons] at ht
      have hone := h1 0 u rfl
      have hv := hl.head
      obtain ⟨hlen, htot, _⟩ := R.rw b c hb
      obtain ⟨⟨v0, hv0⟩, hfz, _⟩ := htot (o + k) (by omega)
      have hgl : (gset c (o + k) u).length ≤ (ι b).tot ∧ o + (k + 1) ≤ (gset c (o + k) u).length := by
        unfold gset; split
        · rename_i hlt; simp; omega
        · simp; omega
      obtain ⟨R1, X1⟩ := R.set (o := o + k) (c' := gset c (o + k) u) (u := u) (v := v) hb (by omega) hgl.1 (fun i x hx => by
        unfold gset at hx
        split at hx
        · rename_i hlt
          by_cases hi : o + k = i
          · subst hi; rw [List.getElem?_set_self hlt] at hx; exact .inl ⟨rfl, by injection hx with hx; exact hx.symm⟩
          · rw [List.getElem?_set_ne hi] at hx; exact .inr ⟨fun e => hi e.symm, hx⟩
        · rename_i hge
          rcases Nat.lt_or_ge i c.length with hi | hi
          · rw [List.getElem?_append_left hi] at hx; exact .inr ⟨by omega, hx⟩
          · rw [List.getElem?_append_right hi] at hx
            have hi0 : i - c.length = 0 := by
              have := (List.getElem?_eq_some_iff.1 hx).1; simp at this; omega
            rw [hi0] at hx; simp at hx
            exact .inl ⟨by omega, hx.symm⟩) hv hone
      have hb1 : (h.put b (.rw (gset c (o + k) u))).get b = some (.rw (gset c (o + k) u)) := AHeap.get_put_same _ _ _
      obtain ⟨w', h2, R2, X2⟩ := store_sim (P := P) (b := b) (o := o) us vs (k + 1) _ _ _ R1 hb1 hl.tail (fun i x hx => h1 (i + 1) x (by simpa using hx)) hgl.2 (by omega)
      have hput : ∀ y x, ((h.put b (.rw (gset c (o + k) u))).put b y).get x = (h.put b y).get x := fun y x => by
        simp only [AHeap.get_put]; split <;> rfl
      refine ⟨w', ?_, R2.sub (Nat.le_refl _) (fun x y hx => by rw [← hx]; exact hput _ x), X1.trans (X2.trans (Ext.sub (Nat.le_refl _) (fun x y hx => by rw [← hx]; exact hput _ x)))⟩
      · simp only [storeCells, Sem.run_bind, Addr.add_lit, Nat.add_assoc]
        rw [run_store P w _ v .plain (hv.oneCell hone)]
        simp only [hv0, hfz, Bool.false_eq_true, if_false, Result.andThen]
        exact h2
end
end Go.Proofs.Ytjnpdnlgkepmcaa.AM
