/- The operations that write or make memory, one theorem. Conditions: none. -/
import Derived.Test.YtfdapegcngmknaaAmWrite
import Derived.IntWalk
namespace Go.Proofs.Ytfdapegcngmknaa.AM
open Go Go.RowKit

theorem Rel.drew {ι : Iota} {h : AHeap} {w : World} (R : Rel ι h w) : Rel ι h w.drew := ⟨R.lt, R.real, R.ro, R.rw, R.loop, R.sep⟩
theorem Ext.drew {ι ι' : Iota} {h h' : AHeap} {w w' : World} (X : Ext ι h w ι' h' w') : Ext ι h w ι' h' w'.drew := ⟨X.next, X.iota, X.size, X.frame, X.os, X.tape, X.output⟩
theorem Rel.undrew {ι : Iota} {h : AHeap} {w : World} (R : Rel ι h w.drew) : Rel ι h w := ⟨R.lt, R.real, R.ro, R.rw, R.loop, R.sep⟩

/-- What an operation has done. -/
def Done (E : Env) (ι : Iota) (s : St) (a : Act) (w : World) (o : Oper) (r : Option Value × AHeap) : Prop :=
  ∃ ι' w' nx, (execOp a.eval o).run E.P w = .ok nx w' ∧ (match r.1 with | some v => ∃ rv, nx = .value rv ∧ VR ι' r.2.next v rv | none => nx = .skip) ∧ Rel ι' r.2 w' ∧ Ext ι s.h w ι' r.2 w'

theorem replL_len {n : Nat} {z : List Value} : (replL n z).length = n * z.length := by
  unfold replL; induction n with
  | zero => simp
  | succ n ih => simp [List.replicate_succ, ih, Nat.succ_mul, Nat.add_comm]

theorem replL_get {z : List Value} (hz : 0 < z.length) : ∀ (n i : Nat), i < n * z.length → (replL n z)[i]? = z[i % z.length]?
  | 0, i, h => by simp at h
  | n + 1, i, h => by
    have hs : replL (n + 1) z = z ++ replL n z := by simp [replL, List.replicate_succ]
    rw [hs]
    rcases Nat.lt_or_ge i z.length with hi | hi
    · rw [List.getElem?_append_left hi, Nat.mod_eq_of_lt hi]
    · rw [List.getElem?_append_right hi, replL_get hz n _ (by rw [Nat.succ_mul] at h; omega)]
      congr 1
      rw [Nat.mod_eq_sub_mod hi]

theorem replL_all {z : List Value} (h : z.all vrc1 = true) (n : Nat) : (replL n z).all vrc1 = true := by
  induction n with
  | zero => rfl
  | succ n ih => simp [replL, List.replicate_succ] at ih ⊢; exact ⟨by simpa using h, ih⟩

theorem range_cells {zero : Array Value} {n : Nat} (hz : 0 < zero.size) : ((Array.range (n * zero.size)).map (zero[· % zero.size]!)).toList = replL n zero.toList := by
  apply List.ext_getElem?
  intro i
  rcases Nat.lt_or_ge i (n * zero.size) with hi | hi
  · rw [replL_get (by simpa using hz) n i (by simpa using hi)]
    have hm : i % zero.size < zero.size := Nat.mod_lt _ hz
    have h1 : zero[i % zero.size]! = zero[i % zero.size] := getElem!_pos zero _ hm
    simp [Array.toList_map, Array.toList_range, hi, h1]
  · rw [List.getElem?_eq_none (by simpa using hi), List.getElem?_eq_none (by rw [replL_len]; simpa using hi)]

section
variable {E : Env} {ι : Iota} {s : St} {a : Act} {w : World}

theorem new_done {o : Oper} {c : List Value} {cs : Array Value} {t : TypeId} {u : Value} {w1 : World} {f : Addr → Value} (R : Rel ι s.h w1) (hw : Ext ι s.h w ι s.h w1) (hl : c.length ≤ cs.size)
    (hc : ∀ (i : Nat) (u : Value), c[i]? = some u → u.oneCell' = true ∧ ∃ v, cs[i]? = some v ∧ VR ι s.h.next u v)
    (hrun : (execOp a.eval o).run E.P w = .ok (.value (f ⟨w1.heap.size, 0, none⟩)) (w1.alloc (.cells cs t)))
    (hv : VR (upd ι s.h.next ⟨w1.heap.size, 0, cs.size⟩) (s.h.next + 1) u (f ⟨w1.heap.size, 0, none⟩)) : Done E ι s a w o (some u, s.h.alloc (.rw c)) := by
  obtain ⟨R1, X1⟩ := R.new (t := t) hl hc
  exact ⟨_, _, _, hrun, ⟨_, rfl, hv⟩, R1, hw.trans X1⟩

/-- A slice on a new block. -/
theorem vr_new {N r n c' k : Nat} {sz : Nat} (hn : n ≤ c') (h0 : k = 0 → c' = n) (hk : k = 0 ∨ k = sz + 1) {tot : Nat} (ht : c' * sz ≤ tot) :
    VR (upd ι N ⟨r, 0, tot⟩) (N + 1) (mkSl N 0 n k) (.slice (some ⟨r, 0, none⟩) n c') := by
  refine .slice N 0 n k _ c' (by omega) (.inr ?_) hn h0 (fun z hz => .inr ?_)
  · rw [upd_same]
  · rw [upd_same]
    have : z + 1 = sz := by omega
    rw [this]; simpa using ht

theorem alloc_sim {o : Oper} {z : List Value} {r : Option Value × AHeap} (hc : ∃ t, o.op = .alloc t ∧ tzero E t = some z) (R : Rel ι s.h w) (he : wev E s (.alloc z) = some r) : Done E ι s a w o r := by
  obtain ⟨t, ho, hz⟩ := hc
  simp only [wev, Option.some.injEq] at he; subst he
  obtain ⟨zv, hz1, hz2, hz3⟩ := run_zero (w := w) hz
  have hzz : zv.cells = z.toArray := by rw [← hz2]
  refine new_done (t := t) (cs := z.toArray) (f := fun b => .pointer (some b)) R (Ext.refl _ _ _) (by simp) (fun i u hu => ⟨vrc1_one hz3 hu, u, by simpa using hu, (vrc_list hz3).2 i u u hu hu⟩) ?_ ?_
  · simp [execOp, ho, Instr.alloc, hz1, newVar, newRow, hzz]
  · have := VR.ptr (ι := upd ι s.h.next ⟨w.heap.size, 0, z.toArray.size⟩) (N := s.h.next + 1) s.h.next 0 (by omega)
    rw [upd_same] at this
    exact this

theorem box_sim {o : Oper} {x : Opd} {r : Option Value × AHeap} (hc : ∃ t y, o.op = .box t y ∧ copd E y = some x) (R : Rel ι s.h w) (T : TR ι s.h.next s.t a.tmps) (he : wev E s (.box x) = some r) : Done E ι s a w o r := by
  obtain ⟨t, y, ho, hy⟩ := hc
  simp only [wev] at he
  obtain ⟨v, h1, he⟩ := bind_some he
  split at he
  · simp at he
  · rename_i hone
    have hone : oneL v.cells.toList = true := by simpa using hone
    injection he with he; subst he
    have hcl := (ev_sim hy T h1).cells
    refine new_done (t := t) (cs := (a.eval y).cells) (f := fun b => .pointer (some b)) R (Ext.refl _ _ _) (by have := hcl.1; simp at this ⊢; omega) (fun i u hu => ?_) ?_ ?_
    · obtain ⟨z, h2, h3⟩ := hcl.get hu
      exact ⟨oneL_mem hone hu, z, by simpa using h2, h3⟩
    · simp [execOp, ho, Instr.box, newVar, newRow]
    · have := VR.ptr (ι := upd ι s.h.next ⟨w.heap.size, 0, (a.eval y).cells.size⟩) (N := s.h.next + 1) s.h.next 0 (by omega)
      rw [upd_same] at this
      exact this

theorem bslice_sim {o : Oper} {len sz : Nat} {z : List Value} {l : List (Nat × Nat × Opd)} {r : Option Value × AHeap}
    (hc : ∃ t e ps, o.op = .buildSlice t len ps ∧ E.P.underlying t = some (.slice e) ∧ tsz E e = some sz ∧ tzero E e = some z ∧ len * sz ≤ 65536 ∧ z.length = sz ∧ 0 < sz ∧ cparts E (fun i => some (i * sz, sz)) ps.toList = some l)
    (R : Rel ι s.h w) (T : TR ι s.h.next s.t a.tmps) (he : wev E s (.bslice len sz z l) = some r) : Done E ι s a w o r := by
  obtain ⟨t, e, ps, ho, hu, hsz, hz, hb, hzl, hpos, hps⟩ := hc
  simp only [wev] at he
  obtain ⟨qs, h1, he⟩ := bind_some he
  obtain ⟨c, h2, he⟩ := bind_some he
  split at he
  · simp at he
  · rename_i hone
    have hone : oneL c = true := by simpa using hone
    injection he with he; subst he
    obtain ⟨zv, hz1, hz2, hz3⟩ := run_zero (w := w) hz
    have hzz : zv.cells = z.toArray := by rw [← hz2]
    obtain ⟨out, h3, h4⟩ := parts_sim hps T h1 _ _ c (vrc_list (replL_all hz3 len)) h2
    have hinit : (Array.range (len * sz)).map (zv.cells[· % zv.cells.size]!) = (replL len z).toArray := by
      have := range_cells (zero := z.toArray) (n := len) (by simp; omega)
      rw [hzz]
      simp only [List.size_toArray, hzl] at this ⊢
      rw [← Array.toList_inj, this]
    have hfl : ∀ (us : List (Nat × Nat × Value)) (cs out : List Value), fillL cs us = some out → out.length = cs.length := by
      intro us
      induction us with
      | nil => intro cs out h; simp [fillL] at h; subst h; rfl
      | cons x us ih =>
        obtain ⟨off, size, v⟩ := x
        intro cs out h
        simp only [fillL] at h
        split at h
        · have hsc : ∀ (vs cs : List Value) (k : Nat), (setCells cs k vs).length = cs.length := by
            intro vs
            induction vs with
            | nil => intro cs k; rfl
            | cons v vs ih => intro cs k; simp only [setCells]; rw [ih]; simp
          rw [ih _ _ h, hsc]
        · simp at h
    have hclen : c.length = len * sz := by rw [hfl _ _ _ h2, replL_len, hzl]
    have hout : out.size = len * sz := by have := h4.1; rw [hclen] at this; simpa using this.symm
    refine new_done (t := e) (cs := out) (f := fun b => .slice (some b) len len) R (Ext.refl _ _ _) (by rw [hclen, hout]; exact Nat.le_refl _) (fun i u hu => ?_) ?_ ?_
    · obtain ⟨z, h5, h6⟩ := h4.get hu
      exact ⟨oneL_mem hone hu, z, by simpa using h5, h6⟩
    · have hps' : (ps.map fun (i, x) => (i, a.eval x)).toList = ps.toList.map fun (i, x) => (i, a.eval x) := by simp
      have hrl : ∀ f : Nat → Value, (Array.range 0).map f = #[] := fun f => by rw [Array.range_zero', Array.map_empty]
      by_cases h0 : len * sz = 0
      · have hrep : (replL len z).toArray = #[] := by rw [← hinit, h0, hrl]
        rw [hrep, ← hps'] at h3
        simp only [execOp, ho, Instr.buildSlice, Sem.run_bind, run_underlying hu, Result.andThen, run_sizeOf hsz]
        rw [if_neg (by omega)]
        simp only [Sem.run_pure, h0, if_true, Sem.run_bind, Result.andThen, hrl, h3, newRow, run_newObj, World.alloc_eq]
      · rw [← hps'] at h3
        simp only [execOp, ho, Instr.buildSlice, Sem.run_bind, run_underlying hu, Result.andThen, run_sizeOf hsz]
        rw [if_neg (by omega)]
        simp only [Sem.run_pure, h0, if_false, Sem.run_bind, Result.andThen, hz1, hinit, h3, newRow, run_newObj, World.alloc_eq]
    · exact vr_new (sz := sz) (Nat.le_refl _) (fun _ => rfl) (.inl rfl) (by rw [hout]; exact Nat.le_refl _)

theorem mslice_sim {o : Oper} {sz by_ : Nat} {z : List Value} {l c : Opd} {r : Option Value × AHeap}
    (hc : ∃ t e yl yc, o.op = .makeSlice t yl yc ∧ E.P.underlying t = some (.slice e) ∧ tsz E e = some sz ∧ tby E e = some by_ ∧ tzero E e = some z ∧ copd E yl = some l ∧ copd E yc = some c ∧ z.length = sz ∧ 0 < sz)
    (R : Rel ι s.h w) (T : TR ι s.h.next s.t a.tmps) (he : wev E s (.mslice sz by_ z l c) = some r) : Done E ι s a w o r := by
  obtain ⟨t, e, yl, yc, ho, hu, hsz, hby, hz, hl, hcc, hzl, hpos⟩ := hc
  simp only [wev] at he
  obtain ⟨ln, h1, he⟩ := bind_some he
  obtain ⟨v1, h2, h3⟩ := bind_some h1
  obtain ⟨cn, h4, he⟩ := bind_some he
  obtain ⟨v2, h5, h6⟩ := bind_some h4
  have hvl := ((ev_sim hl T h2).int_of h3).2
  have hvc := ((ev_sim hcc T h5).int_of h6).2
  split at he
  · rename_i hb
    obtain ⟨hl0, hlc, hbb, hc40⟩ := hb
    injection he with he; subst he
    obtain ⟨zv, hz1, hz2, hz3⟩ := run_zero (w := w) hz
    have hzz : zv.cells = z.toArray := by rw [← hz2]
    obtain ⟨i0, hi0, hi1⟩ := run_bytesOf (w := w) hby
    obtain ⟨lN, rfl⟩ : ∃ n : Nat, ln = (n : Int) := ⟨ln.toNat, by omega⟩
    obtain ⟨cN, rfl⟩ : ∃ n : Nat, cn = (n : Int) := ⟨cn.toNat, by omega⟩
    have hinit : (Array.range (cN * sz)).map (zv.cells[· % zv.cells.size]!) = (replL cN z).toArray := by
      have := range_cells (zero := z.toArray) (n := cN) (by simp; omega)
      rw [hzz]
      simp only [List.size_toArray, hzl] at this ⊢
      rw [← Array.toList_inj, this]
    have hw1 : IntKind.i64.wrap (lN : Int) = lN := IntWalk.i64_in _ (by omega)
    have hw2 : IntKind.i64.wrap (cN : Int) = cN := IntWalk.i64_in _ (by omega)
    have hlcN : lN ≤ cN := by omega
    refine new_done (t := e) (cs := (replL cN z).toArray) (f := fun b => .slice (some b) lN cN) R (Ext.refl _ _ _) ?_ (fun i u hu => ?_) ?_ ?_
    · simp only [List.size_toArray, replL_len, Int.toNat_natCast]; exact Nat.mul_le_mul_right _ hlcN
    · have hi : i < lN * z.length := by
        have := (List.getElem?_eq_some_iff.1 hu).1; rw [replL_len] at this; simpa using this
      have hi2 : i < cN * z.length := Nat.lt_of_lt_of_le hi (Nat.mul_le_mul_right _ hlcN)
      simp only [Int.toNat_natCast] at hu
      rw [replL_get (by omega) _ _ hi] at hu
      have hu2 : (replL cN z)[i]? = some u := by rw [replL_get (by omega) _ _ hi2]; exact hu
      exact ⟨vrc1_one hz3 hu, u, by simpa using hu2, (vrc_list hz3).2 _ u u hu hu⟩
    · have hrl : ∀ f : Nat → Value, (Array.range 0).map f = #[] := fun f => by rw [Array.range_zero', Array.map_empty]
      have hbN : ¬ ((by_ : Int) * (cN : Int) > 2 ^ 48) := by
        have : (by_ : Int) * (cN : Int) = (cN : Int) * by_ := Int.mul_comm _ _
        omega
      have hcond : (decide ((cN : Int) < 0) || decide ((by_ : Int) * (cN : Int) > 2 ^ 48) || decide ((lN : Int) < 0) || decide ((lN : Int) > cN)) = false := by
        simp only [Bool.or_eq_false_iff, decide_eq_false_iff_not]
        exact ⟨⟨⟨by omega, hbN⟩, by omega⟩, by omega⟩
      simp only [execOp, ho, Instr.makeSlice, Sem.run_bind, run_underlying hu, Result.andThen, hvl, hvc, asInt, asIntOf, Sem.run_pure, hi0, hi1, hw1, hw2]
      rw [if_neg (by intro hh; rw [hcond] at hh; cases hh)]
      by_cases h0 : cN * sz = 0
      · have hrep : (replL cN z).toArray = #[] := by rw [← hinit, h0, hrl]
        simp only [Sem.run_pure, Sem.run_bind, Result.andThen, run_askRoom, run_sizeOf hsz, Int.toNat_natCast, h0, if_true, hrl, hrep, newRow, run_newObj, World.alloc_eq]
      · simp only [Sem.run_pure, Sem.run_bind, Result.andThen, run_askRoom, run_sizeOf hsz, Int.toNat_natCast, h0, if_false, hz1, hinit, newRow, run_newObj, World.alloc_eq]
    · simp only [Int.toNat_natCast]
      refine vr_new (sz := sz) hlcN (fun hk => ?_) ?_ (by simp [replL_len, hzl])
      · split at hk
        · rename_i h0; omega
        · simp at hk
      · split
        · exact .inl rfl
        · exact .inr rfl
  · simp at he
end
end Go.Proofs.Ytfdapegcngmknaa.AM
