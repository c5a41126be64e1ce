/- The operations that write or make memory, one theorem. Conditions: none. -/
import Derived.Test.YtjnpdnlgkepmcaaAmWrite
import Derived.IntWalk
namespace Go.Proofs.Ytjnpdnlgkepmcaa.AM
set_option linter.unusedSimpArgs false
set_option linter.unusedVariables false
open Go Go.RowKit
theorem Rel.drew {ι : Iota} {h : AHeap} {w : World} (R : Rel ι h w) : Rel ι h w.drew := ⟨R.lt, R.real, R.rw, fun b n z hb => let t := R.tail b n z hb; ⟨t.hn, t.hz, t.nil, t.z0, t.room⟩, R.loop, R.sep, R.im, R.gb⟩
theorem Ext.drew {ι ι' : Iota} {h h' : AHeap} {w w' : World} (X : Ext ι h w ι' h' w') : Ext ι h w ι' h' w'.drew := ⟨X.next, X.up, X.size, X.frame, X.imf, X.os, X.tape, X.output⟩
def Done (E : Env) (ι : Iota) (s : St) (a : Act) (w : World) (o : Oper) (r : Option Value × AHeap) : Prop :=
 ∃ ι' w' nx, (execOp a.eval o).run E.P w = .ok nx w' ∧ (match r.1 with | some v => ∃ rv, nx = .value rv ∧ VR ι' r.2.next v rv | none => nx = .skip) ∧ Rel ι' r.2 w' ∧ Ext ι s.h w ι' r.2 w'
theorem replL_len {n : Nat} {z : List Value} : (replL n z).length = n * z.length := by
 unfold replL; induction n with
 | zero => simp
 | succ n ih => simp [List.replicate_succ, ih, Nat.succ_mul, Nat.add_comm]
theorem replL_get {z : List Value} (hz : 0 < z.length) : ∀ (n i : Nat), i < n * z.length → (replL n z)[i]? = z[i % z.length]?
  | 0, i, h => by simp at h
  | n + 1, i, h => by
    have hs : replL (n + 1) z = z ++ replL n z := by simp [replL, List.replicate_succ]
    rw [hs]
    rcases Nat.lt_or_ge i z.length with hi | hi
    · rw [List.getElem?_append_left hi, Nat.mod_eq_of_lt hi]
    · rw [List.getElem?_append_right hi, replL_get hz n _ (by rw [Nat.succ_mul] at h; omega)]
      congr 1
      rw [Nat.mod_eq_sub_mod hi]
theorem replL_all {z : List Value} (h : z.all vrc1 = true) (n : Nat) : (replL n z).all vrc1 = true := by
 induction n with
 | zero => rfl
 | succ n ih => simp [replL, List.replicate_succ] at ih ⊢; exact ⟨by simpa using h, ih⟩
theorem range_cells {zero : Array Value} {n : Nat} (hz : 0 < zero.size) : ((Array.range (n * zero.size)).map (zero[· % zero.size]!)).toList = replL n zero.toList := by
 apply List.ext_getElem?
 intro i
 rcases Nat.lt_or_ge i (n * zero.size) with hi | hi
 · rw [replL_get (by simpa using hz) n i (by simpa using hi)]
   have hm : i % zero.size < zero.size := Nat.mod_lt _ hz
   have h1 : zero[i % zero.size]! = zero[i % zero.size] := getElem!_pos zero _ hm
   simp [Array.toList_map, Array.toList_range, hi, h1]
 · rw [List.getElem?_eq_none (by simpa using hi), List.getElem?_eq_none (by rw [replL_len]; simpa using hi)]
section
variable {E : Env} {ι : Iota} {s : St} {a : Act} {w : World}
theorem new_done {o : Oper} {c : List Value} {cs : Array Value} {t : TypeId} {u : Value} {w1 : World} {f : Addr → Value} (R : Rel ι s.h w1) (hw : Ext ι s.h w ι s.h w1) (hl : c.length ≤ cs.size)
  (hc : ∀ (i : Nat) (u : Value), c[i]? = some u → u.oneCell' = true ∧ ∃ v, cs[i]? = some v ∧ VR ι s.h.next u v)
  (hrun : (execOp a.eval o).run E.P w = .ok (.value (f ⟨w1.heap.size, 0, none⟩)) (w1.alloc (.cells cs t)))
  (hv : VR (upd ι s.h.next ⟨w1.heap.size, 0, cs.size⟩) (s.h.next + 1) u (f ⟨w1.heap.size, 0, none⟩)) : Done E ι s a w o (some u, s.h.alloc (.rw c)) := by
 obtain ⟨R1, X1⟩ := R.new (t := t) hl hc
 exact ⟨_, _, _, hrun, ⟨_, rfl, hv⟩, R1, hw.trans X1⟩
theorem vr_new {N r n c' k : Nat} {sz : Nat} (hn : n ≤ c') (h0 : k = 0 → c' = n) (hk : k < 2 ∨ k = sz + 1) {tot : Nat} (ht : 2 ≤ k → c' * sz = tot) :
   VR (upd ι N ⟨r, 0, tot⟩) (N + 1) (mkSl N 0 n k) (.slice (some ⟨r, 0, none⟩) n c') := by
 refine .slice N 0 n k _ c' (by omega) (.inr ?_) hn h0 (fun z hz => ?_)
 · rw [upd_same]
 · rw [upd_same]
   have : z + 1 = sz := by omega
   rw [this]; simpa using ht (by omega)
theorem Rel.newTail {h : AHeap} {ι0 : Iota} {h0 : AHeap} {w0 w1 : World} {es : List Value} {cs : Array Value} {t : TypeId} {z c' : Nat} (R : Rel ι h w1) (X : Ext ι0 h0 w0 ι h w1) (hz : 0 < z) (hle : es.length ≤ c') (hsz : c' * z ≤ cs.size)
  (hc : ∀ (i : Nat) (e : Value), es[i]? = some e → e.cells.size = z)
  (h1 : ∀ (i j : Nat) (e u : Value), es[i]? = some e → e.cells[j]? = some u → u.oneCell' = true ∧ ∃ v, cs[i * z + j]? = some v ∧ VR ι h.next u v) :
  ∃ ι', VR ι' (h.next + 1) (VT z es h.next) (.slice (some ⟨w1.heap.size, 0, none⟩) es.length c') ∧ Rel ι' (h.alloc (.tail es.length z)) (w1.alloc (.cells cs t)) ∧ Ext ι0 h0 w0 ι' (h.alloc (.tail es.length z)) (w1.alloc (.cells cs t)) := by
 obtain ⟨RJ, XJ⟩ := R.junk (.cells cs t)
 have hnm : ¬ MutAt ι h w1.heap.size := fun ⟨b, o, hb, hr⟩ => by have := R.real b o _ hb hr; omega
 have hfresh : ∀ i, ι.im w1.heap.size i = none := fun i => by
  cases hi : ι.im w1.heap.size i with
  | none => rfl
  | some v => have := R.lt_of_im hi; omega
 have hmul : es.length * z ≤ c' * z := Nat.mul_le_mul_right _ hle
 have hcell : ∀ i, (w1.alloc (.cells cs t)).cell? ⟨w1.heap.size, i, none⟩ = cs[i]? := fun i => by simp
 have R1 := RJ.imx (r := w1.heap.size) (g := fun i => if i < es.length * z then cs[i]? else none) hnm (fun i v hv => by
  split at hv
  · rw [hcell]; exact hv
  · cases hv)
 have X1 := (X.trans XJ).imx (r := w1.heap.size) (g := fun i => if i < es.length * z then cs[i]? else none) (.inl X.size)
 generalize hι : addIm ι w1.heap.size (fun i => if i < es.length * z then cs[i]? else none) = ι1 at R1 X1
 have him : ∀ i, ι1.im w1.heap.size i = if i < es.length * z then cs[i]? else none := fun i => by rw [← hι]; exact imx_new (hfresh i)
 have hup : Up h.next ι ι1 := by rw [← hι]; exact .imx
 have hnm1 : ¬ MutAt ι1 h w1.heap.size := by rw [← hι]; exact fun hm => hnm (mut_imx.1 hm)
 have hT : TailR ⟨w1.heap.size, cs.size, z, es.length, false⟩ ι1.im es.length z (w1.alloc (.cells cs t)) := by
  refine ⟨rfl, rfl, fun hh => by simp at hh, fun h0 => absurd h0 (by omega), fun _ => ⟨by simp only; omega, fun i hi => ⟨⟨cs[i]'hi, by rw [hcell]; exact Array.getElem?_eq_getElem hi⟩, by simp, fun hle2 => ?_⟩⟩⟩
  simp only
  rw [him, if_neg (by omega)]
 have R2 := R1.addTail (t := ⟨w1.heap.size, cs.size, z, es.length, false⟩) (fun _ => ⟨by simp, hnm1⟩) hT
 have X2 := X1.addTail (t := ⟨w1.heap.size, cs.size, z, es.length, false⟩) (n := es.length) (z := z) (fun _ => .inl X.size)
 refine ⟨_, ?_, R2, X2⟩
 refine .vt z es h.next _ (by omega) ?_ (by simp [updT]) (fun _ => .inr ⟨by simp [updT], c', by simp [updT], hle, by simp [updT]; omega⟩)
 refine .vs_mk hz hle hc fun i j e u he hu => ?_
 obtain ⟨h2, v, h3, h4⟩ := h1 i j e u he hu
 refine ⟨h2, v, ?_, h4.more (by omega) (hup.trans .updT (Nat.le_refl _))⟩
 show ι1.im w1.heap.size (0 + i * z + j) = some v
 have hi : i < es.length := (List.getElem?_eq_some_iff.1 he).1
 have hj : j < z := by rw [← hc i e he]; exact (Array.getElem?_eq_some_iff.1 hu).1
 have : i * z + z ≤ es.length * z := by rw [← Nat.succ_mul]; exact Nat.mul_le_mul_right _ hi
 rw [him, Nat.zero_add, if_pos (by omega)]; exact h3
theorem Rel.regrow {h : AHeap} {ι0 : Iota} {h0 : AHeap} {w0 w1 : World} {es : List Value} {cs : Array Value} {t : TypeId} {z c' b n z0 : Nat} (R : Rel ι h w1) (X : Ext ι0 h0 w0 ι h w1) (hg : h.get b = some (.tail n z0)) (hless : n < es.length) (hz : 0 < z) (hle : es.length ≤ c') (hsz : c' * z ≤ cs.size)
  (hc : ∀ (i : Nat) (e : Value), es[i]? = some e → e.cells.size = z)
  (h1 : ∀ (i j : Nat) (e u : Value), es[i]? = some e → e.cells[j]? = some u → u.oneCell' = true ∧ ∃ v, cs[i * z + j]? = some v ∧ VR ι h.next u v) :
  ∃ ι', VR ι' h.next (VT z es b) (.slice (some ⟨w1.heap.size, 0, none⟩) es.length c') ∧ Rel ι' (h.put b (.tail es.length z)) (w1.alloc (.cells cs t)) ∧ Ext ι0 h0 w0 ι' (h.put b (.tail es.length z)) (w1.alloc (.cells cs t)) := by
 obtain ⟨RJ, XJ⟩ := R.junk (.cells cs t)
 have hnm : ¬ MutAt ι h w1.heap.size := fun ⟨b, o, hb, hr⟩ => by have := R.real b o _ hb hr; omega
 have hfresh : ∀ i, ι.im w1.heap.size i = none := fun i => by
  cases hi : ι.im w1.heap.size i with
  | none => rfl
  | some v => have := R.lt_of_im hi; omega
 have hmul : es.length * z ≤ c' * z := Nat.mul_le_mul_right _ hle
 have hcell : ∀ i, (w1.alloc (.cells cs t)).cell? ⟨w1.heap.size, i, none⟩ = cs[i]? := fun i => by simp
 have R1 := RJ.imx (r := w1.heap.size) (g := fun i => if i < es.length * z then cs[i]? else none) hnm (fun i v hv => by
  split at hv
  · rw [hcell]; exact hv
  · cases hv)
 have X1 := (X.trans XJ).imx (r := w1.heap.size) (g := fun i => if i < es.length * z then cs[i]? else none) (.inl X.size)
 generalize hι : addIm ι w1.heap.size (fun i => if i < es.length * z then cs[i]? else none) = ι1 at R1 X1
 have him : ∀ i, ι1.im w1.heap.size i = if i < es.length * z then cs[i]? else none := fun i => by rw [← hι]; exact imx_new (hfresh i)
 have hup : Up h.next ι ι1 := by rw [← hι]; exact .imx
 have hnm1 : ¬ MutAt ι1 h w1.heap.size := by rw [← hι]; exact fun hm => hnm (mut_imx.1 hm)
 have hT : TailR ⟨w1.heap.size, cs.size, z, es.length, false⟩ ι1.im es.length z (w1.alloc (.cells cs t)) := by
  refine ⟨rfl, rfl, fun hh => by simp at hh, fun h0 => absurd h0 (by omega), fun _ => ⟨by simp only; omega, fun i hi => ⟨⟨cs[i]'hi, by rw [hcell]; exact Array.getElem?_eq_getElem hi⟩, by simp, fun hle2 => ?_⟩⟩⟩
  simp only
  rw [him, if_neg (by omega)]
 have R2 := R1.moveTail (t := ⟨w1.heap.size, cs.size, z, es.length, false⟩) hg hless (fun _ => ⟨by simp, hnm1⟩) hT
 have X2 := X1.moveTail (z := z) (t := ⟨w1.heap.size, cs.size, z, es.length, false⟩) R1 hg hless rfl (fun _ => X.size)
 refine ⟨_, ?_, R2, X2⟩
 refine .vt z es b _ (R.lt b _ hg) ?_ (by simp [updT]) (fun _ => .inr ⟨by simp [updT], c', by simp [updT], hle, by simp [updT]; omega⟩)
 refine .vs_mk hz hle hc fun i j e u he hu => ?_
 obtain ⟨h2, v, h3, h4⟩ := h1 i j e u he hu
 refine ⟨h2, v, ?_, h4.more (Nat.le_refl _) (hup.trans (.updT_gt (by
  have := (R1.tail b n z0 hg).hn
  simp only; omega)) (Nat.le_refl _))⟩
 show ι1.im w1.heap.size (0 + i * z + j) = some v
 have hi : i < es.length := (List.getElem?_eq_some_iff.1 he).1
 have hj : j < z := by rw [← hc i e he]; exact (Array.getElem?_eq_some_iff.1 hu).1
 have : i * z + z ≤ es.length * z := by rw [← Nat.succ_mul]; exact Nat.mul_le_mul_right _ hi
 rw [him, Nat.zero_add, if_pos (by omega)]; exact h3
theorem tail_done {o : Oper} {es : List Value} {cs : Array Value} {t : TypeId} {z c' : Nat} {w1 : World} (R : Rel ι s.h w1) (hw : Ext ι s.h w ι s.h w1) (hz : 0 < z) (hle : es.length ≤ c') (hsz : c' * z ≤ cs.size)
  (hc : ∀ (i : Nat) (e : Value), es[i]? = some e → e.cells.size = z)
  (h1 : ∀ (i j : Nat) (e u : Value), es[i]? = some e → e.cells[j]? = some u → u.oneCell' = true ∧ ∃ v, cs[i * z + j]? = some v ∧ VR ι s.h.next u v)
  (hrun : (execOp a.eval o).run E.P w = .ok (.value (.slice (some ⟨w1.heap.size, 0, none⟩) es.length c')) (w1.alloc (.cells cs t))) : Done E ι s a w o (some (VT z es s.h.next), s.h.alloc (.tail es.length z)) := by
 obtain ⟨ι', h2, h3, h4⟩ := R.newTail (t := t) hw hz hle hsz hc h1
 exact ⟨ι', _, _, hrun, ⟨_, rfl, h2⟩, h3, h4⟩
theorem alloc_sim {o : Oper} {z : List Value} {r : Option Value × AHeap} (hc : ∃ t, o.op = .alloc t ∧ tzero E t = some z) (R : Rel ι s.h w) (he : wev E s (.alloc z) = some r) : Done E ι s a w o r := by
 obtain ⟨t, ho, hz⟩ := hc
 simp only [wev, Option.some.injEq] at he; subst he
 obtain ⟨zv, hz1, hz2, hz3⟩ := run_zero (w := w) hz
 have hzz : zv.cells = z.toArray := by rw [← hz2]
 refine new_done (t := t) (cs := z.toArray) (f := fun b => .pointer (some b)) R (Ext.refl _ _ _) (by simp) (fun i u hu => ⟨vrc1_one hz3 hu, u, by simpa using hu, (vrc_list hz3).2 i u u hu hu⟩) ?_ ?_
 · simp [execOp, ho, Instr.alloc, hz1, newVar, newRow, hzz]
 · have := VR.ptr (ι := upd ι s.h.next ⟨w.heap.size, 0, z.toArray.size⟩) (N := s.h.next + 1) s.h.next 0 (by omega)
   rw [upd_same] at this
   exact this
theorem box_sim {o : Oper} {x : Opd} {r : Option Value × AHeap} (hc : ∃ t y, o.op = .box t y ∧ copd E y = some x) (R : Rel ι s.h w) (T : TR ι s.h.next s.t a.tmps) (he : wev E s (.box x) = some r) : Done E ι s a w o r := by
 obtain ⟨t, y, ho, hy⟩ := hc
 simp only [wev] at he
 obtain ⟨v, h1, he⟩ := bind_some he
 split at he
 · simp at he
 · rename_i hone
   have hone : oneL v.cells.toList = true := by simpa using hone
   injection he with he; subst he
   have hcl := (ev_sim hy T h1).cells
   refine new_done (t := t) (cs := (a.eval y).cells) (f := fun b => .pointer (some b)) R (Ext.refl _ _ _) (by have := hcl.1; simp at this ⊢; omega) (fun i u hu => ?_) ?_ ?_
   · obtain ⟨z, h2, h3⟩ := hcl.get hu
     exact ⟨oneL_mem hone hu, z, by simpa using h2, h3⟩
   · simp [execOp, ho, Instr.box, newVar, newRow]
   · have := VR.ptr (ι := upd ι s.h.next ⟨w.heap.size, 0, (a.eval y).cells.size⟩) (N := s.h.next + 1) s.h.next 0 (by omega)
     rw [upd_same] at this
     exact this
theorem bslice_sim {o : Oper} {len sz : Nat} {z : List Value} {l : List (Nat × Nat × Opd)} {r : Option Value × AHeap}
    (hc : ∃ t e ps, o.op = .buildSlice t len ps ∧ E.P.underlying t = some (.slice e) ∧ tsz E e = some sz ∧ tzero E e = some z ∧ len * sz ≤ 65536 ∧ z.length = sz ∧ 0 < sz ∧ cparts E (fun i => some (i * sz, sz)) ps.toList = some l)
    (R : Rel ι s.h w) (T : TR ι s.h.next s.t a.tmps) (he : wev E s (.bslice len sz z l) = some r) : Done E ι s a w o r := by
  obtain ⟨t, e, ps, ho, hu, hsz, hz, hb, hzl, hpos, hps⟩ := hc
  simp only [wev] at he
  obtain ⟨qs, h1, he⟩ := bind_some he
  obtain ⟨c, h2, he⟩ := bind_some he
  split at he
  · simp at he
  · rename_i hone
    have hone : oneL c = true := by simpa using hone
    obtain ⟨zv, hz1, hz2, hz3⟩ := run_zero (w := w) hz
    have hzz : zv.cells = z.toArray := by rw [← hz2]
    obtain ⟨out, h3, h4⟩ := parts_sim hps T h1 _ _ c (vrc_list (replL_all hz3 len)) h2
    have hinit : (Array.range (len * sz)).map (zv.cells[· % zv.cells.size]!) = (replL len z).toArray := by
      have := range_cells (zero := z.toArray) (n := len) (by simp; omega)
      rw [hzz]
      simp only [List.size_toArray, hzl] at this ⊢
      rw [← Array.toList_inj, this]
    have hfl : ∀ (us : List (Nat × Nat × Value)) (cs out : List Value), fillL cs us = some out → out.length = cs.length := by
      intro us
      induction us with
      | nil => intro cs out h; simp [fillL] at h; subst h; rfl
      | cons x us ih =>
        obtain ⟨off, size, v⟩ := x
        intro cs out h
        simp only [fillL] at h
        split at h
        · have hsc : ∀ (vs cs : List Value) (k : Nat), (setCells cs k vs).length = cs.length := by
            intro vs
            induction vs with
            | nil => intro cs k; rfl
            | cons v vs ih => intro cs k; simp only [setCells]; rw [ih]; simp
          rw [ih _ _ h, hsc]
        · simp at h
    have hclen : c.length = len * sz := by rw [hfl _ _ _ h2, replL_len, hzl]
    have hout : out.size = len * sz := by have := h4.1; rw [hclen] at this; simpa using this.symm
    have hlen : (chunk len sz c).length = len := chunk_len _ _ _ (by omega)
    have hg := chunk_get hpos len c (by omega) (fun i u _ hu => oneL_mem hone hu)
    have key : (execOp a.eval o).run E.P w = .ok (.value (.slice (some ⟨w.heap.size, 0, none⟩) (chunk len sz c).length len)) (w.alloc (.cells out e)) := by
      rw [hlen]
      have hps' : (ps.map fun (i, x) => (i, a.eval x)).toList = ps.toList.map fun (i, x) => (i, a.eval x) := by simp
      have hrl : ∀ f : Nat → Value, (Array.range 0).map f = #[] := fun f => by rw [Array.range_zero', Array.map_empty]
      by_cases h0 : len * sz = 0
      · have hrep : (replL len z).toArray = #[] := by rw [← hinit, h0, hrl]
        rw [hrep, ← hps'] at h3
        simp only [execOp, ho, Instr.buildSlice, Sem.run_bind, run_underlying hu, Result.andThen, run_sizeOf hsz]
        rw [if_neg (by omega)]
        simp only [Sem.run_pure, h0, if_true, Sem.run_bind, Result.andThen, hrl, h3, newRow, run_newObj, World.alloc_eq]
      · rw [← hps'] at h3
        simp only [execOp, ho, Instr.buildSlice, Sem.run_bind, run_underlying hu, Result.andThen, run_sizeOf hsz]
        rw [if_neg (by omega)]
        simp only [Sem.run_pure, h0, if_false, Sem.run_bind, Result.andThen, hz1, hinit, h3, newRow, run_newObj, World.alloc_eq]
    cases hmode : s.h.m with
    | true =>
      rw [hmode] at he
      injection he with he; subst he
      rw [hlen] at key
      refine new_done (t := e) (cs := out) (f := fun b => .slice (some b) len len) R (Ext.refl _ _ _) (by rw [hclen, hout]; exact Nat.le_refl _) (fun i u hu => ?_) key (vr_new (sz := sz) (Nat.le_refl _) (fun _ => rfl) (.inr rfl) (by rw [hout]; exact fun _ => rfl))
      obtain ⟨z, h5, h6⟩ := h4.get hu
      exact ⟨oneL_mem hone hu, z, by simpa using h5, h6⟩
    | false =>
    rw [hmode] at he
    injection he with he; subst he
    have := tail_done R (Ext.refl _ _ _) hpos (by omega) (by omega) (fun i e he => (hg i e he).1) (fun i j e u he hu => by
      have h5 := (hg i e he).2.2 j u hu
      obtain ⟨v, h6, h7⟩ := h4.get h5
      exact ⟨oneL_mem hone h5, v, by simpa using h6, h7⟩) key
    rw [hlen] at this
    exact this
theorem mslice_sim {o : Oper} {sz by_ : Nat} {z : List Value} {l c : Opd} {r : Option Value × AHeap}
    (hc : ∃ t e yl yc, o.op = .makeSlice t yl yc ∧ E.P.underlying t = some (.slice e) ∧ tsz E e = some sz ∧ tby E e = some by_ ∧ tzero E e = some z ∧ copd E yl = some l ∧ copd E yc = some c ∧ z.length = sz ∧ 0 < sz)
    (R : Rel ι s.h w) (T : TR ι s.h.next s.t a.tmps) (he : wev E s (.mslice sz by_ z l c) = some r) : Done E ι s a w o r := by
  obtain ⟨t, e, yl, yc, ho, hu, hsz, hby, hz, hl, hcc, hzl, hpos⟩ := hc
  simp only [wev] at he
  obtain ⟨cn, h4, he⟩ := bind_some he
  obtain ⟨v2, h5, h6⟩ := bind_some h4
  have hvc := ((ev_sim hcc T h5).int_of h6).2
  obtain ⟨zv, hz1, hz2, hz3⟩ := run_zero (w := w) hz
  have hzz : zv.cells = z.toArray := by rw [← hz2]
  obtain ⟨i0, hi0, hi1⟩ := run_bytesOf (w := w) hby
  have hinit : ∀ cN : Nat, (Array.range (cN * sz)).map (zv.cells[· % zv.cells.size]!) = (replL cN z).toArray := by
    intro cN
    have := range_cells (zero := z.toArray) (n := cN) (by simp; omega)
    rw [hzz]
    simp only [List.size_toArray, hzl] at this ⊢
    rw [← Array.toList_inj, this]
  have key : ∀ lN cN : Nat, a.eval yl = .int .i64 (lN : Int) → a.eval yc = .int .i64 (cN : Int) → lN ≤ cN → (cN : Int) * by_ ≤ 1099511627776 → cN ≤ 1099511627776 →
      (execOp a.eval o).run E.P w = .ok (.value (.slice (some ⟨w.heap.size, 0, none⟩) lN cN)) (w.alloc (.cells (replL cN z).toArray e)) := by
    intro lN cN hvl hvc hlc hbb hc40
    have hw1 : IntKind.i64.wrap (lN : Int) = lN := IntWalk.i64_in _ (by omega)
    have hw2 : IntKind.i64.wrap (cN : Int) = cN := IntWalk.i64_in _ (by omega)
    have hrl : ∀ f : Nat → Value, (Array.range 0).map f = #[] := fun f => by rw [Array.range_zero', Array.map_empty]
    have hbN : ¬ ((by_ : Int) * (cN : Int) > 2 ^ 48) := by
      have : (by_ : Int) * (cN : Int) = (cN : Int) * by_ := Int.mul_comm _ _
      omega
    have hcond : (decide ((cN : Int) < 0) || decide ((by_ : Int) * (cN : Int) > 2 ^ 48) || decide ((lN : Int) < 0) || decide ((lN : Int) > cN)) = false := by
      simp only [Bool.or_eq_false_iff, decide_eq_false_iff_not]
      exact ⟨⟨⟨by omega, hbN⟩, by omega⟩, by omega⟩
    simp only [execOp, ho, Instr.makeSlice, Sem.run_bind, run_underlying hu, Result.andThen, hvl, hvc, asInt, asIntOf, Sem.run_pure, hi0, hi1, hw1, hw2]
    rw [if_neg (by intro hh; rw [hcond] at hh; cases hh)]
    by_cases h0 : cN * sz = 0
    · have hrep : (replL cN z).toArray = #[] := by rw [← hinit, h0, hrl]
      simp only [Sem.run_pure, Sem.run_bind, Result.andThen, run_askRoom, run_sizeOf hsz, Int.toNat_natCast, h0, if_true, hrl, hrep, newRow, run_newObj, World.alloc_eq]
    · simp only [Sem.run_pure, Sem.run_bind, Result.andThen, run_askRoom, run_sizeOf hsz, Int.toNat_natCast, h0, if_false, hz1, hinit, newRow, run_newObj, World.alloc_eq]
  split at he
  · split at he
    · rename_i hb
      obtain ⟨hc0, hbb, hc40⟩ := hb
      have he4 := he
      clear he
      rename_i h0l
      have hl0 : l = .c (.int .i64 0) := by
        unfold opd0 at h0l; split at h0l
        · rfl
        · cases h0l
      subst hl0
      have hvl := ev_sim hl T rfl
      obtain ⟨cN, rfl⟩ : ∃ n : Nat, cn = (n : Int) := ⟨cn.toNat, by omega⟩
      have hvl' : a.eval yl = .int .i64 ((0 : Nat) : Int) := by
        generalize a.eval yl = q at hvl
        cases hvl; rfl
      have hrun := key 0 cN hvl' hvc (by omega) hbb (by omega)
      cases hmode : s.h.m with
      | true =>
        rw [hmode] at he4
        injection he4 with he4; subst he4
        exact new_done (t := e) (cs := (replL cN z).toArray) (c := []) (f := fun b => .slice (some b) 0 cN) R (Ext.refl _ _ _) (by simp) (fun i u hu => by simp at hu) hrun (vr_new (sz := sz) (Nat.zero_le _) (fun h => by omega) (.inr rfl) (by simp [replL_len, hzl]))
      | false =>
      rw [hmode] at he4
      injection he4 with he4; subst he4
      exact tail_done (es := []) (t := e) (cs := (replL cN z).toArray) R (Ext.refl _ _ _) hpos (by simp) (by simp [replL_len, hzl]) (fun i e he => by simp at he) (fun i j e u he => by simp at he) hrun
    · simp at he
  · obtain ⟨ln, h1, he⟩ := bind_some he
    obtain ⟨v1, h2, h3⟩ := bind_some h1
    have hvl := ((ev_sim hl T h2).int_of h3).2
    split at he
    · rename_i hb
      obtain ⟨hl0, hlc, hbb, hc40⟩ := hb
      injection he with he; subst he
      obtain ⟨lN, rfl⟩ : ∃ n : Nat, ln = (n : Int) := ⟨ln.toNat, by omega⟩
      obtain ⟨cN, rfl⟩ : ∃ n : Nat, cn = (n : Int) := ⟨cn.toNat, by omega⟩
      have hlcN : lN ≤ cN := by omega
      have hrun := key lN cN hvl hvc hlcN hbb (by omega)
      refine new_done (t := e) (cs := (replL cN z).toArray) (f := fun b => .slice (some b) lN cN) R (Ext.refl _ _ _) ?_ (fun i u hu => ?_) hrun ?_
      · simp only [List.size_toArray, replL_len, Int.toNat_natCast]; exact Nat.mul_le_mul_right _ hlcN
      · have hi : i < lN * z.length := by
          have := (List.getElem?_eq_some_iff.1 hu).1; rw [replL_len] at this; simpa using this
        have hi2 : i < cN * z.length := Nat.lt_of_lt_of_le hi (Nat.mul_le_mul_right _ hlcN)
        simp only [Int.toNat_natCast] at hu
        rw [replL_get (by omega) _ _ hi] at hu
        have hu2 : (replL cN z)[i]? = some u := by rw [replL_get (by omega) _ _ hi2]; exact hu
        exact ⟨vrc1_one hz3 hu, u, by simpa using hu2, (vrc_list hz3).2 _ u u hu hu⟩
      · simp only [Int.toNat_natCast]
        exact vr_new (sz := sz) hlcN (fun h => by cases h) (.inl (by omega)) (by simp [replL_len, hzl])
    · simp at he
end
end Go.Proofs.Ytjnpdnlgkepmcaa.AM
