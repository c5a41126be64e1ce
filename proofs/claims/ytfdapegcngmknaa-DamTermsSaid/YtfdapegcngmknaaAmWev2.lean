/- Stores, append, copy. Conditions: none. -/
import Derived.Test.YtfdapegcngmknaaAmWev
namespace Go.Proofs.Ytfdapegcngmknaa.AM
open Go Go.RowKit

section
variable {E : Env} {ι : Iota} {s : St} {a : Act} {w : World}

theorem new_done' {o : Oper} {c : List Value} {cs : Array Value} {t : TypeId} {u rv : Value} {w1 : World} {h0 : AHeap} (R : Rel ι h0 w1) (hn : h0.next = s.h.next) (hw : Ext ι s.h w ι h0 w1) (hl : c.length ≤ cs.size)
    (hc : ∀ (i : Nat) (u : Value), c[i]? = some u → u.oneCell' = true ∧ ∃ v, cs[i]? = some v ∧ VR ι s.h.next u v)
    (hrun : (execOp a.eval o).run E.P w = .ok (.value rv) (w1.alloc (.cells cs t)))
    (hv : VR (upd ι s.h.next ⟨w1.heap.size, 0, cs.size⟩) (s.h.next + 1) u rv) : Done E ι s a w o (some u, h0.alloc (.rw c)) := by
  obtain ⟨R1, X1⟩ := R.new (t := t) hl (by rw [hn]; exact hc)
  refine ⟨_, _, _, hrun, ⟨_, rfl, ?_⟩, R1, hw.trans X1⟩
  rw [hn]; simp only [AHeap.next_alloc, hn]; exact hv

/-- A block is dropped. -/
theorem Rel.kill {h : AHeap} (R : Rel ι h w) (b : Nat) : Rel ι (h.put b .dead) w ∧ Ext ι h w ι (h.put b .dead) w := by
  have hs : ∀ x o, (h.put b .dead).get x = some o → h.get x = some o := fun x o hx => by
    rw [AHeap.get_put] at hx; split at hx
    · simp [AObj.live] at hx
    · exact hx
  exact ⟨R.sub (Nat.le_refl _) hs, Nat.le_refl _, fun _ _ => rfl, Nat.le_refl _, fun r _ hn => ⟨rfl, fun ⟨x, o, hx, hm, hr⟩ => hn ⟨x, o, hs x o hx, hm, hr⟩⟩, rfl, rfl, rfl⟩

/-- A block gets a new name, from one of its cells on. -/
theorem Rel.rename {h : AHeap} (R : Rel ι h w) {b o : Nat} {d : List Value} (hb : h.get b = some (.rw d)) (_ho : o ≤ d.length) :
    Rel (upd ι h.next ⟨(ι b).r, (ι b).f + o, (ι b).tot - o⟩) ((h.put b .dead).alloc (.rw (d.drop o))) w ∧
    Ext ι h w (upd ι h.next ⟨(ι b).r, (ι b).f + o, (ι b).tot - o⟩) ((h.put b .dead).alloc (.rw (d.drop o))) w := by
  have hblt := R.lt b _ hb
  obtain ⟨hlen, htot, hCR⟩ := R.rw b d hb
  have hget : ∀ x, ((h.put b .dead).alloc (.rw (d.drop o))).get x = if x = h.next then some (.rw (d.drop o)) else if x = b then none else h.get x := fun x => by
    rw [AHeap.get_alloc, AHeap.next_put, AHeap.get_put]; rfl
  have hmono : ∀ {u v}, VR ι h.next u v → VR (upd ι h.next ⟨(ι b).r, (ι b).f + o, (ι b).tot - o⟩) (h.next + 1) u v := fun hv => hv.more (by omega) fun b hb => upd_lt _ _ hb
  have old : ∀ x ob, x ≠ h.next → ((h.put b .dead).alloc (.rw (d.drop o))).get x = some ob → x ≠ b ∧ h.get x = some ob := fun x ob hx hg => by
    rw [hget, if_neg hx] at hg
    by_cases hxb : x = b
    · rw [if_pos hxb] at hg; cases hg
    · rw [if_neg hxb] at hg; exact ⟨hxb, hg⟩
  refine ⟨⟨?_, ?_, ?_, ?_, ?_, ?_⟩, ⟨by simp, fun b hb => upd_lt _ _ hb, Nat.le_refl _, ?_, rfl, rfl, rfl⟩⟩
  · intro x ob hx
    by_cases hxn : x = h.next
    · subst hxn; simp
    · have := R.lt x ob (old x ob hxn hx).2; simp; omega
  · intro x ob hx
    by_cases hxn : x = h.next
    · subst hxn; rw [upd_same]; exact R.real b _ hb
    · rw [upd_ne _ _ hxn]; exact R.real x ob (old x ob hxn hx).2
  · intro x c hx i u hu
    by_cases hxn : x = h.next
    · rw [hget, if_pos hxn] at hx; cases hx
    · obtain ⟨h0, v, h1, h2⟩ := R.ro x c (old x _ hxn hx).2 i u hu
      rw [upd_ne _ _ hxn]
      exact ⟨h0, v, h1, hmono h2⟩
  · intro x c hx
    by_cases hxn : x = h.next
    · rw [hget, if_pos hxn] at hx
      injection hx with hx; injection hx with hx
      subst hx; subst hxn
      refine ⟨by rw [upd_same]; simp; omega, fun i hi => ?_, fun i u hu => ?_⟩
      · rw [upd_same] at hi ⊢
        simp only at hi ⊢
        rw [Nat.add_assoc]
        exact htot (o + i) (by omega)
      · rw [List.getElem?_drop] at hu
        obtain ⟨h0, v, h1, h2⟩ := hCR (o + i) u hu
        refine ⟨h0, v, ?_, hmono h2⟩
        rw [upd_same]; simp only; rw [Nat.add_assoc]; exact h1
    · obtain ⟨hxb, hg⟩ := old x _ hxn hx
      obtain ⟨h1, h2, h3⟩ := R.rw x c hg
      refine ⟨by rw [upd_ne _ _ hxn]; exact h1, fun i hi => by rw [upd_ne _ _ hxn] at hi ⊢; exact h2 i hi, fun i u hu => ?_⟩
      obtain ⟨h0, v, h4, h5⟩ := h3 i u hu
      rw [upd_ne _ _ hxn]
      exact ⟨h0, v, h4, hmono h5⟩
  · intro x l hx
    by_cases hxn : x = h.next
    · rw [hget, if_pos hxn] at hx; cases hx
    · obtain ⟨ob, h1, ⟨rt, d', fn, hob, ht, hz⟩⟩ := R.loop x l (old x _ hxn hx).2
      rw [upd_ne _ _ hxn]
      exact ⟨ob, h1, ⟨rt, d', fn, hob, fun t u hu => let ⟨v, h6, h7⟩ := ht t u hu; ⟨v, h6, hmono h7⟩, hz⟩⟩
  · intro x ox y oy hx hm hy hne
    by_cases hxn : x = h.next
    · subst hxn
      obtain ⟨hyb, hgy⟩ := old y _ hne hy
      rw [upd_same, upd_ne _ _ hne]
      exact R.sep b _ y oy hb rfl hgy hyb
    · obtain ⟨hxb, hgx⟩ := old x _ hxn hx
      rw [upd_ne _ _ hxn]
      by_cases hyn : y = h.next
      · subst hyn; rw [upd_same]
        exact fun e => R.sep x ox b _ hgx hm hb (Ne.symm hxb) e
      · obtain ⟨hyb, hgy⟩ := old y _ hyn hy
        rw [upd_ne _ _ hyn]
        exact R.sep x ox y oy hgx hm hgy hne
  · intro r hr hn
    refine ⟨rfl, fun ⟨x, ox, hx, hm, hxr⟩ => ?_⟩
    by_cases hxn : x = h.next
    · subst hxn; rw [upd_same] at hxr; exact hn ⟨b, _, hb, rfl, hxr⟩
    · rw [upd_ne _ _ hxn] at hxr; exact hn ⟨x, ox, (old x _ hxn hx).2, hm, hxr⟩

theorem storeop_sim {o : Oper} {n : Nat} {pa x : Opd} {r : Option Value × AHeap} (hc : ∃ t y z, o.op = .store t y z ∧ tsz E t = some n ∧ copd E y = some pa ∧ copd E z = some x)
    (R : Rel ι s.h w) (T : TR ι s.h.next s.t a.tmps) (he : wev E s (.store n pa x) = some r) : Done E ι s a w o r := by
  obtain ⟨t, y, z, ho, hn, hy, hz⟩ := hc
  simp only [wev] at he
  obtain ⟨p, h1, he⟩ := bind_some he
  obtain ⟨pv, h2, h3⟩ := bind_some h1
  obtain ⟨v, h4, he⟩ := bind_some he
  obtain ⟨_, hlt, hx⟩ := (ev_sim hy T h2).ptr_of h3
  split at he
  · rename_i c hg
    split at he
    · rename_i hcond
      obtain ⟨hsz, hle, hone⟩ := hcond
      injection he with he; subst he
      have hcl := (ev_sim hz T h4).cells
      obtain ⟨hlen, _, _⟩ := R.rw p.1 c hg
      have hcn : v.cells.toList.length = n := by simpa using hsz
      obtain ⟨w', h5, R1, X1⟩ := store_sim (P := E.P) (b := p.1) (o := p.2) v.cells.toList (a.eval z).cells.toList 0 s.h w c R hg hcl (fun i u hu => oneL_mem hone hu) (by omega) (by omega)
      rw [Nat.add_zero, gsets_set _ _ _ (by omega)] at R1 X1
      refine ⟨ι, w', .skip, ?_, rfl, R1, X1⟩
      have hzs : (a.eval z).cells.size = n := by have := hcl.1; simp at this; omega
      simp only [execOp, ho, Instr.storeAt, Sem.run_bind, hx, Instr.sureAddr, Sem.run_pure, Result.andThen, storeVar, run_sizeOf hn]
      rw [if_neg (by simp [hzs])]
      simp only [h5]
    · simp at he
  · simp at he

/-- The first cells of a slice, for real. -/
theorem sl_cells' {u v : Value} {sl sl' : Sl} {sz : Nat} {cells : List Value} (R : Rel ι s.h w) (hv : VR ι s.h.next u v) (hs : vsl u = some sl) (hbs : sl'.base = sl.base) (hle' : sl'.len ≤ sl.len) (hc : s.h.sl sz sl' = some cells) :
    cells.length = sl'.len * sz ∧ (∀ (i : Nat) (u : Value), cells[i]? = some u → u.oneCell' = true) ∧ ∃ vs, VRL ι s.h.next cells vs ∧ (Builtin.firstCells sz sl'.len v).run E.P w = .ok vs.toArray w := by
  unfold AHeap.sl at hc
  rcases hv.sl_of hs with ⟨hb, hl, _, _, rfl⟩ | ⟨b, o, a', c', hb, hlt, _, rfl, hn, _, ha, _⟩
  · rw [hbs, hb] at hc; injection hc with hc; subst hc
    have h0 : sl'.len = 0 := by omega
    exact ⟨by simp [h0], by simp, [], .nil, rfl⟩
  · rw [hbs, hb] at hc
    simp only at hc
    split at hc
    · rename_i h0; injection hc with hc; subst hc
      exact ⟨by simp [h0], by simp, [], .nil, by simp [Builtin.firstCells, h0, loadCells, loadCellsFrom]⟩
    · rename_i h0
      split at hc
      · rename_i c hrow
        split at hc
        · rename_i hle
          injection hc with hc; subst hc
          have hCR := (R.row hrow).2
          have at_ : ∀ (i : Nat) (u : Value), ((c.drop o).take (sl'.len * sz))[i]? = some u → c[o + i]? = some u := fun i u hu => by
            rw [List.getElem?_take] at hu
            split at hu
            · rw [List.getElem?_drop] at hu; exact hu
            · simp at hu
          obtain ⟨vs, h5, h6⟩ := cells_list (ι := ι) (w := w) (r := (ι b).r) (N := s.h.next) ((c.drop o).take (sl'.len * sz)) ((ι b).f + o) (fun i u hu => by
            obtain ⟨_, v, h7, h8⟩ := hCR (o + i) u (at_ i u hu)
            exact ⟨v, by rw [Nat.add_assoc]; exact h7, h8⟩)
          have hlen : ((c.drop o).take (sl'.len * sz)).length = sl'.len * sz := by simp; omega
          refine ⟨hlen, fun i u hu => (hCR (o + i) u (at_ i u hu)).1, vs, h5, ?_⟩
          rw [ha.resolve_left (by omega)]
          simp only [Builtin.firstCells]
          exact run_cells (by rw [← h5.1, hlen]) h6
        · simp at hc
      · simp at hc

theorem sl_cells {u v : Value} {sl : Sl} {sz : Nat} {cells : List Value} (R : Rel ι s.h w) (hv : VR ι s.h.next u v) (hs : vsl u = some sl) (hc : s.h.sl sz sl = some cells) :
    cells.length = sl.len * sz ∧ (∀ (i : Nat) (u : Value), cells[i]? = some u → u.oneCell' = true) ∧ ∃ vs, VRL ι s.h.next cells vs ∧ (Builtin.firstCells sz sl.len v).run E.P w = .ok vs.toArray w :=
  sl_cells' R hv hs rfl (Nat.le_refl _) hc

theorem run_app_fit {P : Program} {w w' : World} {t t' ty e e' : TypeId} {i : TypeInfo} {base : Option Addr} {sLen sCap n : Nat} {x : Value} {news : Array Value}
    (ht : P.underlying t = some (.slice e)) (ht' : P.underlying t' = some (.slice e')) (hi : P.info? e = some i) (hx : (Builtin.lenOf x).run P w = .ok n w) (hle : sLen + n ≤ sCap)
    (hn : (Builtin.firstCells i.size n x).run P w = .ok news w) (hs : match base with | some p => (storeCells (p.add (sLen * i.size)) news.toList).run P w = .ok () w' | none => w' = w) :
    (Builtin.append_ #[t, t'] ty #[.slice base sLen sCap, x]).run P w = .ok (.slice base (sLen + n) sCap) w' := by
  cases base with
  | none => subst hs; simp [Builtin.append_, run_underlying ht, run_underlying ht', sizeOf, typeInfo, hi, hx, hle, hn]
  | some p => simp [Builtin.append_, run_underlying ht, run_underlying ht', sizeOf, typeInfo, hi, hx, hle, hn, hs]

theorem run_app_grow {P : Program} {w : World} {t t' ty e e' : TypeId} {i : TypeInfo} {z : Value} {base : Option Addr} {sLen sCap n : Nat} {x : Value} {olds news : Array Value}
    (ht : P.underlying t = some (.slice e)) (ht' : P.underlying t' = some (.slice e')) (hi : P.info? e = some i) (hz : i.zero = some z) (hx : (Builtin.lenOf x).run P w = .ok n w) (hg : sCap < sLen + n)
    (h63 : sLen + n ≤ 1099511627776) (hb : (sLen + n) * i.bytes ≤ 1099511627776)
    (ho : (Builtin.firstCells i.size sLen (.slice base sLen sCap)).run P w.drew = .ok olds w.drew) (hn : (Builtin.firstCells i.size n x).run P w.drew = .ok news w.drew) :
    ∃ newCap, sLen + n ≤ newCap ∧ (Builtin.append_ #[t, t'] ty #[.slice base sLen sCap, x]).run P w =
      .ok (.slice (some ⟨w.heap.size, 0, none⟩) (sLen + n) newCap) (w.drew.alloc (.cells (olds ++ news ++ Builtin.zeroCells z.cells (newCap - (sLen + n))) e)) := by
  have h1 : ¬ (sLen + n ≤ sCap) := by omega
  have h2 : ¬ (9223372036854775807 < ((sLen : Int) + (n : Int))) := by omega
  have hfit := growslice_fits (need := sLen + n) (old := sCap) (bytes := i.bytes) hg (by omega)
  have h3 : ¬ (281474976710656 < Builtin.nextslicecap (sLen + n) sCap * i.bytes) := by omega
  refine ⟨grownCap w (sLen + n) sCap e, ?_, ?_⟩
  · simp only [grownCap, Question.cut]; exact Nat.le_add_right _ _
  · simp [Builtin.append_, run_underlying ht, run_underlying ht', sizeOf, typeInfo, zeroValue, hi, hz, hx, h1, h2, h3, Question.forced, ho, hn, newRow, grownCap]

theorem zeroCells_size {z : Array Value} {n : Nat} : (Builtin.zeroCells z n).size = n * z.size := by simp [Builtin.zeroCells]

theorem append_sim {o : Oper} {sz by_ : Nat} {so x : Opd} {r : Option Value × AHeap}
    (hc : ∃ ys yx t t' e e' z, o.op = .call { callee := .builtin .append, args := #[ys, yx], argTypes := #[t, t'] } ∧ E.P.underlying t = some (.slice e) ∧ E.P.underlying t' = some (.slice e') ∧ tsz E e = some sz ∧ tby E e = some by_ ∧ tzero E e = some z ∧
      copd E ys = some so ∧ copd E yx = some x ∧ z.length = sz ∧ 0 < sz)
    (R : Rel ι s.h w) (T : TR ι s.h.next s.t a.tmps) (he : wev E s (.append sz by_ so x) = some r) : Done E ι s a w o r := by
  obtain ⟨ys, yx, t, t', e, e', z, hop, hu, hu', hsz, hby, hz, hys, hyx, hzl, hpos⟩ := hc
  simp only [wev] at he
  obtain ⟨sa, h1, he⟩ := bind_some he
  obtain ⟨va, h2, h3⟩ := bind_some h1
  obtain ⟨vx, h4, he⟩ := bind_some he
  obtain ⟨sb, h5, he⟩ := bind_some he
  obtain ⟨news, h6, he⟩ := bind_some he
  have hVa := ev_sim hys T h2
  have hVx := ev_sim hyx T h4
  obtain ⟨hnl, hn1, rnews, hnv, hnrun⟩ := sl_cells (E := E) (w := w) R hVx h5 h6
  obtain ⟨_, _, rnews', hnv', hnrun'⟩ := sl_cells (E := E) (w := w.drew) R.drew hVx h5 h6
  -- the element's row of the table
  have hinfo : ∃ i zv, E.P.info? e = some i ∧ i.size = sz ∧ i.bytes = by_ ∧ i.zero = some zv ∧ zv.cells.size = sz := by
    unfold tsz at hsz; unfold tby at hby; unfold tzero at hz
    cases hi : E.P.info? e with
    | none => simp [hi] at hsz
    | some i =>
      simp [hi] at hsz hby
      cases hzz : i.zero with
      | none => simp [hi, hzz] at hz
      | some zv =>
        simp [hi, hzz] at hz
        exact ⟨i, zv, rfl, hsz, hby, hzz, by rw [← hz.2] at hzl; simpa using hzl⟩
  obtain ⟨i, zv, hi, hi1, hi2, hi3, hi4⟩ := hinfo
  have hlenx : ∀ w, (Builtin.lenOf (a.eval yx)).run E.P w = .ok sb.len w := by
    intro w
    rcases hVx.sl_of h5 with ⟨_, hl, _, _, hx⟩ | ⟨_, _, _, _, _, _, _, hx, _⟩ <;> rw [hx] <;> simp [Builtin.lenOf, *]
  have hexec : ∀ {v : Value} {w' : World}, (Builtin.append_ #[t, t'] o.type #[a.eval ys, a.eval yx]).run E.P w = .ok v w' → (execOp a.eval o).run E.P w = .ok (.value v) w' := by
    intro v w' h
    simp [execOp, hop, resolve, invoke, builtin, h]
  subst hi1
  subst hi2
  split at he
  · -- nothing is appended
    rename_i h0
    obtain ⟨v, h7, he⟩ := bind_some he
    injection he with he; subst he
    rw [h2] at h7; injection h7 with h7; subst h7
    refine ⟨ι, w, .value (a.eval ys), hexec ?_, ⟨_, rfl, hVa⟩, R, Ext.refl _ _ _⟩
    have hnews : rnews.toArray = #[] := by
      have := hnv.1; rw [hnl, h0] at this; simp at this
      rw [List.eq_nil_of_length_eq_zero this.symm]
    rw [hnews, h0] at hnrun
    have hx0 := hlenx w
    rw [h0] at hx0
    rcases hVa.sl_of h3 with ⟨_, _, _, _, hA⟩ | ⟨b, o2, a', c', _, _, _, hA, hn, _⟩
    · rw [hA]; exact run_app_fit (base := none) hu hu' hi hx0 (by omega) hnrun rfl
    · rw [hA]; exact run_app_fit (base := some a') hu hu' hi hx0 (by omega) hnrun rfl
  · rename_i h0
    split at he
    · rename_i hbd
      obtain ⟨hb1, hb2⟩ := hbd
      -- growth: the old cells, the new ones, and what is left are a new block
      have grow : ∀ (h0' : AHeap) (olds : List Value) (base : Option Addr) (n c' : Nat), a.eval ys = .slice base n c' → n = sa.len → c' < n + sb.len → Rel ι h0' w → h0'.next = s.h.next → Ext ι s.h w ι h0' w →
          (olds.length = n * i.size ∧ (∀ (i : Nat) (u : Value), olds[i]? = some u → u.oneCell' = true) ∧ ∃ vs, VRL ι s.h.next olds vs ∧ (Builtin.firstCells i.size n (.slice base n c')).run E.P w.drew = .ok vs.toArray w.drew) →
          Done E ι s a w o (some (mkSl s.h.next 0 (sa.len + sb.len) (i.size + 1)), h0'.alloc (.rw (olds ++ news))) := by
        intro h0' olds base n c' hA hn hlt R0 hnx X0 ⟨hol, ho1, rolds, hov, horun⟩
        subst hn
        obtain ⟨newCap, hcap, hrun⟩ := run_app_grow (ty := o.type) hu hu' hi hi3 (hlenx w) hlt hb2 hb1 horun hnrun'
        have hsz1 : (rolds.toArray ++ rnews'.toArray).size = (sa.len + sb.len) * i.size := by
          have := hov.1; have h' := hnv'.1; simp; rw [← this, ← h', hol, hnl, Nat.add_mul]
        have hsz2 : (rolds.toArray ++ rnews'.toArray ++ Builtin.zeroCells zv.cells (newCap - (sa.len + sb.len))).size = newCap * i.size := by
          rw [Array.size_append, hsz1, zeroCells_size, hi4, ← Nat.add_mul]
          congr 1; omega
        refine new_done' (w1 := w.drew) (t := e) (cs := rolds.toArray ++ rnews'.toArray ++ Builtin.zeroCells zv.cells (newCap - (sa.len + sb.len))) R0.drew hnx X0.drew ?_ ?_ (hexec (by rw [hA]; exact hrun)) ?_
        · rw [hsz2, List.length_append, hol, hnl, ← Nat.add_mul]; exact Nat.mul_le_mul_right _ hcap
        · intro j u hj
          have hj1 : u.oneCell' = true := by
            rcases Nat.lt_or_ge j olds.length with h | h
            · rw [List.getElem?_append_left h] at hj; exact ho1 j u hj
            · rw [List.getElem?_append_right h] at hj; exact hn1 _ u hj
          obtain ⟨v, h7, h8⟩ := (hov.append hnv').get hj
          refine ⟨hj1, v, ?_, h8⟩
          have hjl : j < (rolds.toArray ++ rnews'.toArray).size := by
            have := (List.getElem?_eq_some_iff.1 h7).1; simpa using this
          rw [Array.getElem?_append_left hjl]
          simpa [← Array.getElem?_toList] using h7
        · exact vr_new (sz := i.size) hcap (fun h => by simp at h) (.inr rfl) (by rw [hsz2]; exact Nat.le_refl _)
      rcases hVa.sl_of h3 with ⟨hb, hl, _, _, hA⟩ | ⟨blk, ofs, a', c', hb, hlt, hva, hA, hn, hc0, haddr, hroom⟩
      · rw [hb] at he
        injection he with he; subst he
        have := grow s.h [] none 0 0 hA hl.symm (by omega) R rfl (Ext.refl _ _ _) ⟨by simp, by simp, [], .nil, rfl⟩
        rw [hl, Nat.zero_add, List.nil_append] at this
        exact this
      · rw [hb] at he
        simp only at he
        split at he
        · rename_i hcode
          obtain ⟨olds, h7, he⟩ := bind_some he
          injection he with he; subst he
          obtain ⟨hol, ho1, rolds, hov, horun⟩ := sl_cells (E := E) (w := w.drew) R.drew hVa h3 h7
          rw [hA] at horun
          exact grow s.h olds (some a') sa.len c' hA rfl (by have := hc0 hcode; omega) R rfl (Ext.refl _ _ _) ⟨hol, ho1, rolds, hov, horun⟩
        · split at he
          · rename_i c hg
            split at he
            · rename_i hcond
              obtain ⟨hcode, hend⟩ := hcond
              injection he with he; subst he
              obtain ⟨hlen, htot, hCR⟩ := R.rw blk c hg
              obtain ⟨z', hz'⟩ : ∃ z', i.size = z' + 1 := ⟨i.size - 1, by omega⟩
              by_cases hfit : sa.len + sb.len ≤ c'
              · -- in place
                have haddr' := haddr.resolve_left (by omega)
                have hroom' := (hroom z' (by omega)).resolve_left (by omega)
                rw [← hz'] at hroom'
                have hmul : (sa.len + sb.len) * i.size ≤ c' * i.size := Nat.mul_le_mul_right _ hfit
                rw [Nat.add_mul] at hmul
                obtain ⟨w', h7, R1, X1⟩ := store_sim (P := E.P) (b := blk) (o := ofs + sa.len * i.size) news rnews 0 s.h w c R hg hnv hn1 (by omega) (by omega)
                rw [Nat.add_zero, hend, gsets_app] at R1 X1
                have hg1 : (s.h.put blk (.rw (c ++ news))).get blk = some (.rw (c ++ news)) := AHeap.get_put_same _ _ _
                obtain ⟨R2, X2⟩ := R1.rename hg1 (o := ofs) (by simp; omega)
                have hget : ∀ x, (((s.h.put blk (.rw (c ++ news))).put blk .dead).alloc (.rw ((c ++ news).drop ofs))).get x = ((s.h.put blk .dead).alloc (.rw (c.drop ofs ++ news))).get x := fun x => by
                  rw [List.drop_append_of_le_length (by omega)]
                  simp only [AHeap.get_alloc, AHeap.get_put, AHeap.next_put]
                  split
                  · rfl
                  · split <;> rfl
                refine ⟨_, w', .value (.slice (some a') (sa.len + sb.len) c'), hexec ?_, ⟨_, rfl, ?_⟩, R2.sub (Nat.le_refl _) (fun x y hx => by rw [hget]; exact hx), X1.trans ⟨X2.next, X2.iota, X2.size, fun r hr hn => ?_, X2.os, X2.tape, X2.output⟩⟩
                · rw [hA]
                  refine run_app_fit (base := some a') hu hu' hi (hlenx w) hfit hnrun ?_
                  simp only
                  rw [haddr', Addr.add_lit, Nat.add_assoc]
                  exact h7
                · rw [haddr']
                  refine .slice s.h.next 0 _ _ _ c' (by simp) (.inr ?_) hfit (fun h => by simp at h) (fun z2 hz2 => .inr ?_)
                  · simp [upd_same]
                  · simp only [AHeap.next_put, upd_same]
                    have : z2 + 1 = i.size := by omega
                    rw [this]; omega
                · obtain ⟨h8, h9⟩ := X2.frame r hr hn
                  exact ⟨h8, fun ⟨x, y, hx, hm, hr⟩ => h9 ⟨x, y, by rw [hget]; exact hx, hm, hr⟩⟩
              · -- a new block
                obtain ⟨R0, X0⟩ := R.kill blk
                have hsl : s.h.sl i.size sa = some (c.drop ofs) := by
                  unfold AHeap.sl
                  rw [hb]
                  simp only
                  have hrow : s.h.row blk = some c := by simp [AHeap.row, hg, AObj.row]
                  split
                  · rename_i hl0; rw [hl0] at hend; simp at hend; rw [List.drop_eq_nil_of_le (by omega)]
                  · rw [hrow]; simp only; rw [if_pos (by omega), List.take_of_length_le (by simp; omega)]
                obtain ⟨hol, ho1, rolds, hov, horun⟩ := sl_cells (E := E) (w := w.drew) R.drew hVa h3 hsl
                rw [hA] at horun
                exact grow (s.h.put blk .dead) (c.drop ofs) (some a') sa.len c' hA rfl (by omega) R0 rfl X0 ⟨hol, ho1, rolds, hov, horun⟩
            · simp at he
          · simp at he
    · simp at he

theorem copy_sim {o : Oper} {sz : Nat} {d x : Opd} {r : Option Value × AHeap}
    (hc : ∃ yd yx t t' e e', o.op = .call { callee := .builtin .copy, args := #[yd, yx], argTypes := #[t, t'] } ∧ E.P.underlying t = some (.slice e) ∧ E.P.underlying t' = some (.slice e') ∧ tsz E e = some sz ∧
      copd E yd = some d ∧ copd E yx = some x ∧ 0 < sz)
    (R : Rel ι s.h w) (T : TR ι s.h.next s.t a.tmps) (he : wev E s (.copy sz d x) = some r) : Done E ι s a w o r := by
  obtain ⟨yd, yx, t, t', e, e', hop, hu, hu', hsz, hyd, hyx, hpos⟩ := hc
  simp only [wev] at he
  obtain ⟨sa, h1, he⟩ := bind_some he
  obtain ⟨va, h2, h3⟩ := bind_some h1
  obtain ⟨sb, h4, he⟩ := bind_some he
  obtain ⟨vx, h5, h6⟩ := bind_some h4
  obtain ⟨news, h7, he⟩ := bind_some he
  have hVa := ev_sim hyd T h2
  have hVx := ev_sim hyx T h5
  have hlenx : (Builtin.lenOf (a.eval yx)).run E.P w = .ok sb.len w := by
    rcases hVx.sl_of h6 with ⟨_, hl, _, _, hx⟩ | ⟨_, _, _, _, _, _, _, hx, _⟩ <;> rw [hx] <;> simp [Builtin.lenOf, *]
  obtain ⟨hnl, hn1, rnews, hnv, hnrun⟩ := sl_cells' (E := E) (w := w) (sl' := ⟨sb.base, min sa.len sb.len, 0⟩) R hVx h6 rfl (Nat.min_le_right _ _) h7
  have hexec : ∀ {v : Value} {w' : World}, (Builtin.copy_ #[t, t'] o.type #[a.eval yd, a.eval yx]).run E.P w = .ok v w' → (execOp a.eval o).run E.P w = .ok (.value v) w' := by
    intro v w' h
    simp [execOp, hop, resolve, invoke, builtin, h]
  have hmin : Nat.min sb.len sa.len = min sa.len sb.len := Nat.min_comm _ _
  have hnone : ∀ n c', a.eval yd = .slice none n c' → n = sa.len → min sa.len sb.len = 0 → (Builtin.copy_ #[t, t'] o.type #[a.eval yd, a.eval yx]).run E.P w = .ok (.int .i64 0) w := by
    intro n c' hA hn h0
    subst hn
    rw [h0] at hnrun hmin
    simp [Builtin.copy_, hA, run_underlying hu, hlenx, hmin, run_sizeOf hsz, hnrun, goInt]
  rcases hVa.sl_of h3 with ⟨hb, hl, _, _, hA⟩ | ⟨blk, ofs, a', c', hb, hlt, hva, hA, hn, hc0, haddr, hroom⟩
  · rw [hb] at he
    injection he with he; subst he
    exact ⟨ι, w, .value (.int .i64 0), hexec (hnone 0 0 hA hl.symm (by rw [hl]; simp)), ⟨_, rfl, .int _ _⟩, R, Ext.refl _ _ _⟩
  · rw [hb] at he
    simp only at he
    split at he
    · rename_i h0
      injection he with he; subst he
      have hnews : rnews.toArray = #[] := by
        have := hnv.1; rw [hnl, h0] at this; simp at this
        rw [List.eq_nil_of_length_eq_zero this.symm]
      refine ⟨ι, w, .value (.int .i64 0), hexec ?_, ⟨_, rfl, .int _ _⟩, R, Ext.refl _ _ _⟩
      rw [h0] at hnrun hmin
      rw [hnews] at hnrun
      simp [Builtin.copy_, hA, run_underlying hu, hlenx, hmin, run_sizeOf hsz, hnrun, goInt, storeCells]
    · rename_i h0
      split at he
      · rename_i c hg
        split at he
        · rename_i hle
          injection he with he; subst he
          obtain ⟨hlen, htot, hCR⟩ := R.rw blk c hg
          have hnl' : news.length = min sa.len sb.len * sz := hnl
          obtain ⟨w', h8, R1, X1⟩ := store_sim (P := E.P) (b := blk) (o := ofs) news rnews 0 s.h w c R hg hnv hn1 (by omega) (by omega)
          rw [Nat.add_zero, gsets_set _ _ _ (by omega)] at R1 X1
          refine ⟨ι, w', .value (.int .i64 (min sa.len sb.len : Nat)), hexec ?_, ⟨_, rfl, .int _ _⟩, R1, X1⟩
          have haddr' := haddr.resolve_left (by omega)
          rw [haddr'] at hA
          simp only [Builtin.copy_, hA, Sem.run_bind, run_underlying hu, Result.andThen, hlenx, hmin, run_sizeOf hsz, hnrun, goInt, h8, Sem.run_pure, List.getElem?_toArray, List.getElem?_cons_zero, List.getElem?_cons_succ]
        · simp at he
      · simp at he
end
end Go.Proofs.Ytfdapegcngmknaa.AM
