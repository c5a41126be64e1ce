/- Stores, append, copy. Conditions: none. -/
import Derived.Test.YtjnpdnlgkepmcaaAmWev
namespace Go.Proofs.Ytjnpdnlgkepmcaa.AM
set_option linter.unusedSimpArgs false
set_option linter.unusedVariables false
open Go Go.RowKit
section
variable {E : Env} {ι : Iota} {s : St} {a : Act} {w : World}
theorem new_done' {o : Oper} {c : List Value} {cs : Array Value} {t : TypeId} {u rv : Value} {w1 : World} {h0 : AHeap} (R : Rel ι h0 w1) (hn : h0.next = s.h.next) (hw : Ext ι s.h w ι h0 w1) (hl : c.length ≤ cs.size)
  (hc : ∀ (i : Nat) (u : Value), c[i]? = some u → u.oneCell' = true ∧ ∃ v, cs[i]? = some v ∧ VR ι s.h.next u v)
  (hrun : (execOp a.eval o).run E.P w = .ok (.value rv) (w1.alloc (.cells cs t)))
  (hv : VR (upd ι s.h.next ⟨w1.heap.size, 0, cs.size⟩) (s.h.next + 1) u rv) : Done E ι s a w o (some u, h0.alloc (.rw c)) := by
 obtain ⟨R1, X1⟩ := R.new (t := t) hl (by rw [hn]; exact hc)
 refine ⟨_, _, _, hrun, ⟨_, rfl, ?_⟩, R1, hw.trans X1⟩
 rw [hn]; simp only [AHeap.next_alloc, hn]; exact hv
theorem Rel.kill {h : AHeap} (R : Rel ι h w) (b : Nat) : Rel ι (h.put b .dead) w ∧ Ext ι h w ι (h.put b .dead) w := by
 have hs : ∀ x o, (h.put b .dead).get x = some o → h.get x = some o := fun x o hx => by
  rw [AHeap.get_put] at hx; split at hx
  · simp [AObj.live] at hx
  · exact hx
 exact ⟨R.sub (Nat.le_refl _) hs, Ext.sub (Nat.le_refl _) hs⟩
theorem Rel.rename {h : AHeap} (R : Rel ι h w) {b o : Nat} {d : List Value} (hb : h.get b = some (.rw d)) (ho : o ≤ d.length) :
   Rel (upd ι h.next ⟨(ι b).r, (ι b).f + o, (ι b).tot - o⟩) ((h.put b .dead).alloc (.rw (d.drop o))) w ∧
   Ext ι h w (upd ι h.next ⟨(ι b).r, (ι b).f + o, (ι b).tot - o⟩) ((h.put b .dead).alloc (.rw (d.drop o))) w := by
 obtain ⟨hlen, htot, hCR⟩ := R.rw b d hb
 have hget : ∀ x, ((h.put b .dead).alloc (.rw (d.drop o))).get x = if x = h.next then some (.rw (d.drop o)) else if x = b then none else h.get x := fun x => by
   rw [AHeap.get_alloc, AHeap.next_put, AHeap.get_put]; rfl
 have old : ∀ x ob, x ≠ h.next → ((h.put b .dead).alloc (.rw (d.drop o))).get x = some ob → x ≠ b ∧ h.get x = some ob := fun x ob hx hg => by
   rw [hget, if_neg hx] at hg
   by_cases hxb : x = b
   · rw [if_pos hxb] at hg; cases hg
   · rw [if_neg hxb] at hg; exact ⟨hxb, hg⟩
 have hnew : ∀ ox, ((h.put b .dead).alloc (.rw (d.drop o))).get h.next = some ox → ox = .rw (d.drop o) := fun ox hx => by rw [hget, if_pos rfl] at hx; injection hx with hx; exact hx.symm
 refine ⟨⟨?_, ?_, ?_, ?_, ?_, ?_, R.im, R.gb⟩, ⟨by simp, .upd, Nat.le_refl _, ?_, fun _ _ _ _ => rfl, rfl, rfl, rfl⟩⟩
 · intro x ob hx
   by_cases hxn : x = h.next
   · subst hxn; simp
   · have := R.lt x ob (old x ob hxn hx).2; simp; omega
 · intro x ob r hx hr
   by_cases hxn : x = h.next
   · subst hxn; obtain rfl := hnew ob hx
     simp only [Iota.at, upd_same] at hr
     exact R.real b _ r hb hr
   · rw [at_upd hxn] at hr; exact R.real x ob r (old x ob hxn hx).2 hr
 · intro x c hx
   by_cases hxn : x = h.next
   · subst hxn
     have := hnew _ hx
     injection this with this; subst this
     refine ⟨by rw [upd_same]; simp; omega, fun i hi => ?_, fun i u hu => ?_⟩
     · rw [upd_same] at hi ⊢
       simp only at hi ⊢
       rw [Nat.add_assoc]
       exact htot (o + i) (by omega)
     · rw [List.getElem?_drop] at hu
       obtain ⟨h0, v, h1, h2⟩ := hCR (o + i) u hu
       refine ⟨h0, v, ?_, h2.more (by simp) .upd⟩
       rw [upd_same]; simp only; rw [Nat.add_assoc]; exact h1
   · obtain ⟨hxb, hg⟩ := old x _ hxn hx
     obtain ⟨h1, h2, h3⟩ := R.rw x c hg
     rw [upd_ne _ _ hxn]
     exact ⟨h1, h2, h3.more (by simp) .upd (upd_ne _ _ hxn) fun _ _ h => h⟩
 · intro x n z hx
   have hxn : x ≠ h.next := fun e => by subst e; cases hnew _ hx
   exact R.tail x n z (old x _ hxn hx).2
 · intro x l hx
   have hxn : x ≠ h.next := fun e => by subst e; cases hnew _ hx
   rw [upd_ne _ _ hxn]
   obtain ⟨ob, h1, h2⟩ := R.loop x l (old x _ hxn hx).2
   exact ⟨ob, h1, h2.more (by simp) .upd⟩
 · intro x ox y oy r hx hm hy hne
   by_cases hxn : x = h.next
   · subst hxn
     obtain rfl := hnew ox hx
     simp only [Iota.at, upd_same] at hm
     obtain ⟨hyb, hgy⟩ := old y _ hne hy
     rw [at_upd hne]
     exact R.sep b _ y oy r hb hm hgy hyb
   · rw [at_upd hxn] at hm
     obtain ⟨hxb, hgx⟩ := old x _ hxn hx
     by_cases hyn : y = h.next
     · subst hyn
       obtain rfl := hnew oy hy
       simp only [Iota.at, upd_same]
       exact fun hh => R.sep x ox b _ r hgx hm hb (Ne.symm hxb) hh
     · rw [at_upd hyn]
       exact R.sep x ox y oy r hgx hm (old y _ hyn hy).2 hne
 · intro r hr hn
   refine ⟨rfl, fun ⟨x, ox, hx, hm⟩ => ?_⟩
   by_cases hxn : x = h.next
   · subst hxn; obtain rfl := hnew ox hx
     simp only [Iota.at, upd_same] at hm
     exact hn ⟨b, _, hb, hm⟩
   · rw [at_upd hxn] at hm; exact hn ⟨x, ox, (old x _ hxn hx).2, hm⟩
theorem storeop_sim {o : Oper} {n : Nat} {pa x : Opd} {r : Option Value × AHeap} (hc : ∃ t y z, o.op = .store t y z ∧ tsz E t = some n ∧ copd E y = some pa ∧ copd E z = some x)
   (R : Rel ι s.h w) (T : TR ι s.h.next s.t a.tmps) (he : wev E s (.store n pa x) = some r) : Done E ι s a w o r := by
 obtain ⟨t, y, z, ho, hn, hy, hz⟩ := hc
 simp only [wev] at he
 obtain ⟨p, h1, he⟩ := bind_some he
 obtain ⟨pv, h2, h3⟩ := bind_some h1
 obtain ⟨v, h4, he⟩ := bind_some he
 obtain ⟨_, hlt, hx⟩ := (ev_sim hy T h2).ptr_of h3
 split at he
 · rename_i c hg
   split at he
   · rename_i hcond
     obtain ⟨hsz, hle, hone⟩ := hcond
     injection he with he; subst he
     have hcl := (ev_sim hz T h4).cells
     obtain ⟨hlen, _, _⟩ := R.rw p.1 c hg
     have hcn : v.cells.toList.length = n := by simpa using hsz
     obtain ⟨w', h5, R1, X1⟩ := store_sim (P := E.P) (b := p.1) (o := p.2) v.cells.toList (a.eval z).cells.toList 0 s.h w c R hg hcl (fun i u hu => oneL_mem hone hu) (by omega) (by omega)
     rw [Nat.add_zero, gsets_set _ _ _ (by omega)] at R1 X1
     refine ⟨ι, w', .skip, ?_, rfl, R1, X1⟩
     have hzs : (a.eval z).cells.size = n := by have := hcl.1; simp at this; omega
     simp only [execOp, ho, Instr.storeAt, Sem.run_bind, hx, Instr.sureAddr, Sem.run_pure, Result.andThen, storeVar, run_sizeOf hn]
     rw [if_neg (by simp [hzs])]
     simp only [h5]
   · simp at he
 · simp at he
theorem els_sim {u v : Value} {sl : Sl} {sz : Nat} {es : List Value} (R : Rel ι s.h w) (hv : VR ι s.h.next u v) (hs : vsl u = some sl) (hpos : 0 < sz) (hc : s.h.els sz sl = some es) :
   es.length = sl.len ∧ (∀ (i : Nat) (e : Value), es[i]? = some e → e.cells.size = sz) ∧ ∃ base cap, v = .slice base sl.len cap ∧ sl.len ≤ cap ∧ (base = none → cap = 0) ∧
     ∀ (i j : Nat) (e u : Value), es[i]? = some e → e.cells[j]? = some u → u.oneCell' = true ∧ ∃ r f v, base = some ⟨r, f, none⟩ ∧ w.cell? ⟨r, f + i * sz + j, none⟩ = some v ∧ VR ι s.h.next u v := by
 unfold AHeap.els at hc
 rcases hv.sl_of hs with ⟨hb, hl, _, _, rfl⟩ | ⟨b, o, a', c', hb, hlt, _, rfl, hn, _, ha, _⟩ | ⟨z, es', hb, hl, _, _, hV⟩
 · rw [hb] at hc; injection hc with hc; subst hc
   rw [hl]
   exact ⟨rfl, by simp, none, 0, rfl, Nat.le_refl _, fun _ => rfl, by simp⟩
 · rw [hb] at hc
   simp only at hc
   split at hc
   · rename_i c hrow
     split at hc
     · rename_i hle
       injection hc with hc; subst hc
       have hCR := (R.row hrow).2
       have hg := chunk_get hpos sl.len (c.drop o) (by simp; omega) (fun i u _ hu => (hCR (o + i) u (by simpa using hu)).1)
       refine ⟨chunk_len _ _ _ (by simp; omega), fun i e he => (hg i e he).1, some a', c', rfl, hn, (fun h => by cases h), fun i j e u he hu => ?_⟩
       obtain ⟨h1, h2, h3⟩ := hg i e he
       have h4 := h3 j u hu
       rw [List.getElem?_drop] at h4
       obtain ⟨h5, v, h6, h7⟩ := hCR _ u h4
       refine ⟨h5, (ι b).r, (ι b).f + o, v, ?_, ?_, h7⟩
       · rw [ha.resolve_left (by omega)]
       · rw [← h6]; congr 2; omega
     · simp at hc
   · simp at hc
 · rw [hb] at hc
   simp only at hc
   split at hc
   · rename_i hz
     injection hc with hc; subst hc; subst hz
     rcases hV.vs_of with ⟨h0, h1 | ⟨a', c', h1⟩⟩ | ⟨r, f, c', _, hle, h1, h2, h3⟩
     · subst h0; exact ⟨hl.symm, by simp, none, 0, by rw [h1, hl]; rfl, by rw [hl]; simp, fun _ => rfl, by simp⟩
     · subst h0; exact ⟨hl.symm, by simp, some a', c', by rw [h1, hl]; rfl, by rw [hl]; simp, fun h => by (cases h), by simp⟩
     · refine ⟨hl.symm, h2, some ⟨r, f, none⟩, c', by rw [h1, hl], by rw [hl]; exact hle, fun h => by (cases h), fun i j e u he hu => ?_⟩
       obtain ⟨h4, v, h5, h6⟩ := h3 i j e u he hu
       exact ⟨h4, r, f, v, rfl, R.im _ _ _ h5, h6⟩
   · simp at hc
theorem cells_of_els {es : List Value} {base : Option Addr} {len cap sz m : Nat} (hpos : 0 < sz) (hlen : es.length = len) (hm : m ≤ len) (hz : ∀ (i : Nat) (e : Value), es[i]? = some e → e.cells.size = sz)
   (h1 : ∀ (i j : Nat) (e u : Value), es[i]? = some e → e.cells[j]? = some u → u.oneCell' = true ∧ ∃ r f v, base = some ⟨r, f, none⟩ ∧ w.cell? ⟨r, f + i * sz + j, none⟩ = some v ∧ VR ι s.h.next u v) :
   (flat (es.take m)).length = m * sz ∧ (∀ (i : Nat) (u : Value), (flat (es.take m))[i]? = some u → u.oneCell' = true) ∧ ∃ vs, VRL ι s.h.next (flat (es.take m)) vs ∧ (Builtin.firstCells sz m (.slice base len cap)).run E.P w = .ok vs.toArray w := by
 have hz' : ∀ (i : Nat) (e : Value), (es.take m)[i]? = some e → e.cells.size = sz := fun i e he => by
   rw [List.getElem?_take] at he; split at he
   · exact hz i e he
   · cases he
 have hfl := flat_len (es.take m) hz'
 have hml : (es.take m).length = m := by simp; omega
 rw [hml] at hfl
 have get : ∀ (k : Nat) (u : Value), (flat (es.take m))[k]? = some u → ∃ e, es[k / sz]? = some e ∧ e.cells[k % sz]? = some u := fun k u hu => by
   obtain ⟨e, h2, h3⟩ := flat_get hpos (es.take m) k u hz' hu
   rw [List.getElem?_take] at h2; split at h2
   · exact ⟨e, h2, h3⟩
   · cases h2
 refine ⟨hfl, fun i u hu => by obtain ⟨e, h2, h3⟩ := get i u hu; exact (h1 _ _ e u h2 h3).1, ?_⟩
 by_cases h0 : m = 0
 · subst h0
   refine ⟨[], by simp [flat]; exact .nil, ?_⟩
   cases base with
   | none => rfl
   | some a => simp [Builtin.firstCells, loadCells, loadCellsFrom]
 ·
   have hpos2 : 0 < m * sz := Nat.mul_pos (by omega) hpos
   obtain ⟨u0, hu0⟩ : ∃ u, (flat (es.take m))[0]? = some u := ⟨_, List.getElem?_eq_getElem (by omega)⟩
   obtain ⟨e0, h2, h3⟩ := get 0 u0 hu0
   obtain ⟨_, r, f, _, hb, _⟩ := h1 _ _ e0 u0 h2 h3
   subst hb
   obtain ⟨vs, h5, h6⟩ := cells_list (ι := ι) (w := w) (r := r) (N := s.h.next) (flat (es.take m)) f (fun i u hu => by
     obtain ⟨e, h2, h3⟩ := get i u hu
     obtain ⟨_, r', f', v, hb, h4, h5⟩ := h1 _ _ e u h2 h3
     injection hb with hb; injection hb with e1 e2; subst e1; subst e2
     refine ⟨v, ?_, h5⟩
     have hdm := Nat.div_add_mod i sz
     rw [← h4]; congr 2
     rw [Nat.mul_comm] at hdm
     omega)
   refine ⟨vs, h5, ?_⟩
   simp only [Builtin.firstCells]
   exact run_cells (by rw [← h5.1, hfl]) h6
theorem storeT_sim {P : Program} {b n z : Nat} : ∀ (vs : List Value) (o k : Nat) (w : World), Rel ι s.h w → s.h.get b = some (.tail n z) → (ι.tk b).none = false → (∀ (i : Nat) (u : Value), vs[i]? = some u → u.oneCell' = true) → n * z ≤ o + k → o + k + vs.length ≤ (ι.tk b).tot →
    ∃ w', (storeCells ⟨(ι.tk b).r, o, none⟩ vs k).run P w = .ok () w' ∧ Rel ι s.h w' ∧ Ext ι s.h w ι s.h w' ∧ (∀ i, i < o + k → w'.cell? ⟨(ι.tk b).r, i, none⟩ = w.cell? ⟨(ι.tk b).r, i, none⟩) ∧ ∀ (j : Nat) (v : Value), vs[j]? = some v → w'.cell? ⟨(ι.tk b).r, o + k + j, none⟩ = some v
  | [], o, k, w, R, hb, hf, h1, hk, ht => ⟨w, rfl, R, Ext.refl _ _ _, fun _ _ => rfl, by simp⟩
  | v :: vs, o, k, w, R, hb, hf, h1, hk, ht => by
    simp only [List.length_cons] at ht
    have hone := h1 0 v rfl
    obtain ⟨⟨v0, hv0⟩, hfz, _⟩ := ((R.tail b n z hb).room hf).2 (o + k) (by omega)
    obtain ⟨R1, X1, hc1⟩ := R.setTail (v := v) hb hf hk (o := o + k) (by omega)
    obtain ⟨w', h2, R2, X2, h3, h4⟩ := storeT_sim (P := P) (b := b) vs o (k + 1) _ R1 hb hf (fun i x hx => h1 (i + 1) x (by simpa using hx)) (by omega) (by omega)
    refine ⟨w', ?_, R2, X1.trans X2, fun i hi => ?_, fun j x hx => ?_⟩
    · simp only [storeCells, Sem.run_bind, Addr.add_lit]
      rw [run_store P w _ v .plain hone]
      simp only [hv0, hfz, Bool.false_eq_true, if_false, Result.andThen]
      exact h2
    · rw [h3 i (by omega)]
      exact World.cell?_setCell_other _ _ _ _ (fun heq => by injection heq with _ h5; omega)
    · cases j with
      | zero => simp at hx; subst hx; rw [Nat.add_zero, h3 _ (by omega)]; exact hc1
      | succ j => rw [show o + k + (j + 1) = o + (k + 1) + j by omega]; exact h4 j x (by simpa using hx)
theorem run_app_fit {P : Program} {w w' : World} {t t' ty e e' : TypeId} {i : TypeInfo} {base : Option Addr} {sLen sCap n : Nat} {x : Value} {news : Array Value}
  (ht : P.underlying t = some (.slice e)) (ht' : P.underlying t' = some (.slice e')) (hi : P.info? e = some i) (hx : (Builtin.lenOf x).run P w = .ok n w) (hle : sLen + n ≤ sCap)
  (hn : (Builtin.firstCells i.size n x).run P w = .ok news w) (hs : match base with | some p => (storeCells (p.add (sLen * i.size)) news.toList).run P w = .ok () w' | none => w' = w) :
  (Builtin.append_ #[t, t'] ty #[.slice base sLen sCap, x]).run P w = .ok (.slice base (sLen + n) sCap) w' := by
 cases base with
 | none => subst hs; simp [Builtin.append_, run_underlying ht, run_underlying ht', sizeOf, typeInfo, hi, hx, hle, hn]
 | some p => simp [Builtin.append_, run_underlying ht, run_underlying ht', sizeOf, typeInfo, hi, hx, hle, hn, hs]
theorem run_app_grow {P : Program} {w : World} {t t' ty e e' : TypeId} {i : TypeInfo} {z : Value} {base : Option Addr} {sLen sCap n : Nat} {x : Value} {olds news : Array Value}
   (ht : P.underlying t = some (.slice e)) (ht' : P.underlying t' = some (.slice e')) (hi : P.info? e = some i) (hz : i.zero = some z) (hx : (Builtin.lenOf x).run P w = .ok n w) (hg : sCap < sLen + n)
   (h63 : sLen + n ≤ 1099511627776) (hb : (sLen + n) * i.bytes ≤ 1099511627776)
   (ho : (Builtin.firstCells i.size sLen (.slice base sLen sCap)).run P w.drew = .ok olds w.drew) (hn : (Builtin.firstCells i.size n x).run P w.drew = .ok news w.drew) :
   ∃ newCap, sLen + n ≤ newCap ∧ (Builtin.append_ #[t, t'] ty #[.slice base sLen sCap, x]).run P w =
    .ok (.slice (some ⟨w.heap.size, 0, none⟩) (sLen + n) newCap) (w.drew.alloc (.cells (olds ++ news ++ Builtin.zeroCells z.cells (newCap - (sLen + n))) e)) := by
 have h1 : ¬ (sLen + n ≤ sCap) := by omega
 have h2 : ¬ (9223372036854775807 < ((sLen : Int) + (n : Int))) := by omega
 have hfit := growslice_fits (need := sLen + n) (old := sCap) (bytes := i.bytes) hg (by omega)
 have h3 : ¬ (281474976710656 < Builtin.nextslicecap (sLen + n) sCap * i.bytes) := by omega
 refine ⟨grownCap w (sLen + n) sCap e, ?_, ?_⟩
 · simp only [grownCap, Question.cut]; exact Nat.le_add_right _ _
 · simp [Builtin.append_, run_underlying ht, run_underlying ht', sizeOf, typeInfo, zeroValue, hi, hz, hx, h1, h2, h3, Question.forced, ho, hn, newRow, grownCap]
theorem zeroCells_size {z : Array Value} {n : Nat} : (Builtin.zeroCells z n).size = n * z.size := by simp [Builtin.zeroCells]
theorem append_sim {o : Oper} {sz by_ : Nat} {so x : Opd} {r : Option Value × AHeap}
    (hc : ∃ ys yx t t' e e' z, o.op = .call { callee := .builtin .append, args := #[ys, yx], argTypes := #[t, t'] } ∧ E.P.underlying t = some (.slice e) ∧ E.P.underlying t' = some (.slice e') ∧ tsz E e = some sz ∧ tby E e = some by_ ∧ tzero E e = some z ∧
      copd E ys = some so ∧ copd E yx = some x ∧ z.length = sz ∧ 0 < sz)
    (R : Rel ι s.h w) (T : TR ι s.h.next s.t a.tmps) (he : wev E s (.append sz by_ so x) = some r) : Done E ι s a w o r := by
  obtain ⟨ys, yx, t, t', e, e', z, hop, hu, hu', hsz, hby, hz, hys, hyx, hzl, hpos⟩ := hc
  simp only [wev] at he
  obtain ⟨va, h2, he⟩ := bind_some he
  obtain ⟨vx, h4, he⟩ := bind_some he
  obtain ⟨sb, h5, he⟩ := bind_some he
  obtain ⟨news, h6, he⟩ := bind_some he
  have hVa := ev_sim hys T h2
  have hVx := ev_sim hyx T h4
  obtain ⟨hnl, hnz, bx, cx, hx, hlx, _, hnc⟩ := els_sim (w := w) R hVx h5 hpos h6
  have first : ∀ w2, (∀ a, w2.cell? a = w.cell? a) → (flat news).length = news.length * sz ∧ (∀ (i : Nat) (u : Value), (flat news)[i]? = some u → u.oneCell' = true) ∧
      ∃ vs, VRL ι s.h.next (flat news) vs ∧ (Builtin.firstCells sz sb.len (.slice bx sb.len cx)).run E.P w2 = .ok vs.toArray w2 := fun w2 hw2 => by
    have := cells_of_els (E := E) (s := s) (ι := ι) (w := w2) (base := bx) (cap := cx) (m := sb.len) hpos hnl (Nat.le_refl _) hnz (fun i j e u he hu => by
      obtain ⟨h7, r, f, v, h8, h9, h10⟩ := hnc i j e u he hu
      exact ⟨h7, r, f, v, h8, by rw [hw2]; exact h9, h10⟩)
    rw [List.take_of_length_le (by omega)] at this
    rw [hnl]; exact this
  obtain ⟨hfl, hn1, rnews, hnv, hnrun⟩ := first w (fun _ => rfl)
  obtain ⟨_, _, rnews', hnv', hnrun'⟩ := first w.drew (fun _ => rfl)
  have hinfo : ∃ i zv, E.P.info? e = some i ∧ i.size = sz ∧ i.bytes = by_ ∧ i.zero = some zv ∧ zv.cells.size = sz := by
    unfold tsz at hsz; unfold tby at hby; unfold tzero at hz
    cases hi : E.P.info? e with
    | none => simp [hi] at hsz
    | some i =>
      simp [hi] at hsz hby
      cases hzz : i.zero with
      | none => simp [hi, hzz] at hz
      | some zv =>
        simp [hi, hzz] at hz
        exact ⟨i, zv, rfl, hsz, hby, hzz, by rw [← hz.2] at hzl; simpa using hzl⟩
  obtain ⟨i, zv, hi, hi1, hi2, hi3, hi4⟩ := hinfo
  have hlenx : ∀ w, (Builtin.lenOf (a.eval yx)).run E.P w = .ok sb.len w := by
    intro w; rw [hx]; simp [Builtin.lenOf]
  have hexec : ∀ {v : Value} {w' : World}, (Builtin.append_ #[t, t'] o.type #[a.eval ys, a.eval yx]).run E.P w = .ok v w' → (execOp a.eval o).run E.P w = .ok (.value v) w' := by
    intro v w' h
    simp [execOp, hop, resolve, invoke, builtin, h]
  rw [← hx] at hnrun hnrun'
  subst hi1
  subst hi2
  have grow : ∀ (olds : List Value) (base : Option Addr) (n c' : Nat), a.eval ys = .slice base n c' → olds.length = n → c' < n + news.length → (n + news.length) * i.bytes ≤ 1099511627776 → n + news.length ≤ 1099511627776 →
      (∀ (k : Nat) (e : Value), olds[k]? = some e → e.cells.size = i.size) →
      ((flat olds).length = n * i.size ∧ (∀ (k : Nat) (u : Value), (flat olds)[k]? = some u → u.oneCell' = true) ∧ ∃ vs, VRL ι s.h.next (flat olds) vs ∧ (Builtin.firstCells i.size n (.slice base n c')).run E.P w.drew = .ok vs.toArray w.drew) →
      ∃ cs newCap, (execOp a.eval o).run E.P w = .ok (.value (.slice (some ⟨w.drew.heap.size, 0, none⟩) (olds ++ news).length newCap)) (w.drew.alloc (.cells cs e)) ∧ (olds ++ news).length ≤ newCap ∧ newCap * i.size = cs.size ∧
        (∀ (k : Nat) (e : Value), (olds ++ news)[k]? = some e → e.cells.size = i.size) ∧
        (∀ (k j : Nat) (e u : Value), (olds ++ news)[k]? = some e → e.cells[j]? = some u → u.oneCell' = true ∧ ∃ v, cs[k * i.size + j]? = some v ∧ VR ι s.h.next u v) := by
    intro olds base n c' hA hn hg hb1 hb2 hoz ⟨hol, ho1, rolds, hov, horun⟩
    rw [← hn] at hg hb1 hb2 hA hol horun
    obtain ⟨newCap, hcap, hrun⟩ := run_app_grow (ty := o.type) (n := sb.len) (x := a.eval yx) (sLen := olds.length) (sCap := c') (base := base) hu hu' hi hi3 (hlenx w) (by omega) (by omega) (by rw [← hnl]; exact hb1) horun hnrun'
    have hall : ∀ (k : Nat) (e : Value), (olds ++ news)[k]? = some e → e.cells.size = i.size := fun k e he => by
      rcases Nat.lt_or_ge k olds.length with hk | hk
      · rw [List.getElem?_append_left hk] at he; exact hoz k e he
      · rw [List.getElem?_append_right hk] at he; exact hnz _ e he
    have hszr : rolds.length = olds.length * i.size := by rw [← hov.1]; exact hol
    have hszn : rnews'.length = news.length * i.size := by rw [← hnv'.1]; exact hfl
    have hl2 : (olds ++ news).length = olds.length + sb.len := by simp [hnl]
    refine ⟨_, newCap, hexec (by rw [hl2, hA]; exact hrun), by omega, ?_, hall, fun k j e u he hu => ?_⟩
    · simp only [Array.size_append, List.size_toArray, zeroCells_size, hi4, hszr, hszn]
      rw [← hnl] at hcap ⊢
      have : newCap = olds.length + news.length + (newCap - (olds.length + news.length)) := by omega
      calc newCap * i.size = (olds.length + news.length + (newCap - (olds.length + news.length))) * i.size := by rw [← this]
        _ = _ := by rw [Nat.add_mul, Nat.add_mul]
    · have hfa : ∀ (l l' : List Value), flat (l ++ l') = flat l ++ flat l' := by
        intro l l'
        induction l with
        | nil => rfl
        | cons x l ih => simp [flat, ih]
      have hk := flat_mk hpos (olds ++ news) k j e u hall he hu
      rw [hfa] at hk
      have hone : u.oneCell' = true := by
        rcases Nat.lt_or_ge (k * i.size + j) (flat olds).length with hlt | hge
        · rw [List.getElem?_append_left hlt] at hk; exact ho1 _ u hk
        · rw [List.getElem?_append_right hge] at hk; exact hn1 _ u hk
      obtain ⟨v, h7, h8⟩ := (hov.append hnv').get hk
      refine ⟨hone, v, ?_, h8⟩
      have hjl : k * i.size + j < (rolds.toArray ++ rnews'.toArray).size := by
        have := (List.getElem?_eq_some_iff.1 h7).1; simpa using this
      rw [Array.getElem?_append_left hjl]
      simpa [← Array.getElem?_toList] using h7
  have noth : news = [] → (Builtin.firstCells i.size 0 (a.eval yx)).run E.P w = .ok #[] w := fun h0 => by
    subst h0
    have : rnews = [] := List.eq_nil_of_length_eq_zero (by rw [← hnv.1]; simp [flat])
    rw [this, ← hnl] at hnrun
    exact hnrun
  have flatget : ∀ (es : List Value) (cs : Array Value), (∀ (k : Nat) (e : Value), es[k]? = some e → e.cells.size = i.size) → (∀ (k j : Nat) (e u : Value), es[k]? = some e → e.cells[j]? = some u → u.oneCell' = true ∧ ∃ v, cs[k * i.size + j]? = some v ∧ VR ι s.h.next u v) →
      ∀ (k : Nat) (u : Value), (flat es)[k]? = some u → u.oneCell' = true ∧ ∃ v, cs[k]? = some v ∧ VR ι s.h.next u v := by
    intro es cs h1 h2 k u hu
    obtain ⟨e, h3, h4⟩ := flat_get hpos es k u h1 hu
    have := h2 _ _ e u h3 h4
    rw [show k / i.size * i.size + k % i.size = k by have := Nat.div_add_mod k i.size; rw [Nat.mul_comm] at this; exact this] at this
    exact this
  have zero : ∀ aa v0, VR ι s.h.next v0 (a.eval ys) → a.eval ys = .slice aa 0 0 → (news.length * i.bytes ≤ 1099511627776 ∧ news.length ≤ 1099511627776) → anew v0 i.size news s.h = some r → Done E ι s a w o r := by
      intro aa v0 hv0 hA hb he
      unfold anew at he
      cases hmode : s.h.m with
      | true =>
        rw [hmode] at he
        simp only at he
        split at he
        · injection he with he; subst he
          have hx0 := hlenx w
          rw [← hnl] at hx0
          refine ⟨ι, w, .value (a.eval ys), hexec ?_, ⟨_, rfl, hv0⟩, R, Ext.refl _ _ _⟩
          rw [hA]
          cases aa with
          | none => exact run_app_fit (base := none) hu hu' hi hx0 (by simp) (noth rfl) rfl
          | some aa => exact run_app_fit (base := some aa) hu hu' hi hx0 (by simp) (noth rfl) (by simp [storeCells])
        · rename_i hne
          injection he with he; subst he
          have hpos2 : 0 < news.length := List.length_pos_iff.2 (fun e => hne e)
          obtain ⟨cs, newCap, h7, h8, h9, h10, h11⟩ := grow [] aa 0 0 hA rfl (by omega) (by rw [Nat.zero_add]; exact hb.1) (by omega) (by simp) ⟨by simp [flat], by simp [flat], [], .nil, by cases aa <;> simp [Builtin.firstCells, loadCells, loadCellsFrom]⟩
          rw [List.nil_append] at h7 h8 h10 h11
          have hmul : news.length * i.size ≤ newCap * i.size := Nat.mul_le_mul_right _ h8
          exact new_done (t := e) (cs := cs) (f := fun b => .slice (some b) news.length newCap) R.drew (Ext.refl _ _ _).drew (by rw [hfl]; omega) (flatget news cs h10 h11) h7 (vr_new (sz := i.size) h8 (fun h => by omega) (.inr rfl) (fun _ => h9))
      | false =>
      rw [hmode] at he
      injection he with he; subst he
      by_cases h0 : news = []
      · have hx0 := hlenx w
        rw [← hnl, h0] at hx0
        have hT : TailR ⟨0, 0, i.size, 0, true⟩ ι.im 0 i.size w := ⟨rfl, rfl, fun _ => .inl rfl, fun _ => rfl, fun h => by simp at h⟩
        have R1 := R.addTail (t := ⟨0, 0, i.size, 0, true⟩) (fun h => by simp at h) hT
        have X1 := (Ext.refl ι s.h w).addTail (t := ⟨0, 0, i.size, 0, true⟩) (n := 0) (z := i.size) (fun h => by simp at h)
        subst h0
        refine ⟨_, w, .value (.slice aa 0 0), hexec ?_, ⟨_, rfl, ?_⟩, R1, X1⟩
        · rw [hA]
          cases aa with
          | none => exact run_app_fit (base := none) hu hu' hi hx0 (by simp) (noth rfl) rfl
          | some aa => exact run_app_fit (base := some aa) hu hu' hi hx0 (by simp) (noth rfl) (by simp [storeCells])
        · exact .vt i.size [] s.h.next _ (by simp) (by cases aa; exact .vsn _; exact .vs0 _ _ _) (by simp [updT]) (fun _ => .inl ⟨by simp [updT], _, rfl⟩)
      · have hpos2 : 0 < news.length := List.length_pos_iff.2 h0
        obtain ⟨cs, newCap, h7, h8, h9, h10, h11⟩ := grow [] aa 0 0 hA rfl (by omega) (by rw [Nat.zero_add]; exact hb.1) (by omega) (by simp) ⟨by simp [flat], by simp [flat], [], .nil, by cases aa <;> simp [Builtin.firstCells, loadCells, loadCellsFrom]⟩
        rw [List.nil_append] at h7 h8 h10 h11
        exact tail_done R.drew (Ext.refl _ _ _).drew hpos h8 (Nat.le_of_eq h9) h10 h11 h7
  split at he
  ·
    have hA : a.eval ys = .slice none 0 0 := by
      generalize a.eval ys = q at hVa
      cases hVa; rfl
    split at he
    · rename_i hb; exact zero _ _ hVa hA hb he
    · simp at he
  · obtain ⟨aa, hA⟩ := hVa.z_of
    split at he
    · rename_i hb; exact zero _ _ hVa hA hb.2 he
    · simp at he
  ·
    rename_i blk ofs n code _ _ _
    split at he
    · rename_i hbd
      obtain ⟨hb1, hb2⟩ := hbd
      split at he
      · rename_i c hg
        split at he
        · rename_i hcond
          obtain ⟨hcode, hend, hne⟩ := hcond
          injection he with he; subst he
          have hne' : news ≠ [] := fun e => by subst e; simp at hne
          have hpos2 : 0 < news.length := List.length_pos_iff.2 hne'
          obtain ⟨hlen, htot, hCR⟩ := R.rw blk c hg
          obtain ⟨z', hz'⟩ : ∃ z', i.size = z' + 1 := ⟨i.size - 1, by omega⟩
          generalize hAe : a.eval ys = A at hVa
          have hVa2 := hVa
          cases hVa with
          | slice _ _ _ _ a' c' hblt haddr hn hc0 hroom =>
          by_cases hfit : n + news.length ≤ c'
          ·
            have haddr' := haddr.resolve_left (by omega)
            have hroom' := hroom z' (by omega)
            rw [← hz'] at hroom'
            have hmul : (n + news.length) * i.size ≤ c' * i.size := Nat.mul_le_mul_right _ hfit
            rw [Nat.add_mul] at hmul
            obtain ⟨w', h7, R1, X1⟩ := store_sim (P := E.P) (b := blk) (o := ofs + n * i.size) (flat news) rnews 0 s.h w c R hg hnv hn1 (by omega) (by omega)
            rw [Nat.add_zero, hend, gsets_app] at R1 X1
            have hg1 : (s.h.put blk (.rw (c ++ flat news))).get blk = some (.rw (c ++ flat news)) := AHeap.get_put_same _ _ _
            obtain ⟨R2, X2⟩ := R1.rename hg1 (o := ofs) (by simp; omega)
            have hget : ∀ x, (((s.h.put blk (.rw (c ++ flat news))).put blk .dead).alloc (.rw ((c ++ flat news).drop ofs))).get x = ((s.h.put blk .dead).alloc (.rw (c.drop ofs ++ flat news))).get x := fun x => by
              rw [List.drop_append_of_le_length (by omega)]
              simp only [AHeap.get_alloc, AHeap.get_put, AHeap.next_put]
              split
              · rfl
              · split <;> rfl
            refine ⟨_, w', .value (.slice (some a') (n + news.length) c'), hexec ?_, ⟨_, rfl, ?_⟩, R2.sub (Nat.le_refl _) (fun x y hx => by rw [hget]; exact hx), X1.trans (X2.trans (Ext.sub (Nat.le_refl _) (fun x y hx => by rw [hget]; exact hx)))⟩
            · rw [hAe, hnl]
              refine run_app_fit (base := some a') hu hu' hi (hlenx w) (by omega) hnrun ?_
              simp only
              rw [haddr', Addr.add_lit, Nat.add_assoc]
              exact h7
            · rw [haddr']
              refine .slice s.h.next 0 _ _ _ c' (by simp) (.inr ?_) hfit (fun h => by simp at h) (fun z2 hz2 => ?_)
              · simp [upd_same]
              · simp only [AHeap.next_put, upd_same]
                have : z2 + 1 = i.size := by omega
                rw [this]; omega
          ·
            obtain ⟨R0, X0⟩ := R.kill blk
            have hels : s.h.els i.size ⟨.blk blk ofs, n, code⟩ = some (chunk n i.size (c.drop ofs)) := by
              have hrow : s.h.row blk = some c := by simp [AHeap.row, hg, AObj.row]
              unfold AHeap.els
              simp only [hrow]
              rw [if_pos (by omega)]
            obtain ⟨hol, hoz, base, cap, hA2, _, _, hoc⟩ := els_sim (w := w.drew) R.drew hVa2 (sl := ⟨.blk blk ofs, n, code⟩) rfl hpos hels
            injection hA2 with e1 e2 e3
            subst e1; subst e3
            have hcells := cells_of_els (E := E) (s := s) (ι := ι) (w := w.drew) (base := some a') (cap := c') (m := n) hpos hol (Nat.le_refl _) hoz hoc
            rw [List.take_of_length_le (by rw [hol]; exact Nat.le_refl _)] at hcells
            have hflat : flat (chunk n i.size (c.drop ofs)) = c.drop ofs := by
              have hdl : (c.drop ofs).length = n * i.size := by simp; omega
              apply List.ext_getElem?
              intro k
              rcases Nat.lt_or_ge k (n * i.size) with hk | hk
              · have hx1 : (flat (chunk n i.size (c.drop ofs)))[k]? = some ((flat (chunk n i.size (c.drop ofs)))[k]'(by rw [hcells.1]; exact hk)) := List.getElem?_eq_getElem _
                rw [hx1]
                obtain ⟨el, h3, h4⟩ := flat_get hpos _ k _ hoz hx1
                have h5 := (chunk_get hpos n (c.drop ofs) (by omega) (fun j u _ hu => (hCR (ofs + j) u (by simpa using hu)).1) _ el h3).2.2 _ _ h4
                rw [show k / i.size * i.size + k % i.size = k by have := Nat.div_add_mod k i.size; rw [Nat.mul_comm] at this; exact this] at h5
                exact h5.symm
              · rw [List.getElem?_eq_none (by rw [hcells.1]; exact hk), List.getElem?_eq_none (by omega)]
            obtain ⟨cs, newCap, h7, h8, h9, h10, h11⟩ := grow (chunk n i.size (c.drop ofs)) (some a') n c' hAe hol (by omega) hb1 hb2 hoz hcells
            have hfa : ∀ (l l' : List Value), flat (l ++ l') = flat l ++ flat l' := by
              intro l l'
              induction l with
              | nil => rfl
              | cons x l ih => simp [flat, ih]
            have hfg := flatget _ cs h10 h11
            rw [hfa, hflat] at hfg
            have hll : (chunk n i.size (c.drop ofs) ++ news).length = n + news.length := by simp [hol]
            rw [hll] at h7 h8
            have hmul : (n + news.length) * i.size ≤ newCap * i.size := Nat.mul_le_mul_right _ h8
            rw [Nat.add_mul] at hmul
            refine new_done' (t := e) (cs := cs) R0.drew rfl (X0.drew) ?_ hfg h7 (vr_new (sz := i.size) h8 (fun h => by omega) (.inr (by omega)) (fun _ => h9))
            simp only [List.length_append, List.length_drop, hfl]
            omega
        · split at he
          ·
            rename_i hne
            injection he with he; subst he
            have hne : news = [] := by cases news <;> first | rfl | (simp at hne)
            have hx0 := hlenx w
            rw [← hnl, hne] at hx0
            refine ⟨ι, w, .value (a.eval ys), hexec ?_, ⟨_, rfl, hVa⟩, R, Ext.refl _ _ _⟩
            generalize a.eval ys = A at hVa
            cases hVa with
            | slice _ _ _ _ a' c' hblt haddr hn hc0 hroom =>
              exact run_app_fit (base := some a') hu hu' hi hx0 (by simpa using hn) (noth hne) (by simp [storeCells])
          · split at he
            · rename_i hne hcode
              subst hcode
              obtain ⟨olds, hels, he⟩ := bind_some he
              have hne' : news ≠ [] := fun e => by subst e; simp at hne
              have hpos2 : 0 < news.length := List.length_pos_iff.2 hne'
              generalize hAe : a.eval ys = A at hVa
              have hVa2 := hVa
              cases hVa with
              | slice _ _ _ _ a' c' hblt haddr hn hc0 hroom =>
              obtain ⟨hol, hoz, base, cap, hA2, _, _, hoc⟩ := els_sim (w := w.drew) R.drew hVa2 (sl := ⟨.blk blk ofs, n, 0⟩) rfl hpos hels
              injection hA2 with e1 e2 e3
              subst e1; subst e3
              have hcells := cells_of_els (E := E) (s := s) (ι := ι) (w := w.drew) (base := some a') (cap := c') (m := n) hpos hol (Nat.le_refl _) hoz hoc
              rw [List.take_of_length_le (by rw [hol]; exact Nat.le_refl _)] at hcells
              obtain ⟨cs, newCap, h7, h8, h9, h10, h11⟩ := grow olds (some a') n c' hAe hol (by have := hc0 rfl; omega) hb1 hb2 hoz hcells
              have hlen2 : (olds ++ news).length = n + news.length := by
                have : olds.length = n := hol
                simp [this]
              unfold anew at he
              cases hmode : s.h.m with
              | true =>
                rw [hmode] at he
                simp only at he
                split at he
                · rename_i heq
                  have h12 : (olds ++ news).length = 0 := by rw [heq]; rfl
                  rw [hlen2] at h12; omega
                · injection he with he; subst he
                  have hfl2 := flat_len (olds ++ news) h10
                  have hmul : (olds ++ news).length * i.size ≤ newCap * i.size := Nat.mul_le_mul_right _ h8
                  exact new_done (t := e) (cs := cs) (f := fun b => .slice (some b) (olds ++ news).length newCap) R.drew (Ext.refl _ _ _).drew (by rw [hfl2]; omega) (flatget _ cs h10 h11) h7 (vr_new (sz := i.size) h8 (fun h => by omega) (.inr rfl) (fun _ => h9))
              | false =>
                rw [hmode] at he
                injection he with he; subst he
                exact tail_done R.drew (Ext.refl _ _ _).drew hpos h8 (Nat.le_of_eq h9) h10 h11 h7
            · split at he
              ·
                rename_i hne hcode hcond
                obtain ⟨hcode1, hend⟩ := hcond
                injection he with he; subst he
                have hne' : news ≠ [] := fun e => by subst e; simp at hne
                have hpos2 : 0 < news.length := List.length_pos_iff.2 hne'
                obtain ⟨hlen, htot, hCR⟩ := R.rw blk c hg
                obtain ⟨z', hz'⟩ : ∃ z', i.size = z' + 1 := ⟨i.size - 1, by omega⟩
                generalize hAe : a.eval ys = A at hVa
                cases hVa with
                | slice _ _ _ _ a' c' hblt haddr hn hc0 hroom =>
                have hroom' := hroom z' (by omega)
                rw [← hz'] at hroom'
                have hfit : n + news.length ≤ c' := by
                  have h1 : (n + news.length) * i.size ≤ c' * i.size := by omega
                  exact Nat.le_of_mul_le_mul_right h1 hpos
                have haddr' := haddr.resolve_left (by omega)
                have hmul : (n + news.length) * i.size = n * i.size + news.length * i.size := Nat.add_mul _ _ _
                obtain ⟨w', h7, R1, X1⟩ := store_sim (P := E.P) (b := blk) (o := ofs + n * i.size) (flat news) rnews 0 s.h w c R hg hnv hn1 (by omega) (by omega)
                rw [Nat.add_zero, gsets_set _ _ _ (by omega)] at R1 X1
                refine ⟨_, w', .value (.slice (some a') (n + news.length) c'), hexec ?_, ⟨_, rfl, ?_⟩, R1, X1⟩
                · rw [hAe, hnl]
                  refine run_app_fit (base := some a') hu hu' hi (hlenx w) (by omega) hnrun ?_
                  simp only
                  rw [haddr', Addr.add_lit, Nat.add_assoc]
                  exact h7
                · exact .slice blk ofs _ _ a' c' hblt haddr hfit (fun h => absurd h (by omega)) hroom
              · simp at he
      · simp at he
    · simp at he
  · obtain ⟨q, hq, he⟩ := bind_some he
    obtain ⟨z', es, b⟩ := q
    split at he
    · rename_i n z2 hg
      split at he
      · rename_i hcond
        obtain ⟨hzz, hz', hn, hb1, hb2⟩ := hcond
        simp only at hz' hn hb1 hb2 hg
        subst hz'
        injection he with he; subst he
        simp only
        obtain ⟨hbN, hVS, hle, hcur⟩ := hVa.vt_of hq
        have hT := R.tail b n z2 hg
        have hcur' := hcur (by rw [hT.hn, hn])
        have hzf : (ι.tk b).none = false → z2 = i.size := fun hf => by
          rcases hzz with e | ⟨e, _⟩
          · exact e
          · have := hT.z0 e; simp [hf] at this
        by_cases h0 : news = []
        · have hx0 := hlenx w
          rw [← hnl, h0] at hx0
          subst h0
          obtain rfl : z2 = i.size := by
            rcases hzz with e | ⟨_, e⟩
            · exact e
            · simp at e
          have hput : ∀ x o', (s.h.put b (.tail (es ++ []).length i.size)).get x = some o' → s.h.get x = some o' := fun x o' hx => by
            rw [AHeap.get_put] at hx
            split at hx
            · rename_i e; subst e; simp [AObj.live] at hx; rw [hg, hn, ← hx]
            · exact hx
          have hput2 : ∀ x o', s.h.get x = some o' → (s.h.put b (.tail (es ++ []).length i.size)).get x = some o' := fun x o' hx => by
            rw [AHeap.get_put]
            split
            · rename_i e; subst e; rw [hg] at hx; rw [← hx, hn]; simp [AObj.live]
            · exact hx
          refine ⟨ι, w, .value (a.eval ys), hexec ?_, ⟨_, rfl, by rw [List.append_nil]; exact .vt _ es b _ hbN hVS hle hcur⟩, R.sub (Nat.le_refl _) hput, Ext.sub (Nat.le_refl _) hput⟩
          rcases hcur' with ⟨_, aa, hA⟩ | ⟨_, c, hA, hcl, _⟩
          · rw [hA]
            cases aa with
            | none => exact run_app_fit (base := none) hu hu' hi hx0 (by simp) (noth rfl) rfl
            | some aa => exact run_app_fit (base := some aa) hu hu' hi hx0 (by simp) (noth rfl) (by simp [storeCells])
          · rw [hA]; exact run_app_fit (base := some _) hu hu' hi hx0 (by simp; omega) (noth rfl) rfl
        · have hpos2 : 0 < news.length := List.length_pos_iff.2 h0
          have hless : n < (es ++ news).length := by rw [hn]; simp; omega
          have anew : ∀ cs newCap, (execOp a.eval o).run E.P w = .ok (.value (.slice (some ⟨w.drew.heap.size, 0, none⟩) (es ++ news).length newCap)) (w.drew.alloc (.cells cs e)) → (es ++ news).length ≤ newCap → newCap * i.size ≤ cs.size →
              (∀ (k : Nat) (e : Value), (es ++ news)[k]? = some e → e.cells.size = i.size) →
              (∀ (k j : Nat) (e u : Value), (es ++ news)[k]? = some e → e.cells[j]? = some u → u.oneCell' = true ∧ ∃ v, cs[k * i.size + j]? = some v ∧ VR ι s.h.next u v) →
              Done E ι s a w o (some (VT i.size (es ++ news) b), s.h.put b (.tail (es ++ news).length i.size)) := by
            intro cs newCap hrun h8 h9 h10 h11
            obtain ⟨ι', h12, h13, h14⟩ := Rel.regrow (t := e) R.drew ((Ext.refl ι s.h w).drew) hg hless hpos h8 h9 h10 h11
            exact ⟨ι', _, _, hrun, ⟨_, rfl, h12⟩, h13, h14⟩
          have fit : ∀ c, (ι.tk b).none = false → a.eval ys = .slice (some ⟨(ι.tk b).r, 0, none⟩) es.length c → c * (ι.tk b).z ≤ (ι.tk b).tot → es.length + news.length ≤ c → (∀ (k : Nat) (e : Value), es[k]? = some e → e.cells.size = i.size) →
              (∀ (k j : Nat) (e u : Value), es[k]? = some e → e.cells[j]? = some u → u.oneCell' = true ∧ ∃ v, ι.im (ι.tk b).r (0 + k * i.size + j) = some v ∧ VR ι s.h.next u v) →
              Done E ι s a w o (some (VT i.size (es ++ news) b), s.h.put b (.tail (es ++ news).length i.size)) := by
            intro c hf hA hctot hfit hez hec
            obtain rfl := hzf hf
            rw [hT.hz] at hctot
            have hrl : rnews.length = news.length * i.size := by rw [← hnv.1]; exact hfl
            have hmul : (es.length + news.length) * i.size ≤ c * i.size := Nat.mul_le_mul_right _ hfit
            have hmul2 : (es.length + news.length) * i.size = es.length * i.size + news.length * i.size := Nat.add_mul _ _ _
            have hel : (es ++ news).length = es.length + news.length := by simp
            have hmul3 : (es ++ news).length * i.size = es.length * i.size + news.length * i.size := by rw [hel, hmul2]
            have hsub : ∀ k, k < es.length → k * i.size + i.size ≤ es.length * i.size := fun k hk => by rw [← Nat.succ_mul]; exact Nat.mul_le_mul_right _ hk
            obtain ⟨w', h7, R1, X1, hpres, hnew⟩ := storeT_sim (P := E.P) (b := b) rnews (0 + es.length * i.size) 0 w R hg hf (fun k u hu => by
              have hk : k < (flat news).length := by rw [hnv.1]; exact (List.getElem?_eq_some_iff.1 hu).1
              exact (hnv.2 k _ u (List.getElem?_eq_getElem hk) hu).oneCell (hn1 k _ (List.getElem?_eq_getElem hk))) (by rw [hn]; omega) (by omega)
            obtain ⟨R2, X2⟩ := R1.growTail (n' := (es ++ news).length) hg hf hless (by omega) (g := fun k => if n * i.size ≤ k then rnews[k - n * i.size]? else none) (fun k v hv => by
                split at hv
                · rename_i hk
                  have := hnew _ _ hv
                  rw [← this]; congr 2; rw [hn] at hk ⊢; omega
                · cases hv) (fun k hk => by
                split
                · rw [List.getElem?_eq_none (by rw [hn]; omega)]
                · rfl)
            refine ⟨_, w', .value (.slice (some ⟨(ι.tk b).r, 0, none⟩) (es ++ news).length c), hexec ?_, ⟨_, rfl, ?_⟩, R2, X1.trans X2⟩
            · rw [hA, hel, hnl]
              refine run_app_fit (base := some _) hu hu' hi (hlenx w) (by omega) hnrun ?_
              simp only [Addr.add_lit]
              exact h7
            · generalize hι : addIm (updT ι b { ι.tk b with n := (es ++ news).length }) (ι.tk b).r (fun k => if n * i.size ≤ k then rnews[k - n * i.size]? else none) = ι2 at R2 X2
              have hup : Up s.h.next ι ι2 := X2.up
              have htk : ι2.tk b = { ι.tk b with n := (es ++ news).length } := by rw [← hι]; simp [addIm, updT]
              have hall : ∀ (k : Nat) (e : Value), (es ++ news)[k]? = some e → e.cells.size = i.size := fun k e he => by
                rcases Nat.lt_or_ge k es.length with hk | hk
                · rw [List.getElem?_append_left hk] at he; exact hez k e he
                · rw [List.getElem?_append_right hk] at he; exact hnz _ e he
              refine .vt _ (es ++ news) b _ hbN (.vs_mk (r := (ι.tk b).r) (f := 0) hpos (by omega) hall fun k j e u he hu => ?_) (by rw [htk]; exact Nat.le_refl _) (fun _ => .inr ⟨by rw [htk]; exact hf, c, by rw [htk], by omega, by rw [htk]; simp only [hT.hz]; exact hctot⟩)
              have hj : j < i.size := by rw [← hall k e he]; exact (Array.getElem?_eq_some_iff.1 hu).1
              rcases Nat.lt_or_ge k es.length with hk | hk
              · rw [List.getElem?_append_left hk] at he
                obtain ⟨h8, v, h9, h10⟩ := hec k j e u he hu
                exact ⟨h8, v, hup.im _ _ _ h9, h10.more (Nat.le_refl _) hup⟩
              · rw [List.getElem?_append_right hk] at he
                have h8 := flat_mk hpos news (k - es.length) j e u hnz he hu
                obtain ⟨v, h9, h10⟩ := hnv.get h8
                refine ⟨hn1 _ u h8, v, ?_, h10.more (Nat.le_refl _) hup⟩
                have hkn : k - es.length < news.length := (List.getElem?_eq_some_iff.1 he).1
                have e1 : (k - es.length) * i.size = k * i.size - es.length * i.size := Nat.sub_mul _ _ _
                have e2 : es.length * i.size ≤ k * i.size := Nat.mul_le_mul_right _ hk
                have e3 : (k - es.length) * i.size + i.size ≤ news.length * i.size := by rw [← Nat.succ_mul]; exact Nat.mul_le_mul_right _ hkn
                have hnone : ι.im (ι.tk b).r (0 + k * i.size + j) = none := ((hT.room hf).2 _ (by omega)).2.2 (by rw [hn]; omega)
                rw [← hι, imx_new (ι := updT ι b { ι.tk b with n := (es ++ news).length }) hnone]
                rw [if_pos (by rw [hn]; omega), ← h9]
                congr 1; rw [hn]; omega
          rcases hcur' with ⟨_, aa, hA⟩ | ⟨hf, c, hA, hcl, hctot⟩
          · rw [hA] at hVS
            rcases hVS.vs_of with ⟨h7, _⟩ | ⟨r, f, c2, _, _, hx2, hez, hec⟩
            · subst h7
              obtain ⟨cs, newCap, h7, h8, h9, h10, h11⟩ := grow [] aa 0 0 hA rfl (by omega) (by simpa using hb1) (by simpa using hb2) (by simp) ⟨by simp [flat], by simp [flat], [], .nil, by cases aa <;> simp [Builtin.firstCells, loadCells, loadCellsFrom]⟩
              exact anew cs newCap h7 h8 (Nat.le_of_eq h9) h10 h11
            · injection hx2 with e1 e2 e3
              subst e1
              have := cells_of_els (E := E) (s := s) (ι := ι) (w := w.drew) (base := some ⟨r, f, none⟩) (cap := es.length) (m := es.length) hpos rfl (Nat.le_refl _) hez (fun k j e u he hu => by
                obtain ⟨h7, v, h8, h9⟩ := hec k j e u he hu
                exact ⟨h7, _, _, v, rfl, R.im _ _ _ h8, h9⟩)
              rw [List.take_of_length_le (by omega)] at this
              obtain ⟨cs, newCap, h7, h8, h9, h10, h11⟩ := grow es (some ⟨r, f, none⟩) es.length es.length hA rfl (by omega) hb1 hb2 hez this
              exact anew cs newCap h7 h8 (Nat.le_of_eq h9) h10 h11
          · rw [hA] at hVS
            rcases hVS.vs_of with ⟨h7, _⟩ | ⟨r, f, c2, _, _, hx2, hez, hec⟩
            ·
              subst h7
              by_cases hfit : news.length ≤ c
              · exact fit c hf hA hctot (by simpa using hfit) (by simp) (by simp)
              · obtain ⟨cs, newCap, h7, h8, h9, h10, h11⟩ := grow [] (some ⟨(ι.tk b).r, 0, none⟩) 0 c hA rfl (by omega) (by simpa using hb1) (by simpa using hb2) (by simp) ⟨by simp [flat], by simp [flat], [], .nil, by simp [Builtin.firstCells, loadCells, loadCellsFrom]⟩
                exact anew cs newCap h7 h8 (Nat.le_of_eq h9) h10 h11
            · injection hx2 with e1 e2 e3
              injection e1 with e1
              injection e1 with e1 e4
              subst e1; subst e3; subst e4
              by_cases hfit : es.length + news.length ≤ c
              · exact fit c hf hA hctot hfit hez hec
              · have := cells_of_els (E := E) (s := s) (ι := ι) (w := w.drew) (base := some ⟨(ι.tk b).r, 0, none⟩) (cap := c) (m := es.length) hpos rfl (Nat.le_refl _) hez (fun k j e u he hu => by
                  obtain ⟨h7, v, h8, h9⟩ := hec k j e u he hu
                  exact ⟨h7, _, _, v, rfl, R.im _ _ _ h8, h9⟩)
                rw [List.take_of_length_le (by omega)] at this
                obtain ⟨cs, newCap, h7, h8, h9, h10, h11⟩ := grow es (some ⟨(ι.tk b).r, 0, none⟩) es.length c hA rfl (by omega) hb1 hb2 hez this
                exact anew cs newCap h7 h8 (Nat.le_of_eq h9) h10 h11
      · simp at he
    · simp at he
theorem run_appz {P : Program} {w : World} {t t' ty e : TypeId} {i : TypeInfo} {z : Value} {n : Nat}
   (ht : P.underlying t = some (.slice e)) (ht' : P.underlying t' = some (.int .i64)) (hi : P.info? e = some i) (hz : i.zero = some z) (h0 : 0 < n) (hs : 0 < i.size)
   (h63 : n ≤ 1099511627776) (hb : n * i.bytes ≤ 1099511627776) :
   ∃ newCap, n ≤ newCap ∧ (Builtin.append_ #[t, t'] ty #[.slice none 0 0, .int .i64 (n : Int)]).run P w =
    .ok (.slice (some ⟨w.heap.size, 0, none⟩) n newCap) (w.drew.alloc (.cells (Builtin.zeroCells z.cells n ++ Builtin.zeroCells z.cells (newCap - n)) e)) := by
 have hw : IntKind.i64.wrap (n : Int) = n := IntWalk.i64_in _ (by omega)
 have h1 : ¬ (n ≤ 0) := by omega
 have h2 : ¬ (9223372036854775807 < (n : Int)) := by omega
 have hfit := growslice_fits (need := n) (old := 0) (bytes := i.bytes) (by omega) (by omega)
 have h3 : ¬ (281474976710656 < Builtin.nextslicecap n 0 * i.bytes) := by omega
 have h4 : ¬ (281474976710656 < (n : Int) * (i.bytes : Int)) := by
   have : (n : Int) * (i.bytes : Int) = ((n * i.bytes : Nat) : Int) := by rw [Int.natCast_mul]
   omega
 have h5 : ¬ ((n : Int) < 0) := by omega
 have h6 : n * i.size ≠ 0 := Nat.mul_ne_zero (by omega) (by omega)
 have h7 : ¬ (n = 0 ∨ i.size = 0) := by omega
 have h8 : n ≠ 0 := by omega
 have h9 : i.size ≠ 0 := by omega
 refine ⟨grownCap w n 0 e, ?_, ?_⟩
 · simp only [grownCap, Question.cut]; exact Nat.le_add_right _ _
 · simp [Builtin.append_, run_underlying ht, run_underlying ht', sizeOf, typeInfo, zeroValue, asInt, asIntOf, hw, hi, hz, h1, h2, h3, h4, h5, h6, h7, h8, h9, Question.forced, Builtin.firstCells, newRow, grownCap]
theorem appz_sim {o : Oper} {sz by_ : Nat} {z : List Value} {so x : Opd} {r : Option Value × AHeap}
    (hc : ∃ ys yx t t' e, o.op = .call { callee := .builtin .append, args := #[ys, yx], argTypes := #[t, t'] } ∧ E.P.underlying t = some (.slice e) ∧ E.P.underlying t' = some (.int .i64) ∧ tsz E e = some sz ∧ tby E e = some by_ ∧ tzero E e = some z ∧
      copd E ys = some so ∧ copd E yx = some x ∧ z.length = sz ∧ 0 < sz)
    (R : Rel ι s.h w) (T : TR ι s.h.next s.t a.tmps) (he : wev E s (.appz sz by_ z so x) = some r) : Done E ι s a w o r := by
  obtain ⟨ys, yx, t, t', e, hop, hu, hu', hsz, hby, hz, hys, hyx, hzl, hpos⟩ := hc
  simp only [wev] at he
  obtain ⟨n, h1, he⟩ := bind_some he
  obtain ⟨v1, h2, h3⟩ := bind_some h1
  obtain ⟨v0, h4, he⟩ := bind_some he
  have hvn := ((ev_sim hyx T h2).int_of h3).2
  have hV0 := ev_sim hys T h4
  have hz3 : z.all vrc1 = true := by
    obtain ⟨_, _, _, h⟩ := run_zero (w := w) hz; exact h
  split at he
  · split at he
    · rename_i hb
      obtain ⟨hb0, hb1, hb2⟩ := hb
      injection he with he; subst he
      have hA : a.eval ys = .slice none 0 0 := by
        generalize a.eval ys = q at hV0
        cases hV0; rfl
      obtain ⟨nN, rfl⟩ : ∃ m : Nat, n = (m : Int) := ⟨n.toNat, by omega⟩
      have hinfo : ∃ i zv, E.P.info? e = some i ∧ i.size = sz ∧ i.bytes = by_ ∧ i.zero = some zv ∧ zv.cells = z.toArray := by
        unfold tsz at hsz; unfold tby at hby; unfold tzero at hz
        cases hi : E.P.info? e with
        | none => simp [hi] at hsz
        | some i =>
          simp [hi] at hsz hby
          cases hzz : i.zero with
          | none => simp [hi, hzz] at hz
          | some zv =>
            simp [hi, hzz] at hz
            exact ⟨i, zv, rfl, hsz, hby, hzz, by rw [← hz.2]⟩
      obtain ⟨i, zv, hi, hi1, hi2, hi3, hi4⟩ := hinfo
      subst hi1; subst hi2
      have hbN : nN * i.bytes ≤ 1099511627776 := by
        have : (nN : Int) * (i.bytes : Int) = ((nN * i.bytes : Nat) : Int) := by rw [Int.natCast_mul]
        omega
      obtain ⟨newCap, h5, h6⟩ := run_appz (w := w) (ty := o.type) hu hu' hi hi3 (n := nN) (by omega) hpos (by omega) hbN
      have hexec : (execOp a.eval o).run E.P w = .ok (.value (.slice (some ⟨w.drew.heap.size, 0, none⟩) nN newCap)) (w.drew.alloc (.cells (Builtin.zeroCells zv.cells nN ++ Builtin.zeroCells zv.cells (newCap - nN)) e)) := by
        simp [execOp, hop, resolve, invoke, builtin, hA, hvn, h6]
      have hrep : (Builtin.zeroCells zv.cells nN).toList = replL nN z := by
        have := range_cells (zero := z.toArray) (n := nN) (by simp; omega)
        rw [hi4]; exact this
      have hsize : (Builtin.zeroCells zv.cells nN).size = nN * i.size := by rw [zeroCells_size, hi4, List.size_toArray, hzl]
      refine new_done (t := e) (f := fun b => .slice (some b) nN newCap) R.drew (Ext.refl _ _ _).drew ?_ (fun k u hu => ?_) hexec (vr_new (sz := i.size) h5 (fun h => by omega) (.inr rfl) (fun _ => ?_))
      · simp only [Int.toNat_natCast, replL_len, hzl, Array.size_append, hsize]; omega
      · simp only [Int.toNat_natCast] at hu
        have hk : k < nN * z.length := by
          have := (List.getElem?_eq_some_iff.1 hu).1; rwa [replL_len] at this
        have hu3 : (Builtin.zeroCells zv.cells nN ++ Builtin.zeroCells zv.cells (newCap - nN))[k]? = some u := by
          rw [Array.getElem?_append_left (by rw [hsize, ← hzl]; exact hk), ← Array.getElem?_toList, hrep]; exact hu
        rw [replL_get (by omega) _ _ hk] at hu
        exact ⟨vrc1_one hz3 hu, u, hu3, (vrc_list hz3).2 _ u u hu hu⟩
      · rw [Array.size_append, hsize, zeroCells_size, hi4, List.size_toArray, hzl, ← Nat.add_mul]; congr 1; omega
    · simp at he
  · simp at he
theorem copy_sim {o : Oper} {sz : Nat} {d x : Opd} {r : Option Value × AHeap}
   (hc : ∃ yd yx t t' e e', o.op = .call { callee := .builtin .copy, args := #[yd, yx], argTypes := #[t, t'] } ∧ E.P.underlying t = some (.slice e) ∧ E.P.underlying t' = some (.slice e') ∧ tsz E e = some sz ∧
     copd E yd = some d ∧ copd E yx = some x ∧ 0 < sz)
   (R : Rel ι s.h w) (T : TR ι s.h.next s.t a.tmps) (he : wev E s (.copy sz d x) = some r) : Done E ι s a w o r := by
 obtain ⟨yd, yx, t, t', e, e', hop, hu, hu', hsz, hyd, hyx, hpos⟩ := hc
 simp only [wev] at he
 obtain ⟨sa, h1, he⟩ := bind_some he
 obtain ⟨va, h2, h3⟩ := bind_some h1
 obtain ⟨sb, h4, he⟩ := bind_some he
 obtain ⟨vx, h5, h6⟩ := bind_some h4
 obtain ⟨els, h7, he⟩ := bind_some he
 have hVa := ev_sim hyd T h2
 have hVx := ev_sim hyx T h5
 obtain ⟨hel, hez, bx, cx, hx, hlx, _, hec⟩ := els_sim (w := w) R hVx h6 hpos h7
 have hlenx : (Builtin.lenOf (a.eval yx)).run E.P w = .ok sb.len w := by rw [hx]; simp [Builtin.lenOf]
 obtain ⟨hnl, hn1, rnews, hnv, hnrun⟩ := cells_of_els (E := E) (s := s) (ι := ι) (w := w) (cap := cx) (m := min sa.len sb.len) hpos hel (Nat.min_le_right _ _) hez hec
 rw [← hx] at hnrun
 have hexec : ∀ {v : Value} {w' : World}, (Builtin.copy_ #[t, t'] o.type #[a.eval yd, a.eval yx]).run E.P w = .ok v w' → (execOp a.eval o).run E.P w = .ok (.value v) w' := by
   intro v w' h
   simp [execOp, hop, resolve, invoke, builtin, h]
 have hmin : Nat.min sb.len sa.len = min sa.len sb.len := Nat.min_comm _ _
 split at he
 · rename_i hb
   injection he with he; subst he
   rcases hVa.sl_of h3 with ⟨_, hl, _, _, hA⟩ | ⟨_, _, _, _, hb', _⟩ | ⟨_, _, hb', _⟩
   · refine ⟨ι, w, .value (.int .i64 0), hexec ?_, ⟨_, rfl, .int _ _⟩, R, Ext.refl _ _ _⟩
     rw [hl] at hmin hnrun
     have h0 : min 0 sb.len = 0 := by simp
     rw [h0] at hmin hnrun
     simp [Builtin.copy_, hA, run_underlying hu, hlenx, hmin, run_sizeOf hsz, hnrun, goInt]
   · rw [hb] at hb'; cases hb'
   · rw [hb] at hb'; cases hb'
 · rename_i blk ofs hb
   rcases hVa.sl_of h3 with ⟨hb', _⟩ | ⟨blk', ofs', a', c', hb', hlt, hva, hA, hn, hc0, haddr, _⟩ | ⟨_, _, hb', _⟩
   · rw [hb] at hb'; cases hb'
   · rw [hb] at hb'
     injection hb' with e1 e2; subst e1; subst e2
     split at he
     · rename_i c hg
       split at he
       · rename_i hle
         injection he with he; subst he
         obtain ⟨hlen, htot, hCR⟩ := R.rw blk c hg
         obtain ⟨w', h8, R1, X1⟩ := store_sim (P := E.P) (b := blk) (o := ofs) (flat (els.take (min sa.len sb.len))) rnews 0 s.h w c R hg hnv hn1 (by omega) (by omega)
         rw [Nat.add_zero, gsets_set _ _ _ (by omega)] at R1 X1
         refine ⟨ι, w', .value (.int .i64 (min sa.len sb.len : Nat)), hexec ?_, ⟨_, rfl, .int _ _⟩, R1, X1⟩
         have haddr' := haddr.resolve_left (by omega)
         rw [haddr'] at hA
         simp only [Builtin.copy_, hA, Sem.run_bind, run_underlying hu, Result.andThen, hlenx, hmin, run_sizeOf hsz, hnrun, goInt, h8, Sem.run_pure, List.getElem?_toArray, List.getElem?_cons_zero, List.getElem?_cons_succ]
       · simp at he
     · simp at he
   · rw [hb] at hb'; cases hb'
 · simp at he
theorem clr_sim {o : Oper} {sz : Nat} {z : List Value} {x : Opd} {r : Option Value × AHeap}
   (hc : ∃ yx t e, o.op = .call { callee := .builtin .clear, args := #[yx], argTypes := #[t] } ∧ E.P.underlying t = some (.slice e) ∧ tsz E e = some sz ∧ tzero E e = some z ∧ copd E yx = some x ∧ z.length = sz ∧ 0 < sz)
   (R : Rel ι s.h w) (T : TR ι s.h.next s.t a.tmps) (he : wev E s (.clr sz z x) = some r) : Done E ι s a w o r := by
 obtain ⟨yx, t, e, hop, hu, hsz, hz, hyx, hzl, hpos⟩ := hc
 simp only [wev] at he
 obtain ⟨sa, h1, he⟩ := bind_some he
 obtain ⟨va, h2, h3⟩ := bind_some h1
 have hVa := ev_sim hyx T h2
 have hexec : ∀ {v : Value} {w' : World}, (Builtin.clear_ #[t] o.type #[a.eval yx]).run E.P w = .ok v w' → (execOp a.eval o).run E.P w = .ok (.value v) w' := by
   intro v w' h
   simp [execOp, hop, resolve, invoke, builtin, h]
 have hvt : VR ι s.h.next (.tuple #[]) (.tuple #[]) := .tuple _ _ rfl (fun i u v h => by simp at h)
 split at he
 · rename_i hb
   injection he with he; subst he
   rcases hVa.sl_of h3 with ⟨_, hl, _, _, hA⟩ | ⟨_, _, _, _, hb', _⟩ | ⟨_, _, hb', _⟩
   · refine ⟨ι, w, .value (.tuple #[]), hexec ?_, ⟨_, rfl, hvt⟩, R, Ext.refl _ _ _⟩
     simp [Builtin.clear_, hA, run_underlying hu]
   · rw [hb] at hb'; cases hb'
   · rw [hb] at hb'; cases hb'
 · rename_i blk ofs hb
   rcases hVa.sl_of h3 with ⟨hb', _⟩ | ⟨blk', ofs', a', c', hb', hlt, hva, hA, hn, hc0, haddr, _⟩ | ⟨_, _, hb', _⟩
   · rw [hb] at hb'; cases hb'
   · rw [hb] at hb'
     injection hb' with e1 e2; subst e1; subst e2
     split at he
     · rename_i c hg
       split at he
       · rename_i hle
         injection he with he; subst he
         obtain ⟨zv, hz1, hz2, hz3⟩ := run_zero (w := w) hz
         have hcells : (Builtin.zeroCells zv.cells sa.len).toList = replL sa.len z := by
          unfold Builtin.zeroCells
          rw [range_cells (by rw [← Array.length_toList, hz2]; omega), hz2]
         have hall := replL_all hz3 sa.len
         have hlen : (replL sa.len z).length = sa.len * sz := by rw [replL_len, hzl]
         obtain ⟨hlen0, htot, hCR⟩ := R.rw blk c hg
         obtain ⟨w', h8, R1, X1⟩ := store_sim (P := E.P) (b := blk) (o := ofs) (replL sa.len z) (replL sa.len z) 0 s.h w c R hg (vrc_list hall) (fun i u hu => vrc1_one hall hu) (by omega) (by omega)
         rw [Nat.add_zero, gsets_set _ _ _ (by omega)] at R1 X1
         refine ⟨ι, w', .value (.tuple #[]), hexec ?_, ⟨_, rfl, .tuple _ _ rfl (fun i u v h => by simp at h)⟩, R1, X1⟩
         have haddr' := haddr.resolve_left (by omega)
         rw [haddr'] at hA
         obtain ⟨n1, hn1⟩ : ∃ n1, sa.len = n1 + 1 := ⟨sa.len - 1, by omega⟩
         simp only [Builtin.clear_, hA, Sem.run_bind, run_underlying hu, Result.andThen, hz1, Sem.run_pure, List.getElem?_toArray, List.getElem?_cons_zero]
         rw [hn1] at hcells h8 ⊢
         simp only [Sem.run_bind, hz1, Result.andThen, hcells, h8, Sem.run_pure]
       · simp at he
     · simp at he
   · rw [hb] at hb'; cases hb'
 · simp at he
end
end Go.Proofs.Ytjnpdnlgkepmcaa.AM
