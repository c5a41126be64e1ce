/- Memory seen otherwise: blocks become known for good, are left out; a nil slice gets a mark. Conditions: none. -/
import Derived.Test.YtjnpdnlgkepmcaaAmLink
namespace Go.Proofs.Ytjnpdnlgkepmcaa.AM
set_option linter.unusedSimpArgs false
set_option linter.unusedVariables false
open Go Go.RowKit
def Bnd (n : Nat) (u : Value) : Prop := ∀ (ι : Iota) (N : Nat) (v : Value), VR ι N u v → VR ι n u v
theorem Clo.bnd {n : Nat} {u : Value} (h : Clo u) : Bnd n u := fun _ _ _ hv => h.vr (fun _ _ _ h => h) hv
inductive Fz (h : AHeap) (D : Nat → Bool) (n : Nat) : Value → Value → Prop
 | same (u : Value) (hb : Bnd n u) : Fz h D n u u
 | sl (b o m k z : Nat) (c : List Value) (es : List Value) (hD : D b = true) (hg : h.get b = some (.rw c)) (hz : 0 < z) (hm : es.length = m) (hle : o + m * z ≤ c.length) (hes : ∀ (i : Nat) (e : Value), es[i]? = some e → e.cells.size = z)
  (hc1 : ∀ (i j : Nat) (e u' : Value), es[i]? = some e → e.cells[j]? = some u' → u'.oneCell' = true ∧ ∃ u, c[o + (i * z + j)]? = some u)
  (hc : ∀ (i j : Nat) (e u u' : Value), es[i]? = some e → e.cells[j]? = some u' → c[o + (i * z + j)]? = some u → Fz h D n u u') : Fz h D n (mkSl b o m k) (VS z es)
 | ptr (b o : Nat) (c : List Value) (e : Value) (hD : D b = true) (hg : h.get b = some (.rw c))
  (hc1 : ∀ (j : Nat) (u' : Value), e.cells[j]? = some u' → u'.oneCell' = true ∧ ∃ u, c[j]? = some u)
  (hc : ∀ (j : Nat) (u u' : Value), e.cells[j]? = some u' → c[j]? = some u → Fz h D n u u') : Fz h D n (.pointer (some ⟨b, o, none⟩)) (VP e o)
 | vt (z : Nat) (es : List Value) (b : Nat) (hes : ∀ e, e ∈ es → ∀ u, u ∈ e.cells.toList → Bnd n u) : Fz h D n (VT z es b) (VS z es)
 | nil (z : Nat) : Fz h D n (.slice none 0 0) (VS z [])
 | agg (xs ys : List Value) (hs : xs.length = ys.length) (hc : ∀ (i : Nat) (u u' : Value), xs[i]? = some u → ys[i]? = some u' → Fz h D n u u') : Fz h D n (.agg ⟨xs⟩) (.agg ⟨ys⟩)
 | tuple (xs ys : List Value) (hs : xs.length = ys.length) (hc : ∀ (i : Nat) (u u' : Value), xs[i]? = some u → ys[i]? = some u' → Fz h D n u u') : Fz h D n (.tuple ⟨xs⟩) (.tuple ⟨ys⟩)
 | func (g : FuncId) (xs ys us vs : List Value) (hs : xs.length = ys.length) (hc : ∀ (i : Nat) (u u' : Value), xs[i]? = some u → ys[i]? = some u' → Fz h D n u u') (hs' : us.length = vs.length)
  (hc' : ∀ (i : Nat) (u u' : Value), us[i]? = some u → vs[i]? = some u' → Fz h D n u u') : Fz h D n (.func (.func g) ⟨xs⟩ ⟨us⟩) (.func (.func g) ⟨ys⟩ ⟨vs⟩)
section
open Classical
noncomputable def frz (ι : Iota) (h : AHeap) (D : Nat → Bool) (w : World) : Iota := { ι with im := fun r i => (match ι.im r i with | some v => some v | none => if (∃ b c, D b = true ∧ h.get b = some (.rw c) ∧ (ι b).r = r) then w.cell? ⟨r, i, none⟩ else none), gi := ι.gi.mono fun x i v h => by simp [h] }
variable {ι : Iota} {h h2 : AHeap} {D : Nat → Bool} {w : World}
theorem frz_in (R : Rel ι h w) {b : Nat} {c : List Value} {i : Nat} (hD : D b = true) (hg : h.get b = some (.rw c)) : (frz ι h D w).im (ι b).r i = w.cell? ⟨(ι b).r, i, none⟩ := by
 unfold frz; simp only; split
 · rename_i v hv; exact (R.im _ _ _ hv).symm
 · rw [if_pos ⟨b, c, hD, hg, rfl⟩]
theorem frz_out {r i : Nat} (hn : ¬ ∃ b c, D b = true ∧ h.get b = some (.rw c) ∧ (ι b).r = r) : (frz ι h D w).im r i = ι.im r i := by
 unfold frz; simp only; split
 · rename_i v hv; exact hv.symm
 · rename_i hv; rw [if_neg hn, hv]
theorem frz_mono (_R : Rel ι h w) {r i : Nat} {v : Value} (hv : ι.im r i = some v) : (frz ι h D w).im r i = some v := by
 unfold frz; simp only [hv]
theorem frz_cell (R : Rel ι h w) {r i : Nat} {v : Value} (hv : (frz ι h D w).im r i = some v) : w.cell? ⟨r, i, none⟩ = some v := by
 unfold frz at hv; simp only at hv; split at hv
 · rename_i u hu; injection hv with hv; subst hv; exact R.im _ _ _ hu
 · split at hv
   · exact hv
   · cases hv
theorem frz_at (b : Nat) (o : AObj) : (frz ι h D w).at b o = ι.at b o := by cases o <;> rfl
theorem frz_up {N : Nat} (R : Rel ι h w) : Up N ι (frz ι h D w) := ⟨fun _ _ => rfl, fun _ _ => .inl rfl, fun _ _ _ hv => frz_mono R hv⟩
theorem Fz.vr {n : Nat} {u u' : Value} (hf : Fz h D n u u') (R : Rel ι h w) : ∀ {v : Value}, VR ι h.next u v → VR (frz ι h D w) n u' v := by
  induction hf with
  | same u hb => intro v hv; exact hb _ _ v (hv.more (Nat.le_refl _) (frz_up R))
  | sl b o m k z c es hD hg hz hm hle hes hc1 hc ih =>
    intro v hv
    unfold mkSl at hv
    cases hv with
    | slice _ _ _ _ a' c' hb ha hn hc0 =>
      subst hm
      by_cases h0 : es = []
      · subst h0; exact .vs0 z _ _
      · have hpos : 0 < es.length := List.length_pos_iff.2 h0
        rw [ha.resolve_left (by omega)]
        refine .vs_mk hz hn hes fun i j e u' he hu => ?_
        obtain ⟨h2, u, h1⟩ := hc1 i j e u' he hu
        obtain ⟨_, htot, hCR⟩ := R.rw b c hg
        obtain ⟨h4, v, h5, h6⟩ := hCR _ u h1
        refine ⟨h2, v, ?_, ih i j e u u' he hu h1 h6⟩
        rw [frz_in R hD hg, ← h5]; congr 2; omega
  | ptr b o c e hD hg hc1 hc ih =>
    intro v hv
    cases hv with
    | ptr _ _ hb =>
      refine .vp_mk fun j u' hu => ?_
      obtain ⟨h2, u, h1⟩ := hc1 j u' hu
      obtain ⟨_, htot, hCR⟩ := R.rw b c hg
      obtain ⟨h4, v, h5, h6⟩ := hCR _ u h1
      exact ⟨h2, v, by rw [frz_in R hD hg]; exact h5, ih j u u' hu h1 h6⟩
  | vt z es b hes =>
    intro v hv
    obtain ⟨_, hV, _, _⟩ := hv.vt_of rfl
    rcases hV.vs_of with ⟨rfl, rfl | ⟨a', c', rfl⟩⟩ | ⟨r, f, c', hz, hn, rfl, h0, h1⟩
    · exact .vsn z
    · exact .vs0 z _ _
    · refine .vs_mk hz hn h0 fun i j e u he hu => ?_
      obtain ⟨h2, v, h3, h4⟩ := h1 i j e u he hu
      exact ⟨h2, v, frz_mono R h3, hes e (mem_of_at he) u (mem_of_atA hu) _ _ v (h4.more (Nat.le_refl _) (frz_up R))⟩
  | nil z => intro v hv; cases hv; exact .vsn z
  | agg xs ys hs hc ih =>
    intro v hv
    cases hv with
    | agg _ vs hz hh =>
      refine .agg _ vs (by rw [← hz]; simp [hs]) fun i u' v hu hv => ?_
      have hi : i < xs.length := by rw [hs]; simpa using (Array.getElem?_eq_some_iff.1 hu).1
      exact ih i xs[i] u' (List.getElem?_eq_getElem hi) (by simpa using hu) (hh i xs[i] v (by simp) hv)
  | tuple xs ys hs hc ih =>
    intro v hv
    cases hv with
    | tuple _ vs hz hh =>
      refine .tuple _ vs (by rw [← hz]; simp [hs]) fun i u' v hu hv => ?_
      have hi : i < xs.length := by rw [hs]; simpa using (Array.getElem?_eq_some_iff.1 hu).1
      exact ih i xs[i] u' (List.getElem?_eq_getElem hi) (by simpa using hu) (hh i xs[i] v (by simp) hv)
  | func g xs ys us vs hs hc hs' hc' ih ih' =>
    intro v hv
    cases hv with
    | func _ _ ps _ qs hz hh hz' hh' =>
      refine .func g _ ps _ qs (by rw [← hz]; simp [hs]) (fun i u' v hu hv => ?_) (by rw [← hz']; simp [hs']) (fun i u' v hu hv => ?_)
      · have hi : i < xs.length := by rw [hs]; simpa using (Array.getElem?_eq_some_iff.1 hu).1
        exact ih i xs[i] u' (List.getElem?_eq_getElem hi) (by simpa using hu) (hh i xs[i] v (by simp) hv)
      · have hi : i < us.length := by rw [hs']; simpa using (Array.getElem?_eq_some_iff.1 hu).1
        exact ih' i us[i] u' (List.getElem?_eq_getElem hi) (by simpa using hu) (hh' i us[i] v (by simp) hv)
def FzH (h : AHeap) (D : Nat → Bool) (h2 : AHeap) : Prop :=
 ∀ b o2, h2.get b = some o2 → b < h2.next ∧ D b = false ∧ ((∃ n z, o2 = .tail n z ∧ h.get b = some (.tail n z)) ∨
  (∃ c c2, o2 = .rw c2 ∧ h.get b = some (.rw c) ∧ c2.length ≤ c.length ∧ ∀ (i : Nat) (u' : Value), c2[i]? = some u' → u'.oneCell' = true ∧ ∃ u, c[i]? = some u ∧ Fz h D h2.next u u') ∨
  ∃ L, o2 = .loop L ∧ h.get b = some (.loop L) ∧ ∀ k u, look L.tmps k = some u → Bnd h2.next u)
theorem FzH.rel (H : FzH h D h2) (R : Rel ι h w) : Rel (frz ι h D w) h2 w := by
 have out : ∀ b o r, h.get b = some o → D b = false → ι.at b o = some r → ¬ ∃ b' c, D b' = true ∧ h.get b' = some (.rw c) ∧ (ι b').r = r := by
   rintro b o r hb hD hr ⟨b', c, hD', hb', hr'⟩
   have hne : b' ≠ b := fun e => by subst e; rw [hD] at hD'; cases hD'
   exact R.sep b o b' _ r hb hr hb' hne (by rw [← hr']; rfl)
 have old : ∀ b o2, h2.get b = some o2 → ∃ o, h.get b = some o ∧ ι.at b o = ι.at b o2 ∧ D b = false := fun b o2 hb => by
   obtain ⟨_, hD, ⟨n, z, rfl, h3⟩ | ⟨c, c2, rfl, h3, _⟩ | ⟨L, rfl, h3, _⟩⟩ := H b o2 hb
   · exact ⟨_, h3, rfl, hD⟩
   · exact ⟨_, h3, rfl, hD⟩
   · exact ⟨_, h3, rfl, hD⟩
 refine ⟨fun b o hb => (H b o hb).1, fun b o r hb hr => ?_, fun b c2 hb => ?_, fun b n z hb => ?_, fun b l hb => ?_, fun b o b' o' r hb hr hb' hne => ?_, fun r i v hv => ?_, R.gb⟩
 · rw [frz_at] at hr
   obtain ⟨o1, h1, h2, _⟩ := old b o hb
   exact R.real b o1 r h1 (by rw [h2]; exact hr)
 · obtain ⟨_, hD, ⟨n, z, e, _⟩ | ⟨c, c3, e, h3, hl, hc⟩ | ⟨L, e, _⟩⟩ := H b _ hb
   · cases e
   · injection e with e; subst e
     obtain ⟨h4, h5, h6⟩ := R.rw b c h3
     refine ⟨Nat.le_trans hl h4, fun i hi => ⟨(h5 i hi).1, (h5 i hi).2.1, ?_⟩, fun i u' hu => ?_⟩
     · show (frz ι h D w).im (ι b).r _ = none
       rw [frz_out (out b _ _ h3 hD rfl)]; exact (h5 i hi).2.2
     · obtain ⟨h7, u, h8, h9⟩ := hc i u' hu
       obtain ⟨_, v, h10, h11⟩ := h6 i u h8
       exact ⟨h7, v, h10, h9.vr R h11⟩
   · cases e
 · obtain ⟨_, hD, ⟨n', z', e, h3⟩ | ⟨c, c3, e, _⟩ | ⟨L, e, _⟩⟩ := H b _ hb
   · injection e with e1 e2; subst e1; subst e2
     refine (R.tail b n z h3).more (fun _ _ _ => ⟨fun h => h, rfl⟩) fun hf i hi => ?_
     show (frz ι h D w).im (ι.tk b).r i = none
     rw [frz_out (out b _ _ h3 hD (by simp [Iota.at, (show (ι.tk b).none = false from hf)]))]; exact hi
   · cases e
   · cases e
 · obtain ⟨_, hD, ⟨n', z', e, h3⟩ | ⟨c, c3, e, _⟩ | ⟨L, e, h3, hb3⟩⟩ := H b _ hb
   · cases e
   · cases e
   · injection e with e; subst e
     obtain ⟨o, h4, ⟨hp, rt, d, fn, h5, h6, h7⟩ | h5⟩ := R.loop b _ h3
     case inr => exact ⟨o, h4, ⟨.inr h5⟩⟩
     refine ⟨o, h4, ⟨.inl ⟨hp, rt, d, fn, h5, fun k u hu => ?_, h7⟩⟩⟩
     obtain ⟨v, h8, h9⟩ := h6 k u hu
     exact ⟨v, h8, hb3 k u hu _ _ v (h9.more (Nat.le_refl _) (frz_up R))⟩
 · rw [frz_at] at hr ⊢
   obtain ⟨o1, h1, h2, _⟩ := old b o hb
   obtain ⟨o3, h3, h4, _⟩ := old b' o' hb'
   rw [← h4]
   exact R.sep b o1 b' o3 r h1 (by rw [h2]; exact hr) h3 hne
 · exact frz_cell R hv
theorem RC.fz {K : Nat} {t t2 : List (Nat × Value)} {h h2 : AHeap} (D : Nat → Bool) (hK : K ≤ h2.next) (hH : FzH h D h2) (ht : ∀ k u', look t2 k = some u' → ∃ u, look t k = some u ∧ Fz h D h2.next u u') : RC K ⟨t, h⟩ ⟨t2, h2⟩ := by
 refine ⟨hK, fun ι w rt R T => ⟨frz ι h D w, hH.rel R, fun k u' hu => ?_, frz_up R, ?_, ?_⟩⟩
 · obtain ⟨u, h1, h2⟩ := ht k u' hu
   obtain ⟨v, h3, h4⟩ := T k u h1
   exact ⟨v, h3, h2.vr R h4⟩
 · rintro r ⟨b, o2, hb, ho⟩
   rw [frz_at] at ho
   obtain ⟨_, hD, ⟨n, z, rfl, h3⟩ | ⟨c, c2, rfl, h3, _⟩ | ⟨L, rfl, h3, _⟩⟩ := hH b o2 hb
   · exact ⟨b, _, h3, ho⟩
   · exact ⟨b, _, h3, ho⟩
   · exact ⟨b, _, h3, ho⟩
 · intro r i hn
   exact frz_out fun ⟨b, c, _, hb, hr⟩ => hn ⟨b, _, hb, by rw [← hr]; rfl⟩
theorem RC.nilT {K z : Nat} {t t2 : List (Nat × Value)} {h : AHeap} (hK : K ≤ h.next) (ht : ∀ k u', look t2 k = some u' → ∃ u, look t k = some u ∧ (u' = u ∨ (u = .slice none 0 0 ∧ u' = VT z [] h.next))) : RC K ⟨t, h⟩ ⟨t2, h.alloc (.tail 0 z)⟩ := by
 refine ⟨by simp only [AHeap.next_alloc]; omega, fun ι w rt R T => ?_⟩
 have hT : TailR ⟨0, 0, z, 0, true⟩ ι.im 0 z w := ⟨rfl, rfl, fun _ => .inl rfl, fun _ => rfl, fun h => by simp at h⟩
 have R1 := R.addTail (t := ⟨0, 0, z, 0, true⟩) (fun h => by simp at h) hT
 have X1 := (Ext.refl ι h w).addTail (t := ⟨0, 0, z, 0, true⟩) (n := 0) (z := z) (fun h => by simp at h)
 refine ⟨_, R1, fun k u' hu => ?_, ⟨fun _ _ => rfl, fun b hb => .inl (by simp [updT, show b ≠ h.next by omega]), fun _ _ _ h => h⟩, ?_, fun _ _ _ => rfl⟩
 · obtain ⟨u, h1, h2⟩ := ht k u' hu
   obtain ⟨v, h3, h4⟩ := T k u h1
   refine ⟨v, h3, ?_⟩
   rcases h2 with rfl | ⟨rfl, rfl⟩
   · exact h4.more (by simp) X1.up
   · cases h4
     exact .vt z [] h.next _ (by simp) (.vsn z) (by simp [updT]) (fun _ => .inl ⟨by simp [updT], _, rfl⟩)
 · rintro r ⟨b, o, hb, ho⟩
   rw [AHeap.get_alloc] at hb
   split at hb
   · rename_i e; subst e
     simp only [AObj.live, Option.some.injEq] at hb; subst hb
     simp [Iota.at, updT] at ho
   · rename_i e
     exact ⟨b, o, hb, by rw [at_updT e] at ho; exact ho⟩
theorem ICalls.fz {E : Env} {key : Nat} {F : IFn} [HF : Has E key F] {us us2 : List Value} {h h2 : AHeap} {Q : Value → AHeap → Prop} (D : Nat → Bool) (hn : h.next ≤ h2.next) (hH : FzH h D h2) (hl : us.length = us2.length)
    (hus : ∀ (i : Nat) (u u' : Value), us[i]? = some u → us2[i]? = some u' → Fz h D h2.next u u') (H : ICalls E key us2 h2 Q) : ICalls E key us h Q := by
  intro ι w fv' vs R hf' hl'
  have hfv : fv' = .func (.func (E.id key)) #[] #[] := by
    cases hf' with
    | func _ _ ys _ ds hs _ hs' _ =>
      have e1 : ys = #[] := Array.eq_empty_of_size_eq_zero (by simpa using hs.symm)
      have e2 : ds = #[] := Array.eq_empty_of_size_eq_zero (by simpa using hs'.symm)
      rw [e1, e2]
  subst hfv
  have X0 : Ext ι h w (frz ι h D w) h2 w := by
    refine ⟨hn, frz_up R, Nat.le_refl _, fun r hr hm => ⟨rfl, ?_⟩, fun r i hr hm => ?_, rfl, rfl, rfl⟩
    · rintro ⟨b, o2, hb, ho⟩
      rw [frz_at] at ho
      obtain ⟨_, hD, ⟨n, z, rfl, h3⟩ | ⟨c, c2, rfl, h3, _⟩ | ⟨L, rfl, h3, _⟩⟩ := hH b o2 hb
      · exact hm ⟨b, _, h3, ho⟩
      · exact hm ⟨b, _, h3, ho⟩
      · exact hm ⟨b, _, h3, ho⟩
    · exact frz_out fun ⟨b, c, _, hb, hr⟩ => hm ⟨b, _, hb, by rw [← hr]; rfl⟩
  obtain ⟨nx, w1, h1, h3, h4, h5⟩ := H (frz ι h D w) w (.func (.func (E.id key)) #[] #[]) vs (hH.rel R) (.func _ #[] #[] #[] #[] rfl (by simp) rfl (by simp)) ⟨by rw [← hl]; exact hl'.1, fun i u' v hu hv => by
    have hi : i < us.length := by rw [hl]; exact (List.getElem?_eq_some_iff.1 hu).1
    exact (hus i us[i] u' (List.getElem?_eq_getElem hi) hu).vr R (hl'.2 i us[i] v (List.getElem?_eq_getElem hi) hv)⟩
  have hrun := run_call (E := E) (k := key) vs w
  rw [hrun] at h1
  injection h1 with e1 e2
  subst e1; subst e2
  refine ⟨_, w, hrun, R, Ext.refl _ _ _, h5.mono ?_⟩
  rintro e w' ⟨ι', x, v, h', rfl, hq, hv, R', X'⟩
  exact ⟨ι', x, v, h', rfl, hq, hv, R', X0.trans X'⟩
theorem ICalls.frz {E : Env} {key : Nat} {us : List Value} {u : Value} (H : ICalls E key us AHeap.none fun v h' => ∃ D, Fz h' D 0 v u) : ICalls E key us AHeap.none fun v _ => v = u := by
 intro ι w fv' vs R hf' hl'
 obtain ⟨nx, w1, h1, h2, h3, h4⟩ := H ι w fv' vs R hf' hl'
 refine ⟨nx, w1, h1, h2, h3, ?_⟩
 have key : ∀ e w', Lift (fun v h' => ∃ D, Fz h' D 0 v u) ι AHeap.none w1 e w' → Lift (fun v _ => v = u) ι AHeap.none w1 e w' := by
  rintro e w' ⟨ι', x, v, h', rfl, ⟨D, hq⟩, hv, R', X'⟩
  have hH : FzH h' D AHeap.none := fun b o hb => (none_get hb).elim
  refine ⟨AM.frz ι' h' D w', u, v, AHeap.none, rfl, rfl, hq.vr R' hv, hH.rel R', ⟨Nat.le_refl _, ⟨fun b hb => by simp [AHeap.none] at hb, fun b hb => by simp [AHeap.none] at hb, fun r i x hx => frz_mono R' (X'.up.im r i x hx)⟩, X'.size, fun r hr _ => ⟨(X'.frame r hr none_mut).1, none_mut⟩, fun r i hr _ => ?_, X'.os, X'.tape, X'.output⟩⟩
  rw [frz_out, X'.imf r i hr none_mut]
  rintro ⟨b, c, _, hb, hr'⟩
  exact (X'.frame r hr none_mut).2 ⟨b, _, hb, by rw [← hr']; rfl⟩
 cases nx with
 | enter f args => exact h4.mono key
 | round l f tmps as bd => exact ⟨h4.1, h4.2.mono key⟩
 | _ => exact h4
def FzL (h : AHeap) (D : Nat → Bool) (n : Nat) (xs ys : List Value) : Prop := xs.length = ys.length ∧ ∀ (i : Nat) (u u' : Value), xs[i]? = some u → ys[i]? = some u' → Fz h D n u u'
theorem FzL.nil {n : Nat} : FzL h D n [] [] := ⟨rfl, fun i u u' h => by simp at h⟩
theorem FzL.cons {n : Nat} {x y : Value} {xs ys : List Value} (h1 : Fz h D n x y) (h2 : FzL h D n xs ys) : FzL h D n (x :: xs) (y :: ys) := ⟨by simp [h2.1], fun i u u' hu hu' => by
 cases i with
 | zero => simp at hu hu'; subst hu; subst hu'; exact h1
 | succ i => exact h2.2 i u u' (by simpa using hu) (by simpa using hu')⟩
theorem Fz.cl {n : Nat} {u : Value} [hu : Cl u] : Fz h D n u u := .same u hu.out.bnd
theorem Fz.vtc {n z b : Nat} {es : List Value} [he : ClL es] : Fz h D n (VT z es b) (VS z es) := .vt z es b fun e h1 u hu => ((he.out e h1).cells u hu).bnd
theorem Fz.aggl {n : Nat} {xs ys : List Value} (h1 : FzL h D n xs ys) : Fz h D n (.agg ⟨xs⟩) (.agg ⟨ys⟩) := .agg xs ys h1.1 h1.2
theorem Fz.tuplel {n : Nat} {xs ys : List Value} (h1 : FzL h D n xs ys) : Fz h D n (.tuple ⟨xs⟩) (.tuple ⟨ys⟩) := .tuple xs ys h1.1 h1.2
theorem FzL.cl {n : Nat} {xs : List Value} [hx : ClL xs] : FzL h D n xs xs := ⟨rfl, fun i u u' hu hu' => by
 rw [hu] at hu'; injection hu' with hu'; subst hu'
 exact .same u ((hx.out u (mem_of_at hu)).bnd)⟩
theorem Fz.sl1 {n b o m k : Nat} {c es : List Value} [he : ClL es] (hD : D b = true) (hg : h.get b = some (.rw c)) (hm : es.length = m) (hle : o + m ≤ c.length) (hes : (c.drop o).take m = es) (h1 : ∀ v, v ∈ es → v.oneCell' = true) : Fz h D n (mkSl b o m k) (VS 1 es) := by
 have hc1 : ∀ (i j : Nat) (e u' : Value), es[i]? = some e → e.cells[j]? = some u' → j = 0 ∧ u' = e := fun i j e u' he hu => by
   rw [cells_one (h1 e (mem_of_at he))] at hu
   cases j with
   | zero => simp at hu; exact ⟨rfl, hu.symm⟩
   | succ j => simp at hu
 have hat : ∀ (i : Nat) (e : Value), es[i]? = some e → c[o + (i * 1 + 0)]? = some e := fun i e he => by
   rw [← hes, List.getElem?_take] at he
   split at he
   · rw [List.getElem?_drop] at he; simpa using he
   · cases he
 refine .sl b o m k 1 c es hD hg (by omega) hm (by omega) (fun i e he => by rw [cells_one (h1 e (mem_of_at he))]; rfl) (fun i j e u' he hu => ?_) (fun i j e u u' he hu hu' => ?_)
 · obtain ⟨rfl, rfl⟩ := hc1 i j e u' he hu
   exact ⟨h1 _ (mem_of_at he), _, hat i _ he⟩
 · obtain ⟨rfl, rfl⟩ := hc1 i j e u' he hu
   rw [hat i _ he] at hu'; injection hu' with hu'; subst hu'
   rename_i hx
   exact .same _ ((hx.out _ (mem_of_at he)).bnd)
theorem Dp.cl {u : Value} [hu : Cl u] : Dp h u u := fun ι w v R hv => hu.out.vr (fun r i x hx => R.im r i x hx) hv
theorem Dp.vt {z b : Nat} {es : List Value} [he : ClL es] : Dp h (VT z es b) (VS z es) := fun ι w v R hv => by
 obtain ⟨_, hV, _, _⟩ := hv.vt_of rfl
 exact (Clo.vs z es fun e h1 => (he.out e h1).cells).vr (fun r i x hx => R.im r i x hx) hV
theorem DpL.nil : DpL h [] [] := ⟨rfl, fun i u u' h => by simp at h⟩
theorem DpL.cons {x y : Value} {xs ys : List Value} (h1 : Dp h x y) (h2 : DpL h xs ys) : DpL h (x :: xs) (y :: ys) := ⟨by simp [h2.1], fun i u u' hu hu' => by
 cases i with
 | zero => simp at hu hu'; subst hu; subst hu'; exact h1
 | succ i => exact h2.2 i u u' (by simpa using hu) (by simpa using hu')⟩
theorem DpL.cl {xs : List Value} [hx : ClL xs] : DpL h xs xs := ⟨rfl, fun i u u' hu hu' => by
 rw [hu] at hu'; injection hu' with hu'; subst hu'
 exact fun ι w v R hv => (hx.out u (mem_of_at hu)).vr (fun r i x hx => R.im r i x hx) hv⟩
theorem Dp.sl1 {b o m k : Nat} {c es : List Value} [he : ClL es] (hg : h.get b = some (.rw c)) (hm : es.length = m) (hle : o + m ≤ c.length) (hes : (c.drop o).take m = es) (h1 : ∀ v, v ∈ es → v.oneCell' = true) : Dp h (mkSl b o m k) (VS 1 es) := by
 intro ι w v R hv
 have hf : Fz h (fun x => x == b) 0 (mkSl b o m k) (VS 1 es) := Fz.sl1 (by simp) hg hm hle hes h1
 have := hf.vr R hv
 refine (Clo.vs 1 es fun e h1 => (he.out e h1).cells).vr (fun r i x hx => ?_) this
 show w.cell? _ = some x
 exact frz_cell R hx
theorem Dp.ptr {b o : Nat} {c : List Value} [hc : ClL c] (hg : h.get b = some (.rw c)) (h1 : ∀ v, v ∈ c → v.oneCell' = true) : Dp h (.pointer (some ⟨b, o, none⟩)) (VP (.agg ⟨c⟩) o) := by
  intro ι w v R hv
  cases hv with
  | ptr _ _ hb =>
    refine .vp_mk fun j u hu => ?_
    have hu' : c[j]? = some u := by simpa [Value.cells] using hu
    obtain ⟨_, htot, hCR⟩ := R.rw b c hg
    obtain ⟨h4, v, h5, h6⟩ := hCR j u hu'
    exact ⟨h4, v, h5, (hc.out u (mem_of_at hu')).vr (fun r i x hx => R.im r i x hx) h6⟩
theorem Dp.func {g : FuncId} {xs ys us vs : List Value} (h1 : DpL h xs ys) (h2 : DpL h us vs) : Dp h (.func (.func g) ⟨xs⟩ ⟨us⟩) (.func (.func g) ⟨ys⟩ ⟨vs⟩) := by
  intro ι w v R hv
  cases hv with
  | func _ _ ps _ qs hz hh hz' hh' =>
    refine .func g _ ps _ qs (by rw [← hz]; simp [h1.1]) (fun i u' v hu hv => ?_) (by rw [← hz']; simp [h2.1]) (fun i u' v hu hv => ?_)
    · have hi : i < xs.length := by rw [h1.1]; simpa using (Array.getElem?_eq_some_iff.1 hu).1
      exact h1.2 i xs[i] u' (List.getElem?_eq_getElem hi) (by simpa using hu) ι w v R (hh i xs[i] v (by simp) hv)
    · have hi : i < us.length := by rw [h2.1]; simpa using (Array.getElem?_eq_some_iff.1 hu).1
      exact h2.2 i us[i] u' (List.getElem?_eq_getElem hi) (by simpa using hu) ι w v R (hh' i us[i] v (by simp) hv)
theorem Dp.agg {xs ys : List Value} (h1 : DpL h xs ys) : Dp h (.agg ⟨xs⟩) (.agg ⟨ys⟩) := by
  intro ι w v R hv
  cases hv with
  | agg _ ps hz hh =>
    refine .agg _ ps (by rw [← hz]; simp [h1.1]) (fun i u' v hu hv => ?_)
    have hi : i < xs.length := by rw [h1.1]; simpa using (Array.getElem?_eq_some_iff.1 hu).1
    exact h1.2 i xs[i] u' (List.getElem?_eq_getElem hi) (by simpa using hu) ι w v R (hh i xs[i] v (by simp) hv)
theorem ICalls.goD {E : Env} {k : Nat} {us us' : List Value} {u : Value} {Q : Value → AHeap → Prop} (H : ICalls E k us' AHeap.none fun v _ => v = u) (hd : DpL h us us') (hu : vrcD u = true) (hq : Q u h) : PCalls E k us h Q :=
 ⟨(ICalls.deep hd hu H).use hq⟩
end
end Go.Proofs.Ytjnpdnlgkepmcaa.AM
