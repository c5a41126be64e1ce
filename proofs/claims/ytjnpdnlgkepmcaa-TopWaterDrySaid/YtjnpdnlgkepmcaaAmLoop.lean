/- The records of loops over functions, abstract and real. Conditions: none. -/
import Derived.Test.YtjnpdnlgkepmcaaAmWev
import Derived.RangeFuncRecord
namespace Go.Proofs.Ytjnpdnlgkepmcaa.AM
set_option linter.unusedSimpArgs false
set_option linter.unusedVariables false
open Go Go.RowKit
variable {ι : Iota} {h : AHeap} {w : World}
theorem cell_putObj {r : Nat} {o : Obj} {a : Addr} (hne : a.block ≠ r) : (w.putObj r o).cell? a = w.cell? a := by
 unfold World.cell?
 rw [World.putObj_heap_other hne]
theorem frozen_putObj {r : Nat} {o : Obj} {a : Addr} (hne : a.block ≠ r) : (w.putObj r o).frozen? a = w.frozen? a := by
 unfold World.frozen?
 rw [World.putObj_heap_other hne]
theorem Rel.putObj (R : Rel ι h w) {b : Nat} {L0 : ALoop} (hb : h.get b = some (.loop L0)) (x : AObj) (o' : Obj) (hx : x = .dead ∨ ∃ L, x = .loop L ∧ LR ι h.next L o') :
   Rel ι (h.put b x) (w.putObj (ι b).r o') ∧ Ext ι h w ι (h.put b x) (w.putObj (ι b).r o') := by
 have hreal := R.real b _ _ hb rfl
 have hget : ∀ c, (h.put b x).get c = if c = b then x.live else h.get c := fun c => AHeap.get_put h b c x
 have hold : ∀ c y, (h.put b x).get c = some y → c ≠ b → h.get c = some y := fun c y hc hcb => by rw [hget, if_neg hcb] at hc; exact hc
 have hlive : ∀ y, (h.put b x).get b = some y → ∃ L, y = .loop L ∧ LR ι h.next L o' := by
   intro o2 h2
   rw [hget, if_pos rfl] at h2
   rcases hx with rfl | ⟨L, rfl, hL⟩
   · simp [AObj.live] at h2
   · simp [AObj.live] at h2; exact ⟨L, h2.symm, hL⟩
 have hoth : ∀ c y rc, (h.put b x).get c = some y → c ≠ b → ι.at c y = some rc → rc ≠ (ι b).r := fun c y rc hc hcb hr => R.other hb rfl (hold c y hc hcb) hcb hr
 refine ⟨⟨?_, ?_, ?_, ?_, ?_, ?_, ?_, R.gb.setObj (r := (ι b).r) (o := o') (by obtain ⟨o, h2, h3⟩ := R.loop b L0 hb; unfold osz; rw [h2]; rcases h3.shape with ⟨_, rfl⟩ | ⟨_, _, rfl⟩ <;> rfl) fun x hx => World.putObj_heap_other hx⟩, ⟨Nat.le_refl _, .refl, by simp, ?_, fun _ _ _ _ => rfl, rfl, rfl, rfl⟩⟩
 · intro c y hc
   by_cases e : c = b
   · subst e; exact R.lt c _ hb
   · exact R.lt c y (hold c y hc e)
 · intro c y r hc hr
   rw [World.putObj_size]
   by_cases e : c = b
   · subst e; obtain ⟨L, rfl, _⟩ := hlive y hc; exact R.real c _ r hb hr
   · exact R.real c y r (hold c y hc e) hr
 · intro c y hc
   have e : c ≠ b := fun e => by subst e; obtain ⟨L, e, _⟩ := hlive _ hc; cases e
   have hne := hoth c _ _ hc e rfl
   obtain ⟨h1, h2, h3⟩ := R.rw c y (hold c _ hc e)
   refine ⟨h1, fun i hi => ?_, h3.more (Nat.le_refl _) .refl rfl fun i v hv => by rw [cell_putObj hne]; exact hv⟩
   obtain ⟨⟨v, h4⟩, h5⟩ := h2 i hi
   exact ⟨⟨v, by rw [cell_putObj hne]; exact h4⟩, by rw [frozen_putObj hne]; exact h5⟩
 · intro c n z hc
   have e : c ≠ b := fun e => by subst e; obtain ⟨L, e, _⟩ := hlive _ hc; cases e
   refine (R.tail c n z (hold c _ hc e)).more (fun hf i hi => ?_) (fun _ _ h => h)
   have hne := hoth c _ (ι.tk c).r hc e (by simp [Iota.at, hf])
   rw [cell_putObj hne, frozen_putObj hne]
   exact ⟨fun h => h, rfl⟩
 · intro c l hc
   by_cases e : c = b
   · subst e
     obtain ⟨L, e, hL⟩ := hlive _ hc
     injection e with e; subst e
     exact ⟨o', World.putObj_heap_same hreal, hL⟩
   · obtain ⟨y, h1, h2⟩ := R.loop c l (hold c _ hc e)
     exact ⟨y, by rw [World.putObj_heap_other (hoth c _ _ hc e rfl)]; exact h1, h2⟩
 · intro c y c' y' r hc hr hc' hne
   by_cases e : c = b
   · subst e
     obtain ⟨L, rfl, _⟩ := hlive y hc
     exact R.sep c (.loop L0) c' y' r hb hr (hold c' y' hc' hne) hne
   · by_cases e' : c' = b
     · subst e'
       obtain ⟨L, rfl, _⟩ := hlive y' hc'
       exact R.sep c y c' (.loop L0) r (hold c y hc e) hr hb hne
     · exact R.sep c y c' y' r (hold c y hc e) hr (hold c' y' hc' e') hne
 · intro r i v hv
   have h1 := R.im r i v hv
   rw [cell_putObj]
   · exact h1
   · intro e
     simp only at e
     obtain ⟨o, h2, h3⟩ := R.loop b L0 hb
     unfold World.cell? at h1
     rw [e, h2] at h1
     rcases h3.shape with ⟨_, rfl⟩ | ⟨_, _, rfl⟩ <;> simp at h1
 · intro r hr hnm
   have hne : r ≠ (ι b).r := fun e => hnm ⟨b, _, hb, by rw [e]; rfl⟩
   refine ⟨World.putObj_heap_other hne, ?_⟩
   rintro ⟨c, y, hc, hmy⟩
   by_cases e : c = b
   · subst e; obtain ⟨L, rfl, _⟩ := hlive y hc; exact hnm ⟨c, _, hb, hmy⟩
   · exact hnm ⟨c, y, hold c y hc e, hmy⟩
theorem Rel.newLoop (R : Rel ι h w) {L : ALoop} {o : Obj} (hL : LR ι h.next L o) :
   Rel (upd ι h.next ⟨w.heap.size, 0, 0⟩) (h.alloc (.loop L)) (w.alloc o) ∧ Ext ι h w (upd ι h.next ⟨w.heap.size, 0, 0⟩) (h.alloc (.loop L)) (w.alloc o) := by
 obtain ⟨RJ, XJ⟩ := R.junk o
 have hget : ∀ x, (h.alloc (.loop L)).get x = if x = h.next then some (.loop L) else h.get x := fun x => by rw [AHeap.get_alloc]; rfl
 have hold : ∀ x ox, (h.alloc (.loop L)).get x = some ox → x ≠ h.next → h.get x = some ox := fun x ox hx hxb => by rw [hget, if_neg hxb] at hx; exact hx
 have hnew : ∀ ox, (h.alloc (.loop L)).get h.next = some ox → ox = .loop L := fun ox hx => by rw [hget, if_pos rfl] at hx; injection hx with hx; exact hx.symm
 refine ⟨⟨?_, ?_, ?_, ?_, ?_, ?_, RJ.im, RJ.gb⟩, ⟨by simp, .upd, XJ.size, ?_, fun _ _ _ _ => rfl, rfl, rfl, rfl⟩⟩
 · intro x y hx
   by_cases e : x = h.next
   · subst e; simp
   · have := R.lt x y (hold x y hx e); simp; omega
 · intro x y r hx hr
   by_cases e : x = h.next
   · subst e; obtain rfl := hnew y hx; simp only [Iota.at, upd_same] at hr; injection hr with hr; subst hr; simp
   · rw [at_upd e] at hr; exact RJ.real x y r (hold x y hx e) hr
 · intro x cx hx
   have e : x ≠ h.next := fun e => by subst e; cases hnew _ hx
   obtain ⟨h2, h4, h5⟩ := RJ.rw x cx (hold x _ hx e)
   rw [upd_ne _ _ e]
   exact ⟨h2, h4, h5.more (by simp) .upd (upd_ne _ _ e) fun _ _ h => h⟩
 · intro x n z hx
   have e : x ≠ h.next := fun e => by subst e; cases hnew _ hx
   exact RJ.tail x n z (hold x _ hx e)
 · intro x l hx
   by_cases e : x = h.next
   · subst e
     have := hnew _ hx
     injection this with this; subst this
     rw [upd_same]
     exact ⟨o, World.alloc_heap_new w o, hL.more (by simp) .upd⟩
   · rw [upd_ne _ _ e]
     obtain ⟨ob, h1, h2⟩ := RJ.loop x l (hold x _ hx e)
     exact ⟨ob, h1, h2.more (by simp) .upd⟩
 · intro x ox y oy r hx hm hy hne
   by_cases e : x = h.next
   · subst e
     obtain rfl := hnew ox hx
     simp only [Iota.at, upd_same] at hm
     injection hm with hm; subst hm
     rw [at_upd hne]
     exact fun hh => by have := R.real y oy _ (hold y oy hy hne) hh; omega
   · rw [at_upd e] at hm
     by_cases e' : y = h.next
     · subst e'
       obtain rfl := hnew oy hy
       simp only [Iota.at, upd_same]
       have := R.real x ox _ (hold x ox hx e) hm
       intro hh; injection hh with hh; omega
     · rw [at_upd e']; exact R.sep x ox y oy r (hold x ox hx e) hm (hold y oy hy e') hne
 · intro r hr hn
   refine ⟨(XJ.frame r hr hn).1, ?_⟩
   rintro ⟨x, ox, hx, hm⟩
   by_cases e : x = h.next
   · subst e; obtain rfl := hnew ox hx; simp only [Iota.at, upd_same] at hm; injection hm with hm; omega
   · rw [at_upd e] at hm; exact hn ⟨x, ox, hold x ox hx e, hm⟩
theorem Rel.unseen (R : Rel ι h w) {D : Nat} {d : Option (List Deferred)} (hD : w.heap[D]? = some (.deferred d)) (o : Obj) :
   Rel ι h (w.putObj D o) := by
 have hcell : ∀ (a : Addr) v, w.cell? a = some v → (w.putObj D o).cell? a = some v := by
   intro a v ha
   rw [cell_putObj]
   · exact ha
   · intro e
     unfold World.cell? at ha
     rw [e, hD] at ha
     simp at ha
 have hfz : ∀ (a : Addr) v, w.cell? a = some v → (w.putObj D o).frozen? a = w.frozen? a := by
   intro a v ha
   rw [frozen_putObj]
   intro e
   unfold World.cell? at ha
   rw [e, hD] at ha
   simp at ha
 refine ⟨R.lt, fun b y r hb hr => by rw [World.putObj_size]; exact R.real b y r hb hr, fun b c hb => ?_, fun b n z hb => ?_, fun b l hb => ?_, R.sep, fun r i v hv => hcell _ _ (R.im r i v hv), R.gb.setObj (r := D) (o := o) (by unfold osz; rw [hD]) fun x hx => World.putObj_heap_other hx⟩
 · obtain ⟨h1, h2, h3⟩ := R.rw b c hb
   refine ⟨h1, fun i hi => ?_, h3.more (Nat.le_refl _) .refl rfl fun i v hv => hcell _ _ hv⟩
   obtain ⟨⟨v, h4⟩, h5, h6⟩ := h2 i hi
   exact ⟨⟨v, hcell _ _ h4⟩, by rw [hfz _ _ h4]; exact h5, h6⟩
 · have hT := R.tail b n z hb
   refine ⟨hT.hn, hT.hz, hT.nil, hT.z0, fun hf => ⟨(hT.room hf).1, fun i hi => ?_⟩⟩
   obtain ⟨⟨v, h4⟩, h5, h6⟩ := (hT.room hf).2 i hi
   exact ⟨⟨v, hcell _ _ h4⟩, by rw [hfz _ _ h4]; exact h5, h6⟩
 · obtain ⟨y, h1, h2⟩ := R.loop b l hb
   refine ⟨y, ?_, h2⟩
   rw [World.putObj_heap_other]
   · exact h1
   · intro e; rw [e, hD] at h1; injection h1 with h1; subst h1; rcases h2.shape with ⟨_, e⟩ | ⟨_, _, e⟩ <;> cases e
end Go.Proofs.Ytjnpdnlgkepmcaa.AM
