/- The records of loops over functions, abstract and real. Conditions: none. -/
import Derived.Test.YtfdapegcngmknaaAmDraw3
import Derived.RangeFuncRecord
namespace Go.Proofs.Ytfdapegcngmknaa.AM
open Go Go.RowKit
variable {ι : Iota} {h : AHeap} {w : World}

theorem cell_putObj {r : Nat} {o : Obj} {a : Addr} (hne : a.block ≠ r) : (w.putObj r o).cell? a = w.cell? a := by
  unfold World.cell?
  rw [World.putObj_heap_other hne]
theorem frozen_putObj {r : Nat} {o : Obj} {a : Addr} (hne : a.block ≠ r) : (w.putObj r o).frozen? a = w.frozen? a := by
  unfold World.frozen?
  rw [World.putObj_heap_other hne]

/-- The real block of a block that may turn becomes another object. -/
theorem Rel.putObj (R : Rel ι h w) {b : Nat} {o : AObj} (hb : h.get b = some o) (hm : o.isMut = true) (x : AObj) (o' : Obj) (hx : x = .dead ∨ ∃ L, x = .loop L ∧ LR ι h.next L o') :
    Rel ι (h.put b x) (w.putObj (ι b).r o') ∧ Ext ι h w ι (h.put b x) (w.putObj (ι b).r o') := by
  have hreal := R.real b o hb
  have far : ∀ b' o2, h.get b' = some o2 → b' ≠ b → (ι b').r ≠ (ι b).r := fun b' o2 h1 h2 => R.sep b o b' o2 hb hm h1 h2
  have hget : ∀ c, (h.put b x).get c = if c = b then x.live else h.get c := fun c => AHeap.get_put h b c x
  have hlive : ∀ o2, x.live = some o2 → ∃ L, o2 = .loop L ∧ LR ι h.next L o' := by
    intro o2 h2
    rcases hx with rfl | ⟨L, rfl, hL⟩
    · simp [AObj.live] at h2
    · simp [AObj.live] at h2; exact ⟨L, h2.symm, hL⟩
  refine ⟨⟨?_, ?_, ?_, ?_, ?_, ?_⟩, ⟨Nat.le_refl _, fun _ _ => rfl, by simp, ?_, rfl, rfl, rfl⟩⟩
  · intro c y hc
    rw [hget] at hc
    split at hc
    · rename_i e; subst e; exact R.lt c o hb
    · exact R.lt c y hc
  · intro c y hc
    rw [hget] at hc
    rw [World.putObj_size]
    split at hc
    · rename_i e; subst e; exact hreal
    · exact R.real c y hc
  · intro c y hc i u hu
    rw [hget] at hc
    split at hc
    · obtain ⟨L, e, _⟩ := hlive _ hc; cases e
    · rename_i hne
      obtain ⟨h1, v, h2, h3⟩ := R.ro c y hc i u hu
      exact ⟨h1, v, by rw [cell_putObj (far c _ hc hne)]; exact h2, h3⟩
  · intro c y hc
    rw [hget] at hc
    split at hc
    · obtain ⟨L, e, _⟩ := hlive _ hc; cases e
    · rename_i hne
      obtain ⟨h1, h2, h3⟩ := R.rw c y hc
      refine ⟨h1, fun i hi => ?_, fun i u hu => ?_⟩
      · obtain ⟨⟨v, h4⟩, h5⟩ := h2 i hi
        exact ⟨⟨v, by rw [cell_putObj (far c _ hc hne)]; exact h4⟩, by rw [frozen_putObj (far c _ hc hne)]; exact h5⟩
      · obtain ⟨h4, v, h5, h6⟩ := h3 i u hu
        exact ⟨h4, v, by rw [cell_putObj (far c _ hc hne)]; exact h5, h6⟩
  · intro c l hc
    rw [hget] at hc
    split at hc
    · rename_i e; subst e
      obtain ⟨L, e, hL⟩ := hlive _ hc
      injection e with e; subst e
      exact ⟨o', World.putObj_heap_same hreal, hL⟩
    · rename_i hne
      obtain ⟨y, h1, h2⟩ := R.loop c l hc
      exact ⟨y, by rw [World.putObj_heap_other (far c _ hc hne)]; exact h1, h2⟩
  · intro c y c' y' hc hmy hc' hne
    rw [hget] at hc hc'
    split at hc
    · rename_i e; subst e
      rw [if_neg hne] at hc'
      exact far c' _ hc' hne
    · rename_i hcb
      split at hc'
      · rename_i e; subst e
        exact fun e => far c _ hc hcb e.symm
      · exact R.sep c y c' y' hc hmy hc' hne
  · intro r hr hnm
    have hne : r ≠ (ι b).r := fun e => hnm ⟨b, o, hb, hm, e.symm⟩
    refine ⟨World.putObj_heap_other hne, ?_⟩
    rintro ⟨c, y, hc, hmy, hcr⟩
    rw [hget] at hc
    split at hc
    · rename_i e; subst e; exact hne hcr.symm
    · exact hnm ⟨c, y, hc, hmy, hcr⟩

/-- A loop's record is laid. -/
theorem Rel.newLoop (R : Rel ι h w) {L : ALoop} {o : Obj} (hL : LR ι h.next L o) :
    Rel (upd ι h.next ⟨w.heap.size, 0, 0⟩) (h.alloc (.loop L)) (w.alloc o) ∧ Ext ι h w (upd ι h.next ⟨w.heap.size, 0, 0⟩) (h.alloc (.loop L)) (w.alloc o) := by
  obtain ⟨R', X'⟩ := R.junk o
  have hget : ∀ c, (h.alloc (.loop L)).get c = if c = h.next then some (.loop L) else h.get c := fun c => by rw [AHeap.get_alloc]; rfl
  have hlt : ∀ b y, h.get b = some y → b ≠ h.next := fun b y hb => by have := R.lt b y hb; omega
  have hmore : ∀ {u v}, VR ι h.next u v → VR (upd ι h.next ⟨w.heap.size, 0, 0⟩) (h.next + 1) u v := fun hv => hv.more (by omega) fun b hb => upd_lt _ _ hb
  have hnew : (w.alloc o).heap[w.heap.size]? = some o := World.alloc_heap_new w o
  refine ⟨⟨?_, ?_, ?_, ?_, ?_, ?_⟩, ⟨by simp, fun b hb => upd_lt _ _ hb, by simp, ?_, rfl, rfl, rfl⟩⟩
  · intro b y hb
    rw [hget] at hb
    split at hb
    · rename_i e; subst e; simp
    · have := R.lt b y hb; simp; omega
  · intro b y hb
    rw [hget] at hb
    split at hb
    · rename_i e; subst e; rw [upd_same]; simp
    · rename_i hne; rw [upd_ne _ _ hne]; exact R'.real b y hb
  · intro b c hb i u hu
    rw [hget] at hb
    split at hb
    · cases hb
    · rename_i hne
      rw [upd_ne _ _ hne]
      obtain ⟨h1, v, h2, h3⟩ := R'.ro b c hb i u hu
      exact ⟨h1, v, h2, hmore h3⟩
  · intro b c hb
    rw [hget] at hb
    split at hb
    · cases hb
    · rename_i hne
      obtain ⟨h1, h2, h3⟩ := R'.rw b c hb
      rw [upd_ne _ _ hne]
      refine ⟨h1, h2, fun i u hu => ?_⟩
      rw [upd_ne _ _ hne]
      obtain ⟨h4, v, h5, h6⟩ := h3 i u hu
      exact ⟨h4, v, h5, hmore h6⟩
  · intro b l hb
    rw [hget] at hb
    split at hb
    · rename_i e; subst e
      injection hb with hb; injection hb with hb; subst hb
      rw [upd_same]
      obtain ⟨⟨rt, d, fn, h1, h2, h3⟩⟩ := hL
      exact ⟨o, hnew, ⟨rt, d, fn, h1, h2.more (by simp) fun b hb => upd_lt _ _ hb, h3⟩⟩
    · rename_i hne
      rw [upd_ne _ _ hne]
      obtain ⟨y, h1, ⟨rt, d, fn, h2, h3, h4⟩⟩ := R'.loop b l hb
      exact ⟨y, h1, ⟨rt, d, fn, h2, h3.more (by simp) fun b hb => upd_lt _ _ hb, h4⟩⟩
  · intro b y b' y' hb hm hb' hne
    rw [hget] at hb hb'
    split at hb
    · rename_i e; subst e
      rw [if_neg hne] at hb'
      rw [upd_same, upd_ne _ _ hne]
      exact Nat.ne_of_lt (R.real b' y' hb')
    · rename_i hbn
      rw [upd_ne _ _ hbn]
      split at hb'
      · rename_i e; subst e
        rw [upd_same]
        exact fun e => absurd (R.real b y hb) (by simp at e; omega)
      · rename_i hbn'
        rw [upd_ne _ _ hbn']
        exact R.sep b y b' y' hb hm hb' hne
  · intro r hr hnm
    refine ⟨(X'.frame r hr hnm).1, ?_⟩
    rintro ⟨b, y, hb, hm, hbr⟩
    rw [hget] at hb
    split at hb
    · rename_i e; subst e; rw [upd_same] at hbr; simp at hbr; omega
    · rename_i hne; rw [upd_ne _ _ hne] at hbr; exact hnm ⟨b, y, hb, hm, hbr⟩

/-- What the view sees does not depend on a block that it does not see. -/
theorem Rel.unseen (R : Rel ι h w) {D : Nat} {d : Option (List Deferred)} (hD : w.heap[D]? = some (.deferred d)) (o : Obj) :
    Rel ι h (w.putObj D o) := by
  have hcell : ∀ (a : Addr) v, w.cell? a = some v → (w.putObj D o).cell? a = some v := by
    intro a v ha
    rw [cell_putObj]
    · exact ha
    · intro e
      unfold World.cell? at ha
      rw [e, hD] at ha
      simp at ha
  refine ⟨R.lt, fun b y hb => by rw [World.putObj_size]; exact R.real b y hb, fun b c hb i u hu => ?_, fun b c hb => ?_, fun b l hb => ?_, R.sep⟩
  · obtain ⟨h1, v, h2, h3⟩ := R.ro b c hb i u hu
    exact ⟨h1, v, hcell _ _ h2, h3⟩
  · obtain ⟨h1, h2, h3⟩ := R.rw b c hb
    refine ⟨h1, fun i hi => ?_, fun i u hu => ?_⟩
    · obtain ⟨⟨v, h4⟩, h5⟩ := h2 i hi
      refine ⟨⟨v, hcell _ _ h4⟩, ?_⟩
      rw [frozen_putObj]
      · exact h5
      · intro e
        unfold World.cell? at h4
        rw [e, hD] at h4
        simp at h4
    · obtain ⟨h4, v, h5, h6⟩ := h3 i u hu
      exact ⟨h4, v, hcell _ _ h5, h6⟩
  · obtain ⟨y, h1, ⟨rt, d', fn, h2, h3⟩⟩ := R.loop b l hb
    refine ⟨y, ?_, ⟨rt, d', fn, h2, h3⟩⟩
    rw [World.putObj_heap_other]
    · exact h1
    · intro e; rw [e, hD] at h1; injection h1 with h1; subst h1; cases h2
end Go.Proofs.Ytfdapegcngmknaa.AM
