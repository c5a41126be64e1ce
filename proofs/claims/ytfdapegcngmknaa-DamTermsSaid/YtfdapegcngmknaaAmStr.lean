/- A block that is only read comes into view; the bytes of a string. Conditions: none. -/
import Derived.Test.YtfdapegcngmknaaAmWev2
import Derived.Laws.IdiomStrings
namespace Go.Proofs.Ytfdapegcngmknaa.AM
open Go Go.RowKit
variable {ι : Iota} {h : AHeap} {w : World}

/-- A block that nobody turns comes into view. -/
theorem Rel.addRo (R : Rel ι h w) {L : Loc} {c : List Value} (hr : L.r < w.heap.size) (hn : ¬ MutAt ι h L.r)
    (hc : ∀ (i : Nat) (u : Value), c[i]? = some u → u.oneCell' = true ∧ ∃ v, w.cell? ⟨L.r, L.f + i, none⟩ = some v ∧ VR ι h.next u v) :
    Rel (upd ι h.next L) (h.alloc (.ro c)) w ∧ Ext ι h w (upd ι h.next L) (h.alloc (.ro c)) w := by
  have hget : ∀ x, (h.alloc (.ro c)).get x = if x = h.next then some (.ro c) else h.get x := fun x => by rw [AHeap.get_alloc]; rfl
  have hmore : ∀ {u v}, VR ι h.next u v → VR (upd ι h.next L) (h.next + 1) u v := fun hv => hv.more (by omega) fun b hb => upd_lt _ _ hb
  refine ⟨⟨?_, ?_, ?_, ?_, ?_, ?_⟩, ⟨by simp, fun b hb => upd_lt _ _ hb, Nat.le_refl _, ?_, rfl, rfl, rfl⟩⟩
  · intro b y hb
    rw [hget] at hb
    split at hb
    · rename_i e; subst e; simp
    · have := R.lt b y hb; simp; omega
  · intro b y hb
    rw [hget] at hb
    split at hb
    · rename_i e; subst e; rw [upd_same]; exact hr
    · rename_i hne; rw [upd_ne _ _ hne]; exact R.real b y hb
  · intro b x hb i u hu
    rw [hget] at hb
    split at hb
    · rename_i e; subst e
      injection hb with hb; injection hb with hb; subst hb
      rw [upd_same]
      obtain ⟨h1, v, h2, h3⟩ := hc i u hu
      exact ⟨h1, v, h2, hmore h3⟩
    · rename_i hne
      rw [upd_ne _ _ hne]
      obtain ⟨h1, v, h2, h3⟩ := R.ro b x hb i u hu
      exact ⟨h1, v, h2, hmore h3⟩
  · intro b x hb
    rw [hget] at hb
    split at hb
    · cases hb
    · rename_i hne
      obtain ⟨h1, h2, h3⟩ := R.rw b x hb
      rw [upd_ne _ _ hne]
      refine ⟨h1, h2, fun i u hu => ?_⟩
      rw [upd_ne _ _ hne]
      obtain ⟨h4, v, h5, h6⟩ := h3 i u hu
      exact ⟨h4, v, h5, hmore h6⟩
  · intro b l hb
    rw [hget] at hb
    split at hb
    · cases hb
    · rename_i hne
      rw [upd_ne _ _ hne]
      obtain ⟨y, h1, ⟨rt, d, fn, h2, h3, h4⟩⟩ := R.loop b l hb
      exact ⟨y, h1, ⟨rt, d, fn, h2, fun t u hu => let ⟨v, h6, h7⟩ := h3 t u hu; ⟨v, h6, hmore h7⟩, h4⟩⟩
  · intro b y b' y' hb hm hb' hne
    rw [hget] at hb hb'
    split at hb
    · injection hb with hb; subst hb; cases hm
    · rename_i hbn
      rw [upd_ne _ _ hbn]
      split at hb'
      · rename_i e; subst e
        rw [upd_same]
        exact fun e => hn ⟨b, y, hb, hm, e.symm⟩
      · rename_i hbn'
        rw [upd_ne _ _ hbn']
        exact R.sep b y b' y' hb hm hb' hne
  · intro r _ hnm
    refine ⟨rfl, ?_⟩
    rintro ⟨b, y, hb, hm, hbr⟩
    rw [hget] at hb
    split at hb
    · injection hb with hb; subst hb; cases hm
    · rename_i hne; rw [upd_ne _ _ hne] at hbr; exact hnm ⟨b, y, hb, hm, hbr⟩

/-- Something is laid that the view does not see. -/
theorem Rel.junk (R : Rel ι h w) (o : Obj) : Rel ι h (w.alloc o) ∧ Ext ι h w ι h (w.alloc o) := by
  have hcell : ∀ (a : Addr), a.block < w.heap.size → (w.alloc o).cell? a = w.cell? a := fun a ha => World.cell?_alloc_lt _ _ _ ha
  have hheap : ∀ r, r < w.heap.size → (w.alloc o).heap[r]? = w.heap[r]? := fun r hr => by
    show (w.heap.push o)[r]? = _
    simp [Array.getElem?_push, Nat.ne_of_lt hr]
  refine ⟨⟨R.lt, fun b y hb => ?_, fun b c hb i u hu => ?_, fun b c hb => ?_, fun b l hb => ?_, R.sep⟩, ⟨Nat.le_refl _, fun _ _ => rfl, by simp, fun r hr hn => ⟨hheap r hr, hn⟩, rfl, rfl, rfl⟩⟩
  · have := R.real b y hb; rw [World.size_alloc]; omega
  · obtain ⟨h1, v, h2, h3⟩ := R.ro b c hb i u hu
    exact ⟨h1, v, by rw [hcell _ (R.real b _ hb)]; exact h2, h3⟩
  · obtain ⟨h1, h2, h3⟩ := R.rw b c hb
    refine ⟨h1, fun i hi => ?_, fun i u hu => ?_⟩
    · obtain ⟨⟨v, h4⟩, h5⟩ := h2 i hi
      refine ⟨⟨v, by rw [hcell _ (R.real b _ hb)]; exact h4⟩, ?_⟩
      rw [← h5]
      unfold World.frozen?
      rw [hheap _ (R.real b _ hb)]
    · obtain ⟨h4, v, h5, h6⟩ := h3 i u hu
      exact ⟨h4, v, by rw [hcell _ (R.real b _ hb)]; exact h5, h6⟩
  · obtain ⟨y, h1, h2⟩ := R.loop b l hb
    exact ⟨y, by rw [hheap _ (R.real b _ hb)]; exact h1, h2⟩

theorem s2b_sim {E : Env} {s : St} {a : Act} {o : Oper} {x : Opd} {r : Option Value × AHeap} (hc : ∃ src dst e y, o.op = .convert src dst y ∧ E.P.underlying src = some .string ∧ E.P.underlying dst = some (.slice e) ∧ E.P.underlying e = some (.int .u8) ∧ copd E y = some x)
    (R : Rel ι s.h w) (T : TR ι s.h.next s.t a.tmps) (he : wev E s (.s2b x) = some r) : Done E ι s a w o r := by
  obtain ⟨src, dst, e, y, ho, hs, hd, hu, hy⟩ := hc
  simp only [wev] at he
  obtain ⟨b, h1, he⟩ := bind_some he
  obtain ⟨v, h2, h3⟩ := bind_some h1
  injection he with he; subst he
  have hv := ((ev_sim hy T h2).str_of h3).2
  have hrun := run_bytes_of_string (P := E.P) w src dst e b hs hd hu
  obtain ⟨R1, X1⟩ := R.drew.junk (.cells (bytesRow b (grownCap w b.size 0 e)) e ((bytesRow b (grownCap w b.size 0 e)).size, (bytesRow b (grownCap w b.size 0 e)).size + 1))
  have hsz : w.drew.heap.size = w.heap.size := rfl
  have X1' : Ext ι s.h w ι s.h (w.drew.alloc (.cells (bytesRow b (grownCap w b.size 0 e)) e ((bytesRow b (grownCap w b.size 0 e)).size, (bytesRow b (grownCap w b.size 0 e)).size + 1))) := ((Ext.refl ι s.h w).drew).trans X1
  have hcap : b.size ≤ grownCap w b.size 0 e := by simp only [grownCap, Question.cut]; exact Nat.le_add_right _ _
  obtain ⟨R2, X2⟩ := R1.addRo (L := ⟨w.heap.size, 0, 0⟩) (c := b.data.toList.map fun x => .int .u8 x.toNat) (by simp [hsz]) (fun ⟨c, y, hc, hm, hr⟩ => by have := R.real c y hc; simp at hr; omega) (fun i u hu => by
    have hcell := World.cell?_alloc_mark w.drew (bytesRow b (grownCap w b.size 0 e)) e ((bytesRow b (grownCap w b.size 0 e)).size, (bytesRow b (grownCap w b.size 0 e)).size + 1) (0 + i)
    rw [hsz] at hcell
    rw [hcell]
    rw [List.getElem?_map, Option.map_eq_some_iff] at hu
    obtain ⟨z, hz, rfl⟩ := hu
    refine ⟨rfl, _, ?_, .int _ _⟩
    have hi : i < b.data.size := by have := (List.getElem?_eq_some_iff.1 hz).1; simpa using this
    simp only [bytesRow, Nat.zero_add]
    rw [Array.getElem?_append_left (by simpa using hi), Array.getElem?_map]
    have : b.data[i]? = some z := by simpa using hz
    rw [this]; rfl)
  refine ⟨_, _, .value (.slice (some ⟨w.heap.size, 0, none⟩) b.size (grownCap w b.size 0 e)), ?_, ⟨_, rfl, ?_⟩, R2, X1'.trans X2⟩
  · simp only [execOp, ho, hv, Sem.run_bind, hrun, Result.andThen, Sem.run_pure]
  · exact .slice s.h.next 0 b.size 1 ⟨w.heap.size, 0, none⟩ _ (by simp) (.inr (by rw [upd_same])) hcap (fun e => by cases e) (fun z e => by omega)
end Go.Proofs.Ytfdapegcngmknaa.AM
