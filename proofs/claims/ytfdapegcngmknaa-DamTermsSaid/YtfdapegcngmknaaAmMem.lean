/- Memory, abstract and real: loads, stores, new blocks, a row that grows in place. Conditions: none. -/
import Derived.Test.YtfdapegcngmknaaAmBase
import Derived.Laws.Cells
namespace Go.Proofs.Ytfdapegcngmknaa.AM
open Go Go.RowKit

def AObj.row : AObj → Option (List Value)
  | .ro c => some c
  | .rw c => some c
  | _ => none

def AHeap.row (h : AHeap) (b : Nat) : Option (List Value) := (h.get b).bind AObj.row

def setCells : List Value → Nat → List Value → List Value
  | c, _, [] => c
  | c, o, v :: vs => setCells (c.set o v) (o + 1) vs

def upd (ι : Iota) (b : Nat) (l : Loc) : Iota := fun x => if x = b then l else ι x

theorem upd_same (ι : Iota) (b : Nat) (l : Loc) : upd ι b l b = l := by simp [upd]
theorem upd_ne (ι : Iota) {b x : Nat} (l : Loc) (h : x ≠ b) : upd ι b l x = ι x := by simp [upd, h]
theorem upd_lt (ι : Iota) {N x : Nat} (l : Loc) (h : x < N) : upd ι N l x = ι x := upd_ne ι l (by omega)

theorem live_eq {o o' : AObj} (h : o.live = some o') : o = o' := by cases o <;> simp [AObj.live] at h <;> exact h

section
variable {ι : Iota} {h : AHeap} {w : World}

theorem Rel.row (R : Rel ι h w) {b : Nat} {c : List Value} (hb : h.row b = some c) : b < h.next ∧ CR ι h.next b c w := by
  unfold AHeap.row at hb
  cases hg : h.get b with
  | none => simp [hg] at hb
  | some o =>
    refine ⟨R.lt b o hg, ?_⟩
    cases o with
    | ro c' => simp [hg, AObj.row] at hb; subst hb; exact R.ro b _ hg
    | rw c' => simp [hg, AObj.row] at hb; subst hb; exact (R.rw b _ hg).2.2
    | dead => simp [hg, AObj.row] at hb
    | loop l => simp [hg, AObj.row] at hb

theorem VR.oneCell {N : Nat} {u v : Value} (hv : VR ι N u v) (h1 : u.oneCell' = true) : v.oneCell' = true := by
  cases hv <;> simp [Value.oneCell'] at h1 ⊢

/-- A cell of a block that is held alone is written: one that lay, or the next one in the room that is left. -/
theorem Rel.set (R : Rel ι h w) {b o : Nat} {c c' : List Value} {u v : Value} (hb : h.get b = some (.rw c)) (ho : o < (ι b).tot) (hl : c'.length ≤ (ι b).tot)
    (hc : ∀ (i : Nat) (x : Value), c'[i]? = some x → (i = o ∧ x = u) ∨ (i ≠ o ∧ c[i]? = some x)) (hv : VR ι h.next u v) (hone : u.oneCell' = true) :
    Rel ι (h.put b (.rw c')) (w.setCell ⟨(ι b).r, (ι b).f + o, none⟩ v) ∧ Ext ι h w ι (h.put b (.rw c')) (w.setCell ⟨(ι b).r, (ι b).f + o, none⟩ v) := by
  have hblt := R.lt b _ hb
  obtain ⟨hlen, htot, hCR⟩ := R.rw b c hb
  obtain ⟨⟨v0, hv0⟩, hfz0⟩ := htot o ho
  have hget : ∀ x, (h.put b (.rw c')).get x = if x = b then some (.rw c') else h.get x := fun x => by rw [AHeap.get_put]; rfl
  have hfar : ∀ b' o', h.get b' = some o' → b' ≠ b → ∀ i, (w.setCell ⟨(ι b).r, (ι b).f + o, none⟩ v).cell? ⟨(ι b').r, (ι b').f + i, none⟩ = w.cell? ⟨(ι b').r, (ι b').f + i, none⟩ := fun b' o' hb' hne i =>
    World.cell?_setCell_other _ _ _ _ (fun heq => R.sep b _ b' o' hb rfl hb' hne (by injection heq with h1; exact h1.symm))
  refine ⟨⟨?_, ?_, ?_, ?_, ?_, ?_⟩, ⟨Nat.le_refl _, fun _ _ => rfl, by simp, ?_, rfl, rfl, rfl⟩⟩
  · intro x y hx
    rw [hget] at hx
    by_cases hxb : x = b
    · subst hxb; exact hblt
    · rw [if_neg hxb] at hx; exact R.lt x y hx
  · intro x y hx
    rw [hget] at hx
    rw [World.size_setCell]
    by_cases hxb : x = b
    · subst hxb; exact R.real x _ hb
    · rw [if_neg hxb] at hx; exact R.real x y hx
  · intro x cx hx i y hy
    rw [hget] at hx
    by_cases hxb : x = b
    · rw [if_pos hxb] at hx; cases hx
    · rw [if_neg hxb] at hx
      obtain ⟨h0, z, h1, h2⟩ := R.ro x cx hx i y hy
      exact ⟨h0, z, by rw [hfar x _ hx hxb]; exact h1, h2⟩
  · intro x cx hx
    rw [hget] at hx
    by_cases hxb : x = b
    · rw [if_pos hxb] at hx
      injection hx with hx
      injection hx with h2
      subst h2; subst hxb
      refine ⟨hl, fun i hi => ⟨?_, by rw [World.frozen?_setCell]; exact (htot i hi).2⟩, fun i y hy => ?_⟩
      · by_cases hio : i = o
        · subst hio; exact ⟨v, World.cell?_setCell_same _ _ _ hv0⟩
        · obtain ⟨z, hz⟩ := (htot i hi).1
          exact ⟨z, by rw [World.cell?_setCell_other _ _ _ _ (fun heq => hio (by injection heq with _ h2; omega))]; exact hz⟩
      · rcases hc i y hy with ⟨rfl, rfl⟩ | ⟨hio, hy'⟩
        · exact ⟨hone, v, World.cell?_setCell_same _ _ _ hv0, hv⟩
        · obtain ⟨h0, z, h1, h2⟩ := hCR i y hy'
          exact ⟨h0, z, by rw [World.cell?_setCell_other _ _ _ _ (fun heq => hio (by injection heq with _ h2; omega))]; exact h1, h2⟩
    · rw [if_neg hxb] at hx
      obtain ⟨h2, h4, h5⟩ := R.rw x cx hx
      exact ⟨h2, fun i hi => ⟨by rw [hfar x _ hx hxb]; exact (h4 i hi).1, by rw [World.frozen?_setCell]; exact (h4 i hi).2⟩,
        fun i y hy => by obtain ⟨h0, z, h6, h7⟩ := h5 i y hy; exact ⟨h0, z, by rw [hfar x _ hx hxb]; exact h6, h7⟩⟩
  · intro x l hx
    rw [hget] at hx
    by_cases hxb : x = b
    · rw [if_pos hxb] at hx; cases hx
    · rw [if_neg hxb] at hx
      obtain ⟨ob, h1, h2⟩ := R.loop x l hx
      exact ⟨ob, by rw [Below.heap_setCell _ _ _ _ (R.sep b _ x _ hb rfl hx hxb)]; exact h1, h2⟩
  · intro x ox y oy hx hm hy hne
    rw [hget] at hx hy
    have hx' : ∃ o2, h.get x = some o2 ∧ o2.isMut = true := by
      by_cases hxb : x = b
      · subst hxb; exact ⟨_, hb, rfl⟩
      · rw [if_neg hxb] at hx; exact ⟨_, hx, hm⟩
    have hy' : ∃ o2, h.get y = some o2 := by
      by_cases hyb : y = b
      · subst hyb; exact ⟨_, hb⟩
      · rw [if_neg hyb] at hy; exact ⟨_, hy⟩
    obtain ⟨o1, h1, h2⟩ := hx'
    obtain ⟨o2, h3⟩ := hy'
    exact R.sep x o1 y o2 h1 h2 h3 hne
  · intro r hr' hn
    refine ⟨Below.heap_setCell _ _ _ _ (fun heq => hn ⟨b, _, hb, rfl, heq.symm⟩), ?_⟩
    rintro ⟨x, ox, hx, hm, hxr⟩
    rw [hget] at hx
    by_cases hxb : x = b
    · subst hxb; exact hn ⟨x, _, hb, rfl, hxr⟩
    · rw [if_neg hxb] at hx; exact hn ⟨x, ox, hx, hm, hxr⟩

/-- A new block of cells. -/
theorem Rel.new (R : Rel ι h w) {c : List Value} {cs : Array Value} {t : TypeId} (hl : c.length ≤ cs.size)
    (hc : ∀ (i : Nat) (u : Value), c[i]? = some u → u.oneCell' = true ∧ ∃ v, cs[i]? = some v ∧ VR ι h.next u v) :
    Rel (upd ι h.next ⟨w.heap.size, 0, cs.size⟩) (h.alloc (.rw c)) (w.alloc (.cells cs t)) ∧
    Ext ι h w (upd ι h.next ⟨w.heap.size, 0, cs.size⟩) (h.alloc (.rw c)) (w.alloc (.cells cs t)) := by
  have hget : ∀ x, (h.alloc (.rw c)).get x = if x = h.next then some (.rw c) else h.get x := fun x => by rw [AHeap.get_alloc]; rfl
  have hlt : ∀ x o, h.get x = some o → x ≠ h.next ∧ x < h.next := fun x o hx => ⟨by have := R.lt x o hx; omega, R.lt x o hx⟩
  have hmono : ∀ {u v}, VR ι h.next u v → VR (upd ι h.next ⟨w.heap.size, 0, cs.size⟩) (h.next + 1) u v := fun hv => hv.more (by omega) fun b hb => upd_lt _ _ hb
  refine ⟨⟨?_, ?_, ?_, ?_, ?_, ?_⟩, ⟨by simp, fun b hb => upd_lt _ _ hb, by simp, ?_, rfl, rfl, rfl⟩⟩
  · intro x y hx
    rw [hget] at hx
    by_cases hxb : x = h.next
    · subst hxb; simp
    · rw [if_neg hxb] at hx; have := R.lt x y hx; simp; omega
  · intro x y hx
    rw [hget] at hx
    rw [World.size_alloc]
    by_cases hxb : x = h.next
    · subst hxb; rw [upd_same]; exact Nat.lt_succ_self _
    · rw [if_neg hxb] at hx; rw [upd_ne _ _ hxb]; have := R.real x y hx; omega
  · intro x cx hx i y hy
    rw [hget] at hx
    by_cases hxb : x = h.next
    · rw [if_pos hxb] at hx; cases hx
    · rw [if_neg hxb] at hx
      obtain ⟨h0, z, h1, h2⟩ := R.ro x cx hx i y hy
      rw [upd_ne _ _ hxb]
      exact ⟨h0, z, by rw [World.cell?_alloc_lt _ _ _ (World.block_lt_of_cell? _ _ h1)]; exact h1, hmono h2⟩
  · intro x cx hx
    rw [hget] at hx
    by_cases hxb : x = h.next
    · rw [if_pos hxb] at hx
      injection hx with hx
      injection hx with h2
      subst h2; subst hxb
      rw [upd_same]
      refine ⟨hl, fun i hi => ⟨⟨cs[i]'hi, by simp [Array.getElem?_eq_getElem hi]⟩, by simp⟩, fun i y hy => ?_⟩
      obtain ⟨h0, z, h1, h2⟩ := hc i y hy
      rw [upd_same]
      exact ⟨h0, z, by simpa using h1, hmono h2⟩
    · rw [if_neg hxb] at hx
      obtain ⟨h2, h4, h5⟩ := R.rw x cx hx
      have h3 := R.real x _ hx
      rw [upd_ne _ _ hxb]
      refine ⟨h2, fun i hi => ⟨by rw [World.cell?_alloc_lt _ _ _ h3]; exact (h4 i hi).1, by rw [World.frozen?_alloc_old _ _ _ (Nat.ne_of_lt h3)]; exact (h4 i hi).2⟩, fun i y hy => ?_⟩
      obtain ⟨h0, z, h6, h7⟩ := h5 i y hy
      rw [upd_ne _ _ hxb]
      exact ⟨h0, z, by rw [World.cell?_alloc_lt _ _ _ h3]; exact h6, hmono h7⟩
  · intro x l hx
    rw [hget] at hx
    by_cases hxb : x = h.next
    · rw [if_pos hxb] at hx; cases hx
    · rw [if_neg hxb] at hx
      obtain ⟨ob, h1, ⟨rt, d, fn, hob, ht, hz⟩⟩ := R.loop x l hx
      rw [upd_ne _ _ hxb]
      exact ⟨ob, by rw [Below.heap_alloc _ _ _ (Array.getElem?_eq_some_iff.1 h1).1]; exact h1, ⟨rt, d, fn, hob, fun t u hu => let ⟨v, h6, h7⟩ := ht t u hu; ⟨v, h6, hmono h7⟩, hz⟩⟩
  · intro x ox y oy hx hm hy hne
    rw [hget] at hx hy
    by_cases hxb : x = h.next
    · have hyb : y ≠ h.next := fun hh => hne (hh.trans hxb.symm)
      rw [if_neg hyb] at hy
      subst hxb
      rw [upd_same, upd_ne _ _ hyb]
      exact Nat.ne_of_lt (R.real y oy hy)
    · rw [if_neg hxb] at hx
      rw [upd_ne _ _ hxb]
      by_cases hyb : y = h.next
      · subst hyb; rw [upd_same]; exact Nat.ne_of_gt (R.real x ox hx)
      · rw [if_neg hyb] at hy; rw [upd_ne _ _ hyb]; exact R.sep x ox y oy hx hm hy hne
  · intro r hr hn
    refine ⟨Below.heap_alloc _ _ _ hr, ?_⟩
    rintro ⟨x, ox, hx, hm, hxr⟩
    rw [hget] at hx
    by_cases hxb : x = h.next
    · subst hxb; rw [upd_same] at hxr; simp at hxr; omega
    · rw [if_neg hxb] at hx; rw [upd_ne _ _ hxb] at hxr; exact hn ⟨x, ox, hx, hm, hxr⟩

end
end Go.Proofs.Ytfdapegcngmknaa.AM
