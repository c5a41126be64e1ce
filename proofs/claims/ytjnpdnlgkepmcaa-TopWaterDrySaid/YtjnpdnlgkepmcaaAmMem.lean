/- Memory, abstract and real: loads, stores, new blocks, what is known for good, room behind a slice. Conditions: none. -/
import Derived.Test.YtjnpdnlgkepmcaaAmBase
import Derived.Laws.Cells
namespace Go.Proofs.Ytjnpdnlgkepmcaa.AM
set_option linter.unusedSimpArgs false
set_option linter.unusedVariables false
open Go Go.RowKit
def AObj.row : AObj → Option (List Value)
 | .rw c => some c
 | _ => none
def AHeap.row (h : AHeap) (b : Nat) : Option (List Value) := (h.get b).bind AObj.row
def setCells : List Value → Nat → List Value → List Value
 | c, _, [] => c
 | c, o, v :: vs => setCells (c.set o v) (o + 1) vs
def upd (ι : Iota) (b : Nat) (l : Loc) : Iota := { ι with loc := fun x => if x = b then l else ι.loc x }
def updT (ι : Iota) (b : Nat) (t : Tok) : Iota := { ι with tk := fun x => if x = b then t else ι.tk x }
def addIm (ι : Iota) (r : Nat) (g : Nat → Option Value) : Iota := { ι with im := fun x i => (match ι.im x i with | some v => some v | none => if x = r then g i else none), gi := ι.gi.mono fun x i v h => by simp [h] }
theorem upd_same (ι : Iota) (b : Nat) (l : Loc) : upd ι b l b = l := by simp [upd]
theorem upd_ne (ι : Iota) {b x : Nat} (l : Loc) (h : x ≠ b) : upd ι b l x = ι x := by simp [upd, h]
theorem upd_lt (ι : Iota) {N x : Nat} (l : Loc) (h : x < N) : upd ι N l x = ι x := upd_ne ι l (by omega)
theorem Up.upd {ι : Iota} {N : Nat} {l : Loc} : Up N ι (upd ι N l) := ⟨fun b hb => upd_lt _ _ hb, fun _ _ => .inl rfl, fun _ _ _ h => h⟩
theorem Up.updT {ι : Iota} {N : Nat} {t : Tok} : Up N ι (updT ι N t) := ⟨fun _ _ => rfl, fun b hb => by left; simp [AM.updT, Nat.ne_of_lt hb], fun _ _ _ h => h⟩
theorem Up.updT_gt {ι : Iota} {N b : Nat} {t : Tok} (h : (ι.tk b).n < t.n) : Up N ι (AM.updT ι b t) := ⟨fun _ _ => rfl, fun x hx => by
 by_cases hxb : x = b
 · subst hxb; right; simpa [AM.updT] using h
 · left; simp [AM.updT, hxb], fun _ _ _ h => h⟩
theorem Up.imx {ι : Iota} {N r : Nat} {g : Nat → Option Value} : Up N ι (addIm ι r g) := ⟨fun _ _ => rfl, fun _ _ => .inl rfl, fun r i v h => by simp [addIm, h]⟩
theorem imx_old {ι : Iota} {r x i : Nat} {g : Nat → Option Value} (h : x ≠ r) : (addIm ι r g).im x i = ι.im x i := by
 simp only [addIm]; cases ι.im x i <;> simp [h]
theorem imx_new {ι : Iota} {r i : Nat} {g : Nat → Option Value} (h : ι.im r i = none) : (addIm ι r g).im r i = g i := by
 simp [addIm, h]
theorem live_eq {o o' : AObj} (h : o.live = some o') : o = o' := by cases o <;> simp [AObj.live] at h <;> exact h
theorem at_upd {ι : Iota} {b x : Nat} {l : Loc} {o : AObj} (h : x ≠ b) : (upd ι b l).at x o = ι.at x o := by
 cases o <;> simp only [Iota.at, upd_ne _ _ h] <;> rfl
theorem at_updT {ι : Iota} {b x : Nat} {t : Tok} {o : AObj} (h : x ≠ b) : (updT ι b t).at x o = ι.at x o := by
 cases o <;> simp [Iota.at, updT, h]
theorem at_imx {ι : Iota} {r x : Nat} {g : Nat → Option Value} {o : AObj} : (addIm ι r g).at x o = ι.at x o := by
 cases o <;> rfl
theorem TailR.more {t : Tok} {im im' : Nat → Nat → Option Value} {n z : Nat} {w w' : World} (h : TailR t im n z w)
  (hw : t.none = false → ∀ i, i < t.tot → ((∃ v, w.cell? ⟨t.r, i, none⟩ = some v) → ∃ v, w'.cell? ⟨t.r, i, none⟩ = some v) ∧ w'.frozen? ⟨t.r, i, none⟩ = w.frozen? ⟨t.r, i, none⟩)
  (hi : t.none = false → ∀ i, im t.r i = none → im' t.r i = none) : TailR t im' n z w' :=
 ⟨h.hn, h.hz, h.nil, h.z0, fun hf => ⟨(h.room hf).1, fun i hlt => let ⟨h1, h2, h3⟩ := (h.room hf).2 i hlt; ⟨(hw hf i hlt).1 h1, by rw [(hw hf i hlt).2]; exact h2, fun hle => hi hf i (h3 hle)⟩⟩⟩
section
variable {ι : Iota} {h : AHeap} {w : World}
theorem Rel.row (R : Rel ι h w) {b : Nat} {c : List Value} (hb : h.row b = some c) : b < h.next ∧ CR ι h.next b c w := by
  unfold AHeap.row at hb
  cases hg : h.get b with
  | none => simp [hg] at hb
  | some o =>
    refine ⟨R.lt b o hg, ?_⟩
    cases o with
    | rw c' => simp [hg, AObj.row] at hb; subst hb; exact (R.rw b _ hg).2.2
    | dead => simp [hg, AObj.row] at hb
    | tail n z => simp [hg, AObj.row] at hb
    | loop l => simp [hg, AObj.row] at hb
theorem VR.oneCell {N : Nat} {u v : Value} (hv : VR ι N u v) (h1 : u.oneCell' = true) : v.oneCell' = true := by
 induction hv <;> first | rfl | (simp [Value.oneCell'] at h1; done) | skip
 rename_i ih; exact ih rfl
theorem Rel.other (R : Rel ι h w) {b : Nat} {o : AObj} {r : Nat} (hb : h.get b = some o) (ha : ι.at b o = some r) {x : Nat} {ox : AObj} (hx : h.get x = some ox) (hxb : x ≠ b) {rx : Nat} (hrx : ι.at x ox = some rx) : rx ≠ r :=
 fun e => R.sep b o x ox r hb ha hx hxb (by rw [hrx, e])
theorem Rel.set (R : Rel ι h w) {b o : Nat} {c c' : List Value} {u v : Value} (hb : h.get b = some (.rw c)) (ho : o < (ι b).tot) (hl : c'.length ≤ (ι b).tot)
   (hc : ∀ (i : Nat) (x : Value), c'[i]? = some x → (i = o ∧ x = u) ∨ (i ≠ o ∧ c[i]? = some x)) (hv : VR ι h.next u v) (hone : u.oneCell' = true) :
   Rel ι (h.put b (.rw c')) (w.setCell ⟨(ι b).r, (ι b).f + o, none⟩ v) ∧ Ext ι h w ι (h.put b (.rw c')) (w.setCell ⟨(ι b).r, (ι b).f + o, none⟩ v) := by
 have hblt := R.lt b _ hb
 obtain ⟨hlen, htot, hCR⟩ := R.rw b c hb
 obtain ⟨⟨v0, hv0⟩, hfz0, him0⟩ := htot o ho
 have hget : ∀ x, (h.put b (.rw c')).get x = if x = b then some (.rw c') else h.get x := fun x => by rw [AHeap.get_put]; rfl
 have hold : ∀ x ox, (h.put b (.rw c')).get x = some ox → x ≠ b → h.get x = some ox := fun x ox hx hxb => by rw [hget, if_neg hxb] at hx; exact hx
 have hatb : ∀ ox, (h.put b (.rw c')).get b = some ox → ox = .rw c' := fun ox hx => by rw [hget, if_pos rfl] at hx; injection hx with hx; exact hx.symm
 have hcell : ∀ r i, r ≠ (ι b).r → (w.setCell ⟨(ι b).r, (ι b).f + o, none⟩ v).cell? ⟨r, i, none⟩ = w.cell? ⟨r, i, none⟩ := fun r i hne =>
   World.cell?_setCell_other _ _ _ _ (fun heq => hne (by injection heq with h1; exact h1.symm))
 have hcell2 : ∀ i, i ≠ (ι b).f + o → (w.setCell ⟨(ι b).r, (ι b).f + o, none⟩ v).cell? ⟨(ι b).r, i, none⟩ = w.cell? ⟨(ι b).r, i, none⟩ := fun i hne =>
   World.cell?_setCell_other _ _ _ _ (fun heq => hne (by injection heq with _ h1; exact h1.symm))
 have hoth : ∀ x ox rx, (h.put b (.rw c')).get x = some ox → x ≠ b → ι.at x ox = some rx → rx ≠ (ι b).r := fun x ox rx hx hxb hrx => R.other hb rfl (hold x ox hx hxb) hxb hrx
 refine ⟨⟨?_, ?_, ?_, ?_, ?_, ?_, ?_, R.gb.setCell _ _⟩, ⟨Nat.le_refl _, .refl, by simp, ?_, fun _ _ _ _ => rfl, rfl, rfl, rfl⟩⟩
 · intro x y hx
   by_cases hxb : x = b
   · subst hxb; exact hblt
   · exact R.lt x y (hold x y hx hxb)
 · intro x y r hx hr
   rw [World.size_setCell]
   by_cases hxb : x = b
   · subst hxb; obtain rfl := hatb y hx; exact R.real x _ r hb hr
   · exact R.real x y r (hold x y hx hxb) hr
 · intro x cx hx
   by_cases hxb : x = b
   · subst hxb
     have := hatb _ hx
     injection this with this; subst this
     refine ⟨hl, fun i hi => ⟨?_, by rw [World.frozen?_setCell]; exact (htot i hi).2⟩, fun i y hy => ?_⟩
     · by_cases hio : i = o
       · subst hio; exact ⟨v, World.cell?_setCell_same _ _ _ hv0⟩
       · obtain ⟨z, hz⟩ := (htot i hi).1
         exact ⟨z, by rw [hcell2 _ (by omega)]; exact hz⟩
     · rcases hc i y hy with ⟨rfl, rfl⟩ | ⟨hio, hy'⟩
       · exact ⟨hone, v, World.cell?_setCell_same _ _ _ hv0, hv⟩
       · obtain ⟨h0, z, h1, h2⟩ := hCR i y hy'
         exact ⟨h0, z, by rw [hcell2 _ (by omega)]; exact h1, h2⟩
   · have hne := hoth x _ _ hx hxb rfl
     obtain ⟨h2, h4, h5⟩ := R.rw x cx (hold x _ hx hxb)
     exact ⟨h2, fun i hi => ⟨by rw [hcell _ _ hne]; exact (h4 i hi).1, by rw [World.frozen?_setCell]; exact (h4 i hi).2⟩, h5.more (Nat.le_refl _) .refl rfl fun i z hz => by rw [hcell _ _ hne]; exact hz⟩
 · intro x n z hx
   have hxb : x ≠ b := fun e => by subst e; cases hatb _ hx
   have hT := R.tail x n z (hold x _ hx hxb)
   refine hT.more (fun hf i hi => ?_) (fun _ _ h => h)
   have hne := hoth x _ (ι.tk x).r hx hxb (by simp [Iota.at, hf])
   rw [hcell _ _ hne, World.frozen?_setCell]
   exact ⟨fun h => h, rfl⟩
 · intro x l hx
   have hxb : x ≠ b := fun e => by subst e; cases hatb _ hx
   obtain ⟨ob, h1, h2⟩ := R.loop x l (hold x _ hx hxb)
   exact ⟨ob, by rw [Below.heap_setCell _ _ _ _ (hoth x _ _ hx hxb rfl)]; exact h1, h2⟩
 · intro x ox y oy r hx hm hy hne
   have hx' : ∃ o2, h.get x = some o2 ∧ ι.at x o2 = some r := by
     by_cases hxb : x = b
     · subst hxb; obtain rfl := hatb ox hx; exact ⟨_, hb, hm⟩
     · exact ⟨_, hold x ox hx hxb, hm⟩
   obtain ⟨o1, h1, h2⟩ := hx'
   by_cases hyb : y = b
   · subst hyb; obtain rfl := hatb oy hy; exact R.sep x o1 y (.rw c) r h1 h2 hb hne
   · exact R.sep x o1 y oy r h1 h2 (hold y oy hy hyb) hne
 · intro r i y hy
   by_cases hr : r = (ι b).r
   · subst hr
     rw [hcell2 i (fun e => by rw [e, him0] at hy; cases hy)]
     exact R.im _ _ _ hy
   · rw [hcell _ _ hr]; exact R.im _ _ _ hy
 · intro r hr' hn
   refine ⟨Below.heap_setCell _ _ _ _ (fun heq => hn ⟨b, _, hb, by rw [heq]; rfl⟩), ?_⟩
   rintro ⟨x, ox, hx, hm⟩
   by_cases hxb : x = b
   · subst hxb; obtain rfl := hatb ox hx; exact hn ⟨x, _, hb, hm⟩
   · exact hn ⟨x, ox, hold x ox hx hxb, hm⟩
theorem Rel.setTail (R : Rel ι h w) {b n z o : Nat} {v : Value} (hb : h.get b = some (.tail n z)) (hf : (ι.tk b).none = false) (hle : n * z ≤ o) (ho : o < (ι.tk b).tot) :
   Rel ι h (w.setCell ⟨(ι.tk b).r, o, none⟩ v) ∧ Ext ι h w ι h (w.setCell ⟨(ι.tk b).r, o, none⟩ v) ∧ (w.setCell ⟨(ι.tk b).r, o, none⟩ v).cell? ⟨(ι.tk b).r, o, none⟩ = some v := by
 obtain ⟨hroom, hall⟩ := (R.tail b n z hb).room hf
 obtain ⟨⟨v0, hv0⟩, hfz0, him0⟩ := hall o ho
 have hat : ι.at b (.tail n z) = some (ι.tk b).r := by simp [Iota.at, hf]
 have hcell : ∀ r i, r ≠ (ι.tk b).r → (w.setCell ⟨(ι.tk b).r, o, none⟩ v).cell? ⟨r, i, none⟩ = w.cell? ⟨r, i, none⟩ := fun r i hne =>
   World.cell?_setCell_other _ _ _ _ (fun heq => hne (by injection heq with h1; exact h1.symm))
 have hcell2 : ∀ i, i ≠ o → (w.setCell ⟨(ι.tk b).r, o, none⟩ v).cell? ⟨(ι.tk b).r, i, none⟩ = w.cell? ⟨(ι.tk b).r, i, none⟩ := fun i hne =>
   World.cell?_setCell_other _ _ _ _ (fun heq => hne (by injection heq with _ h1; exact h1.symm))
 have hoth : ∀ x ox rx, h.get x = some ox → x ≠ b → ι.at x ox = some rx → rx ≠ (ι.tk b).r := fun x ox rx hx hxb hrx => R.other hb hat hx hxb hrx
 refine ⟨⟨R.lt, fun x y r hx hr => by rw [World.size_setCell]; exact R.real x y r hx hr, ?_, ?_, ?_, R.sep, ?_, R.gb.setCell _ _⟩, ⟨Nat.le_refl _, .refl, by simp, fun r hr hn => ⟨?_, hn⟩, fun _ _ _ _ => rfl, rfl, rfl, rfl⟩, World.cell?_setCell_same _ _ _ hv0⟩
 · intro x cx hx
   have hxb : x ≠ b := fun e => by subst e; rw [hb] at hx; cases hx
   have hne := hoth x _ _ hx hxb rfl
   obtain ⟨h2, h4, h5⟩ := R.rw x cx hx
   exact ⟨h2, fun i hi => ⟨by rw [hcell _ _ hne]; exact (h4 i hi).1, by rw [World.frozen?_setCell]; exact (h4 i hi).2⟩, h5.more (Nat.le_refl _) .refl rfl fun i z hz => by rw [hcell _ _ hne]; exact hz⟩
 · intro x n' z' hx
   by_cases hxb : x = b
   · subst hxb
     refine (R.tail x n' z' hx).more (fun hf i hi => ⟨fun ⟨y, hy⟩ => ?_, by rw [World.frozen?_setCell]⟩) (fun _ _ h => h)
     by_cases hio : i = o
     · subst hio; exact ⟨v, World.cell?_setCell_same _ _ _ hv0⟩
     · exact ⟨y, by rw [hcell2 _ hio]; exact hy⟩
   · refine (R.tail x n' z' hx).more (fun hf' i hi => ?_) (fun _ _ h => h)
     have hne := hoth x _ (ι.tk x).r hx hxb (by simp [Iota.at, hf'])
     rw [hcell _ _ hne, World.frozen?_setCell]
     exact ⟨fun h => h, rfl⟩
 · intro x l hx
   have hxb : x ≠ b := fun e => by subst e; rw [hb] at hx; cases hx
   obtain ⟨ob, h1, h2⟩ := R.loop x l hx
   exact ⟨ob, by rw [Below.heap_setCell _ _ _ _ (hoth x _ _ hx hxb rfl)]; exact h1, h2⟩
 · intro r i y hy
   by_cases hr : r = (ι.tk b).r
   · subst hr
     rw [hcell2 i (fun e => by subst e; rw [him0 hle] at hy; cases hy)]
     exact R.im _ _ _ hy
   · rw [hcell _ _ hr]; exact R.im _ _ _ hy
 · exact Below.heap_setCell _ _ _ _ (fun heq => hn ⟨b, _, hb, by rw [heq]; exact hat⟩)
theorem Rel.junk (R : Rel ι h w) (o : Obj) : Rel ι h (w.alloc o) ∧ Ext ι h w ι h (w.alloc o) := by
 have hcell : ∀ (a : Addr), a.block < w.heap.size → (w.alloc o).cell? a = w.cell? a := fun a ha => World.cell?_alloc_lt _ _ _ ha
 have hheap : ∀ r, r < w.heap.size → (w.alloc o).heap[r]? = w.heap[r]? := fun r hr => by
   show (w.heap.push o)[r]? = _
   simp [Array.getElem?_push, Nat.ne_of_lt hr]
 have hfz : ∀ (a : Addr), a.block < w.heap.size → (w.alloc o).frozen? a = w.frozen? a := fun a ha => by unfold World.frozen?; rw [hheap _ ha]
 refine ⟨⟨R.lt, fun b y r hb hr => ?_, fun b c hb => ?_, fun b n z hb => ?_, fun b l hb => ?_, R.sep, fun r i v hv => ?_, R.gb.alloc o⟩, ⟨Nat.le_refl _, .refl, by simp, fun r hr hn => ⟨hheap r hr, hn⟩, fun _ _ _ _ => rfl, rfl, rfl, rfl⟩⟩
 · have := R.real b y r hb hr; rw [World.size_alloc]; omega
 · obtain ⟨h1, h2, h3⟩ := R.rw b c hb
   have hlt := R.real b _ _ hb rfl
   refine ⟨h1, fun i hi => ?_, h3.more (Nat.le_refl _) .refl rfl fun i z hz => by rw [hcell _ hlt]; exact hz⟩
   obtain ⟨⟨v, h4⟩, h5⟩ := h2 i hi
   exact ⟨⟨v, by rw [hcell _ hlt]; exact h4⟩, by rw [hfz _ hlt]; exact h5⟩
 · refine (R.tail b n z hb).more (fun hf i hi => ?_) (fun _ _ h => h)
   have hlt := R.real b _ (ι.tk b).r hb (by simp [Iota.at, hf])
   rw [hcell _ hlt, hfz _ hlt]
   exact ⟨fun h => h, rfl⟩
 · obtain ⟨y, h1, h2⟩ := R.loop b l hb
   exact ⟨y, by rw [hheap _ (R.real b _ _ hb rfl)]; exact h1, h2⟩
 · rw [hcell _ (R.lt_of_im hv)]; exact R.im r i v hv
theorem Rel.imx (R : Rel ι h w) {r : Nat} {g : Nat → Option Value} (hn : ¬ MutAt ι h r) (hg : ∀ i v, g i = some v → w.cell? ⟨r, i, none⟩ = some v) : Rel (addIm ι r g) h w where
  lt := R.lt
  real b o r' hb hr := R.real b o r' hb (by rw [at_imx] at hr; exact hr)
  rw b c hb := by
    obtain ⟨h1, h2, h3⟩ := R.rw b c hb
    refine ⟨h1, fun i hi => ⟨(h2 i hi).1, (h2 i hi).2.1, ?_⟩, h3.more (Nat.le_refl _) .imx rfl fun _ _ h => h⟩
    have : (ι b).r ≠ r := fun e => hn ⟨b, _, hb, by rw [← e]; rfl⟩
    have h5 := (h2 i hi).2.2
    show (addIm ι r g).im (ι b).r ((ι b).f + i) = none
    rw [imx_old this]; exact h5
  tail b n z hb := (R.tail b n z hb).more (fun _ _ _ => ⟨fun h => h, rfl⟩) fun hf i hi => by
    have : (ι.tk b).r ≠ r := fun e => hn ⟨b, _, hb, by simp [Iota.at, hf, e]⟩
    rw [imx_old this]; exact hi
  loop b l hb := let ⟨o, h1, h2⟩ := R.loop b l hb; ⟨o, h1, h2.more (Nat.le_refl _) .imx⟩
  sep b o b' o' r' hb hr hb' hne := by rw [at_imx] at hr ⊢; exact R.sep b o b' o' r' hb hr hb' hne
  gb := R.gb
  im x i v hv := by
    by_cases hx : x = r
    · subst hx
      cases hi : ι.im x i with
      | some v' => have : (addIm ι x g).im x i = some v' := by simp [addIm, hi]
                   rw [this] at hv; injection hv with hv; subst hv; exact R.im _ _ _ hi
      | none => rw [imx_new hi] at hv; exact hg i v hv
    · rw [imx_old hx] at hv; exact R.im _ _ _ hv
theorem mut_imx {r r' : Nat} {g : Nat → Option Value} : MutAt (addIm ι r g) h r' ↔ MutAt ι h r' :=
 ⟨fun ⟨b, o, h1, h2⟩ => ⟨b, o, h1, by rw [at_imx] at h2; exact h2⟩, fun ⟨b, o, h1, h2⟩ => ⟨b, o, h1, by rw [at_imx]; exact h2⟩⟩
theorem Ext.imx {ι0 : Iota} {h0 : AHeap} {w0 : World} (X : Ext ι0 h0 w0 ι h w) {r : Nat} {g : Nat → Option Value} (hr : w0.heap.size ≤ r ∨ MutAt ι0 h0 r) : Ext ι0 h0 w0 (addIm ι r g) h w :=
 ⟨X.next, X.up.trans .imx X.next, X.size, fun x hx hn => ⟨(X.frame x hx hn).1, fun hm => (X.frame x hx hn).2 (mut_imx.1 hm)⟩, fun x i hx hn => by
  rw [imx_old (fun e => by subst e; rcases hr with hr | hr; omega; exact hn hr)]; exact X.imf x i hx hn, X.os, X.tape, X.output⟩
theorem Rel.addTail (R : Rel ι h w) {t : Tok} {n z : Nat} (hr : t.none = false → t.r < w.heap.size ∧ ¬ MutAt ι h t.r) (ht : TailR t ι.im n z w) : Rel (updT ι h.next t) (h.alloc (.tail n z)) w := by
 have hget : ∀ x, (h.alloc (.tail n z)).get x = if x = h.next then some (.tail n z) else h.get x := fun x => by rw [AHeap.get_alloc]; rfl
 have hold : ∀ x ox, (h.alloc (.tail n z)).get x = some ox → x ≠ h.next → h.get x = some ox := fun x ox hx hxb => by rw [hget, if_neg hxb] at hx; exact hx
 have hnew : ∀ ox, (h.alloc (.tail n z)).get h.next = some ox → ox = .tail n z := fun ox hx => by rw [hget, if_pos rfl] at hx; injection hx with hx; exact hx.symm
 have htk : (updT ι h.next t).tk h.next = t := by simp [updT]
 have htk' : ∀ x, x ≠ h.next → (updT ι h.next t).tk x = ι.tk x := fun x hx => by simp [updT, hx]
 have hat : ∀ rr, (updT ι h.next t).at h.next (.tail n z) = some rr → t.none = false ∧ t.r = rr := fun rr hh => by
   simp only [Iota.at, htk] at hh
   split at hh
   · cases hh
   · rename_i e; injection hh with hh; exact ⟨by simpa using e, hh⟩
 refine ⟨?_, ?_, ?_, ?_, ?_, ?_, R.im, R.gb⟩
 · intro b o hb
   by_cases e : b = h.next
   · subst e; simp
   · have := R.lt b o (hold b o hb e); simp; omega
 · intro b o r hb hrr
   by_cases e : b = h.next
   · subst e; obtain rfl := hnew o hb; obtain ⟨h1, h2⟩ := hat r hrr; rw [← h2]; exact (hr h1).1
   · rw [at_updT e] at hrr; exact R.real b o r (hold b o hb e) hrr
 · intro b c hb
   have e : b ≠ h.next := fun e => by subst e; cases hnew _ hb
   obtain ⟨h1, h2, h3⟩ := R.rw b c (hold b _ hb e)
   exact ⟨h1, h2, h3.more (by simp) .updT rfl fun _ _ h => h⟩
 · intro b n' z' hb
   by_cases e : b = h.next
   · subst e
     have := hnew _ hb
     injection this with e1 e2; subst e1; subst e2
     rw [htk]; exact ht
   · rw [htk' b e]; exact R.tail b n' z' (hold b _ hb e)
 · intro b l hb
   have e : b ≠ h.next := fun e => by subst e; cases hnew _ hb
   obtain ⟨o, h1, h2⟩ := R.loop b l (hold b _ hb e)
   exact ⟨o, h1, h2.more (by simp) .updT⟩
 · intro b o b' o' r hb hm hb' hne
   by_cases e : b = h.next
   · subst e
     obtain rfl := hnew o hb
     obtain ⟨h1, h2⟩ := hat r hm
     rw [at_updT hne]
     exact fun hh => (hr h1).2 ⟨b', o', hold b' o' hb' hne, by rw [h2]; exact hh⟩
   · rw [at_updT e] at hm
     by_cases e' : b' = h.next
     · subst e'
       obtain rfl := hnew o' hb'
       intro hh
       obtain ⟨h1, h2⟩ := hat r hh
       exact (hr h1).2 ⟨b, o, hold b o hb e, by rw [h2]; exact hm⟩
     · rw [at_updT e']; exact R.sep b o b' o' r (hold b o hb e) hm (hold b' o' hb' e') hne
theorem Ext.addTail {ι0 : Iota} {h0 : AHeap} {w0 : World} (X : Ext ι0 h0 w0 ι h w) {t : Tok} {n z : Nat} (hr : t.none = false → w0.heap.size ≤ t.r ∨ MutAt ι0 h0 t.r) : Ext ι0 h0 w0 (updT ι h.next t) (h.alloc (.tail n z)) w :=
  ⟨by have := X.next; simp; omega, X.up.trans .updT X.next, X.size, fun x hx hn => ⟨(X.frame x hx hn).1, fun ⟨b, o, hb, hm⟩ => by
    by_cases e : b = h.next
    · subst e
      rw [AHeap.get_alloc, if_pos rfl] at hb
      simp [AObj.live] at hb; subst hb
      simp only [Iota.at, updT, if_true] at hm
      split at hm
      · cases hm
      · rename_i hf
        injection hm with hm
        rcases hr (by simpa using hf) with h | h
        · omega
        · exact hn (by rw [← hm]; exact h)
    · rw [AHeap.get_alloc, if_neg e] at hb
      rw [at_updT e] at hm
      exact (X.frame x hx hn).2 ⟨b, o, hb, hm⟩⟩, X.imf, X.os, X.tape, X.output⟩
theorem Rel.growTail (R : Rel ι h w) {b n n' z : Nat} (hb : h.get b = some (.tail n z)) (hf : (ι.tk b).none = false) (hn : n < n') (hle : n' * z ≤ (ι.tk b).tot) {g : Nat → Option Value}
    (hg : ∀ i v, g i = some v → w.cell? ⟨(ι.tk b).r, i, none⟩ = some v) (hg2 : ∀ i, n' * z ≤ i → g i = none) :
    Rel (addIm (updT ι b { ι.tk b with n := n' }) (ι.tk b).r g) (h.put b (.tail n' z)) w ∧ Ext ι h w (addIm (updT ι b { ι.tk b with n := n' }) (ι.tk b).r g) (h.put b (.tail n' z)) w := by
  have hget : ∀ x, (h.put b (.tail n' z)).get x = if x = b then some (.tail n' z) else h.get x := fun x => by rw [AHeap.get_put]; rfl
  have hold : ∀ x ox, (h.put b (.tail n' z)).get x = some ox → x ≠ b → h.get x = some ox := fun x ox hx hxb => by rw [hget, if_neg hxb] at hx; exact hx
  have hatb : ∀ ox, (h.put b (.tail n' z)).get b = some ox → ox = .tail n' z := fun ox hx => by rw [hget, if_pos rfl] at hx; injection hx with hx; exact hx.symm
  have hT := R.tail b n z hb
  have hroom := hT.room hf
  have hat : ι.at b (.tail n z) = some (ι.tk b).r := by simp [Iota.at, hf]
  have hnum := hT.hn
  have hup : Up h.next ι (addIm (updT ι b { ι.tk b with n := n' }) (ι.tk b).r g) := (Up.updT_gt (by simp; omega)).trans (.imx (N := h.next)) (Nat.le_refl _)
  have hat2 : ∀ x ox, (addIm (updT ι b { ι.tk b with n := n' }) (ι.tk b).r g).at x ox = ι.at x ox := fun x ox => by
    rw [at_imx]
    by_cases e : x = b
    · subst e; cases ox <;> simp [Iota.at, updT]
    · exact at_updT e
  have hx' : ∀ x ox r, (h.put b (.tail n' z)).get x = some ox → ι.at x ox = some r → ∃ o2, h.get x = some o2 ∧ ι.at x o2 = some r := fun x ox r hx hm => by
    by_cases hxb : x = b
    · subst hxb; obtain rfl := hatb ox hx; exact ⟨_, hb, hm⟩
    · exact ⟨_, hold x ox hx hxb, hm⟩
  have him : ∀ r i, r ≠ (ι.tk b).r → (addIm (updT ι b { ι.tk b with n := n' }) (ι.tk b).r g).im r i = ι.im r i := fun r i hr => imx_old hr
  refine ⟨⟨?_, ?_, ?_, ?_, ?_, ?_, ?_, R.gb⟩, ⟨Nat.le_refl _, hup, Nat.le_refl _, fun r hr hm => ⟨rfl, fun ⟨x, ox, hx, hh⟩ => ?_⟩, fun r i hr hm => him r i (fun e => hm ⟨b, _, hb, by rw [e]; exact hat⟩), rfl, rfl, rfl⟩⟩
  · intro x ox hx
    by_cases hxb : x = b
    · subst hxb; exact R.lt x _ hb
    · exact R.lt x ox (hold x ox hx hxb)
  · intro x ox r hx hm
    rw [hat2] at hm
    obtain ⟨o2, h1, h2⟩ := hx' x ox r hx hm
    exact R.real x o2 r h1 h2
  · intro x c hx
    have hxb : x ≠ b := fun e => by subst e; cases hatb _ hx
    have hx0 := hold x _ hx hxb
    obtain ⟨h1, h2, h3⟩ := R.rw x c hx0
    have hne := R.other hb hat hx0 hxb rfl
    refine ⟨h1, fun i hi => ⟨(h2 i hi).1, (h2 i hi).2.1, ?_⟩, h3.more (Nat.le_refl _) hup rfl fun _ _ h => h⟩
    show (addIm (updT ι b { ι.tk b with n := n' }) (ι.tk b).r g).im (ι x).r ((ι x).f + i) = none
    rw [him _ _ hne]; exact (h2 i hi).2.2
  · intro x m z' hx
    by_cases hxb : x = b
    · subst hxb
      have := hatb _ hx
      injection this with e1 e2; subst e1; subst e2
      have htk : (addIm (updT ι x { ι.tk x with n := m }) (ι.tk x).r g).tk x = { ι.tk x with n := m } := by simp [addIm, updT]
      rw [htk]
      refine ⟨rfl, hT.hz, fun hh => by simp [hf] at hh, fun h0 => by have := hT.z0 h0; simp [hf] at this, fun _ => ⟨hle, fun i hi => ⟨(hroom.2 i hi).1, (hroom.2 i hi).2.1, fun hi2 => ?_⟩⟩⟩
      simp only
      rw [imx_new]
      · exact hg2 i hi2
      · exact (hroom.2 i hi).2.2 (Nat.le_trans (Nat.mul_le_mul_right _ (by omega)) hi2)
    · have htk : (addIm (updT ι b { ι.tk b with n := n' }) (ι.tk b).r g).tk x = ι.tk x := by simp [addIm, updT, hxb]
      rw [htk]
      refine (R.tail x m z' (hold x _ hx hxb)).more (fun _ _ _ => ⟨fun h => h, rfl⟩) fun hf' i hi => ?_
      rw [him _ _ (R.other hb hat (hold x _ hx hxb) hxb (rx := (ι.tk x).r) (by simp [Iota.at, hf']))]
      exact hi
  · intro x l hx
    have hxb : x ≠ b := fun e => by subst e; cases hatb _ hx
    obtain ⟨o, h1, h2⟩ := R.loop x l (hold x _ hx hxb)
    exact ⟨o, h1, h2.more (Nat.le_refl _) hup⟩
  · intro x ox y oy r hx hm hy hne
    rw [hat2] at hm ⊢
    obtain ⟨o1, h1, h2⟩ := hx' x ox r hx hm
    intro hh
    obtain ⟨o2, h3, h4⟩ := hx' y oy r hy hh
    exact R.sep x o1 y o2 r h1 h2 h3 hne h4
  · intro r i v hv
    by_cases hr : r = (ι.tk b).r
    · subst hr
      cases hi : ι.im (ι.tk b).r i with
      | some v' =>
        have : (addIm (updT ι b { ι.tk b with n := n' }) (ι.tk b).r g).im (ι.tk b).r i = some v' := hup.im _ _ _ hi
        rw [this] at hv; injection hv with hv; subst hv; exact R.im _ _ _ hi
      | none => rw [imx_new (ι := updT ι b { ι.tk b with n := n' }) hi] at hv; exact hg i v hv
    · rw [him _ _ hr] at hv; exact R.im _ _ _ hv
  · rw [hat2] at hh
    obtain ⟨o2, h1, h2⟩ := hx' x ox r hx hh
    exact hm ⟨x, o2, h1, h2⟩
theorem Rel.moveTail (R : Rel ι h w) {b n n' z z0 : Nat} {t : Tok} (hb : h.get b = some (.tail n z0)) (hn : n < n') (hr : t.none = false → t.r < w.heap.size ∧ ¬ MutAt ι h t.r) (hT : TailR t ι.im n' z w) : Rel (updT ι b t) (h.put b (.tail n' z)) w := by
 have hget : ∀ x, (h.put b (.tail n' z)).get x = if x = b then some (.tail n' z) else h.get x := fun x => by rw [AHeap.get_put]; rfl
 have hold : ∀ x ox, (h.put b (.tail n' z)).get x = some ox → x ≠ b → h.get x = some ox := fun x ox hx hxb => by rw [hget, if_neg hxb] at hx; exact hx
 have hatb : ∀ ox, (h.put b (.tail n' z)).get b = some ox → ox = .tail n' z := fun ox hx => by rw [hget, if_pos rfl] at hx; injection hx with hx; exact hx.symm
 have hnum := (R.tail b n z0 hb).hn
 have hup : Up h.next ι (AM.updT ι b t) := .updT_gt (by have := hT.hn; omega)
 have htk : (AM.updT ι b t).tk b = t := by simp [AM.updT]
 have htk' : ∀ x, x ≠ b → (AM.updT ι b t).tk x = ι.tk x := fun x hx => by simp [AM.updT, hx]
 have hat : ∀ rr, (AM.updT ι b t).at b (.tail n' z) = some rr → t.none = false ∧ t.r = rr := fun rr hh => by
   simp only [Iota.at, htk] at hh
   split at hh
   · cases hh
   · rename_i e; injection hh with hh; exact ⟨by simpa using e, hh⟩
 refine ⟨?_, ?_, ?_, ?_, ?_, ?_, R.im, R.gb⟩
 · intro x o hx
   by_cases e : x = b
   · subst e; exact R.lt x _ hb
   · exact R.lt x o (hold x o hx e)
 · intro x o r hx hrr
   by_cases e : x = b
   · subst e; obtain rfl := hatb o hx; obtain ⟨h1, h2⟩ := hat r hrr; rw [← h2]; exact (hr h1).1
   · rw [at_updT e] at hrr; exact R.real x o r (hold x o hx e) hrr
 · intro x c hx
   have e : x ≠ b := fun e => by subst e; cases hatb _ hx
   obtain ⟨h1, h2, h3⟩ := R.rw x c (hold x _ hx e)
   exact ⟨h1, h2, h3.more (Nat.le_refl _) hup rfl fun _ _ h => h⟩
 · intro x m z' hx
   by_cases e : x = b
   · subst e
     have := hatb _ hx
     injection this with e1 e2; subst e1; subst e2
     rw [htk]; exact hT
   · rw [htk' x e]; exact R.tail x m z' (hold x _ hx e)
 · intro x l hx
   have e : x ≠ b := fun e => by subst e; cases hatb _ hx
   obtain ⟨o, h1, h2⟩ := R.loop x l (hold x _ hx e)
   exact ⟨o, h1, h2.more (Nat.le_refl _) hup⟩
 · intro x o x' o' r hx hm hx' hne
   by_cases e : x = b
   · subst e
     obtain rfl := hatb o hx
     obtain ⟨h1, h2⟩ := hat r hm
     rw [at_updT hne]
     exact fun hh => (hr h1).2 ⟨x', o', hold x' o' hx' hne, by rw [h2]; exact hh⟩
   · rw [at_updT e] at hm
     by_cases e' : x' = b
     · subst e'
       obtain rfl := hatb o' hx'
       intro hh
       obtain ⟨h1, h2⟩ := hat r hh
       exact (hr h1).2 ⟨x, o, hold x o hx e, by rw [h2]; exact hm⟩
     · rw [at_updT e']; exact R.sep x o x' o' r (hold x o hx e) hm (hold x' o' hx' e') hne
theorem Ext.moveTail {ι0 : Iota} {h0 : AHeap} {w0 : World} (X : Ext ι0 h0 w0 ι h w) {b n n' z z0 : Nat} {t : Tok} (R : Rel ι h w) (hb : h.get b = some (.tail n z0)) (hn : n < n') (ht : t.n = n') (hr : t.none = false → w0.heap.size ≤ t.r) : Ext ι0 h0 w0 (updT ι b t) (h.put b (.tail n' z)) w :=
 ⟨X.next, X.up.trans (.updT_gt (by have := (R.tail b n z0 hb).hn; omega)) (Nat.le_refl h0.next), X.size, fun x hx hm => ⟨(X.frame x hx hm).1, fun ⟨y, o, hy, hh⟩ => by
  by_cases e : y = b
  · subst e
    rw [AHeap.get_put, if_pos rfl] at hy
    simp [AObj.live] at hy; subst hy
    simp only [Iota.at, updT, if_true] at hh
    split at hh
    · cases hh
    · rename_i hf
      injection hh with hh
      have := hr (by simpa using hf)
      omega
  · rw [AHeap.get_put, if_neg e] at hy
    rw [at_updT e] at hh
    exact (X.frame x hx hm).2 ⟨y, o, hy, hh⟩⟩, X.imf, X.os, X.tape, X.output⟩
theorem Rel.new (R : Rel ι h w) {c : List Value} {cs : Array Value} {t : TypeId} (hl : c.length ≤ cs.size)
   (hc : ∀ (i : Nat) (u : Value), c[i]? = some u → u.oneCell' = true ∧ ∃ v, cs[i]? = some v ∧ VR ι h.next u v) :
   Rel (upd ι h.next ⟨w.heap.size, 0, cs.size⟩) (h.alloc (.rw c)) (w.alloc (.cells cs t)) ∧
   Ext ι h w (upd ι h.next ⟨w.heap.size, 0, cs.size⟩) (h.alloc (.rw c)) (w.alloc (.cells cs t)) := by
 obtain ⟨RJ, XJ⟩ := R.junk (.cells cs t)
 have hget : ∀ x, (h.alloc (.rw c)).get x = if x = h.next then some (.rw c) else h.get x := fun x => by rw [AHeap.get_alloc]; rfl
 have hold : ∀ x ox, (h.alloc (.rw c)).get x = some ox → x ≠ h.next → h.get x = some ox := fun x ox hx hxb => by rw [hget, if_neg hxb] at hx; exact hx
 have hnew : ∀ ox, (h.alloc (.rw c)).get h.next = some ox → ox = .rw c := fun ox hx => by rw [hget, if_pos rfl] at hx; injection hx with hx; exact hx.symm
 refine ⟨⟨?_, ?_, ?_, ?_, ?_, ?_, RJ.im, RJ.gb⟩, ⟨by simp, .upd, XJ.size, ?_, fun _ _ _ _ => rfl, rfl, rfl, rfl⟩⟩
 · intro x y hx
   by_cases e : x = h.next
   · subst e; simp
   · have := R.lt x y (hold x y hx e); simp; omega
 · intro x y r hx hr
   by_cases e : x = h.next
   · subst e; obtain rfl := hnew y hx; simp only [Iota.at, upd_same] at hr; injection hr with hr; subst hr; simp
   · rw [at_upd e] at hr; exact RJ.real x y r (hold x y hx e) hr
 · intro x cx hx
   by_cases e : x = h.next
   · subst e
     have := hnew _ hx
     injection this with this; subst this
     rw [upd_same]
     refine ⟨hl, fun i hi => ⟨⟨cs[i]'hi, by simp [Array.getElem?_eq_getElem hi]⟩, by simp, ?_⟩, fun i y hy => ?_⟩
     · show ι.im w.heap.size (0 + i) = none
       cases hi : ι.im w.heap.size (0 + i) with
       | none => rfl
       | some v => have := R.lt_of_im hi; omega
     · obtain ⟨h0, z, h1, h2⟩ := hc i y hy
       rw [upd_same]
       exact ⟨h0, z, by simpa using h1, h2.more (by simp) .upd⟩
   · obtain ⟨h2, h4, h5⟩ := RJ.rw x cx (hold x _ hx e)
     rw [upd_ne _ _ e]
     exact ⟨h2, h4, h5.more (by simp) .upd (upd_ne _ _ e) fun _ _ h => h⟩
 · intro x n z hx
   have e : x ≠ h.next := fun e => by subst e; cases hnew _ hx
   exact RJ.tail x n z (hold x _ hx e)
 · intro x l hx
   have e : x ≠ h.next := fun e => by subst e; cases hnew _ hx
   rw [upd_ne _ _ e]
   obtain ⟨ob, h1, h2⟩ := RJ.loop x l (hold x _ hx e)
   exact ⟨ob, h1, h2.more (by simp) .upd⟩
 · intro x ox y oy r hx hm hy hne
   by_cases e : x = h.next
   · subst e
     obtain rfl := hnew ox hx
     simp only [Iota.at, upd_same] at hm
     injection hm with hm; subst hm
     rw [at_upd hne]
     exact fun hh => by have := R.real y oy _ (hold y oy hy hne) hh; omega
   · rw [at_upd e] at hm
     by_cases e' : y = h.next
     · subst e'
       obtain rfl := hnew oy hy
       simp only [Iota.at, upd_same]
       have := R.real x ox _ (hold x ox hx e) hm
       intro hh; injection hh with hh; omega
     · rw [at_upd e']; exact R.sep x ox y oy r (hold x ox hx e) hm (hold y oy hy e') hne
 · intro r hr hn
   refine ⟨(XJ.frame r hr hn).1, ?_⟩
   rintro ⟨x, ox, hx, hm⟩
   by_cases e : x = h.next
   · subst e; obtain rfl := hnew ox hx; simp only [Iota.at, upd_same] at hm; injection hm with hm; omega
   · rw [at_upd e] at hm; exact hn ⟨x, ox, hold x ox hx e, hm⟩
end
end Go.Proofs.Ytjnpdnlgkepmcaa.AM
