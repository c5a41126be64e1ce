/- The bytes of a string. Conditions: none. -/
import Derived.Test.YtjnpdnlgkepmcaaAmWev2
import Derived.Laws.IdiomStrings
namespace Go.Proofs.Ytjnpdnlgkepmcaa.AM
set_option linter.unusedSimpArgs false
set_option linter.unusedVariables false
open Go Go.RowKit
variable {ι : Iota} {h : AHeap} {w : World}
theorem s2b_sim {E : Env} {s : St} {a : Act} {o : Oper} {x : Opd} {r : Option Value × AHeap} (hc : ∃ src dst e y, o.op = .convert src dst y ∧ E.P.underlying src = some .string ∧ E.P.underlying dst = some (.slice e) ∧ E.P.underlying e = some (.int .u8) ∧ copd E y = some x)
    (R : Rel ι s.h w) (T : TR ι s.h.next s.t a.tmps) (he : wev E s (.s2b x) = some r) : Done E ι s a w o r := by
  obtain ⟨src, dst, e, y, ho, hs, hd, hu, hy⟩ := hc
  simp only [wev] at he
  obtain ⟨b, h1, he⟩ := bind_some he
  obtain ⟨v, h2, h3⟩ := bind_some h1
  injection he with he; subst he
  have hv := ((ev_sim hy T h2).str_of h3).2
  have hrun := run_bytes_of_string (P := E.P) w src dst e b hs hd hu
  obtain ⟨R1, X1⟩ := R.drew.junk (.cells (bytesRow b (grownCap w b.size 0 e)) e ((bytesRow b (grownCap w b.size 0 e)).size, (bytesRow b (grownCap w b.size 0 e)).size + 1))
  have hsz : w.drew.heap.size = w.heap.size := rfl
  have hcap : b.size ≤ grownCap w b.size 0 e := by simp only [grownCap, Question.cut]; exact Nat.le_add_right _ _
  have hlen : (b.data.toList.map fun x => Value.int .u8 x.toNat).length = b.size := by rw [List.length_map, Array.length_toList]; rfl
  have hcell : ∀ i z, (b.data.toList.map fun x => Value.int .u8 x.toNat)[i]? = some z → (w.drew.alloc (.cells (bytesRow b (grownCap w b.size 0 e)) e ((bytesRow b (grownCap w b.size 0 e)).size, (bytesRow b (grownCap w b.size 0 e)).size + 1))).cell? ⟨w.heap.size, i, none⟩ = some z := fun i u hu => by
    have hcell := World.cell?_alloc_mark w.drew (bytesRow b (grownCap w b.size 0 e)) e ((bytesRow b (grownCap w b.size 0 e)).size, (bytesRow b (grownCap w b.size 0 e)).size + 1) i
    rw [hsz] at hcell
    rw [hcell]
    rw [List.getElem?_map, Option.map_eq_some_iff] at hu
    obtain ⟨z, hz, rfl⟩ := hu
    have hi : i < b.data.size := by have := (List.getElem?_eq_some_iff.1 hz).1; simpa using this
    simp only [bytesRow]
    rw [Array.getElem?_append_left (by simpa using hi), Array.getElem?_map]
    have : b.data[i]? = some z := by simpa using hz
    rw [this]; rfl
  have hnm : ¬ MutAt ι s.h w.heap.size := fun ⟨b, o, hb, hr⟩ => by have := R.real b o _ hb hr; omega
  have R2 := R1.imx (r := w.heap.size) (g := fun i => (b.data.toList.map fun x => Value.int .u8 x.toNat)[i]?) hnm hcell
  have X2 := (((Ext.refl ι s.h w).drew).trans X1).imx (r := w.heap.size) (g := fun i => (b.data.toList.map fun x => Value.int .u8 x.toNat)[i]?) (.inl (Nat.le_refl _))
  refine ⟨_, _, .value (.slice (some ⟨w.heap.size, 0, none⟩) b.size (grownCap w b.size 0 e)), ?_, ⟨_, rfl, ?_⟩, R2, X2⟩
  · simp only [execOp, ho, hv, Sem.run_bind, hrun, Result.andThen, Sem.run_pure]
  · have hfresh : ∀ i, ι.im w.heap.size i = none := fun i => by
      cases hi : ι.im w.heap.size i with
      | none => rfl
      | some v => have := R.lt_of_im hi; omega
    have hel : ∀ i el, (b.data.toList.map fun x => Value.int .u8 x.toNat)[i]? = some el → ∃ n : Int, el = Value.int .u8 n := fun i el hh => by
      rw [List.getElem?_map, Option.map_eq_some_iff] at hh
      obtain ⟨z, _, rfl⟩ := hh
      exact ⟨_, rfl⟩
    have := VR.vs_mk (ι := addIm ι w.heap.size (fun i => (b.data.toList.map fun x => Value.int .u8 x.toNat)[i]?)) (N := s.h.next) (z := 1) (r := w.heap.size) (f := 0) (c' := grownCap w b.size 0 e) (es := b.data.toList.map fun x => Value.int .u8 x.toNat) (by omega) (by rw [hlen]; exact hcap) (fun i el hh => by
      obtain ⟨n, rfl⟩ := hel i el hh; rfl) (fun i j el u hh hu => by
      obtain ⟨n, rfl⟩ := hel i el hh
      cases j with
      | succ j => simp [Value.cells] at hu
      | zero =>
        simp [Value.cells] at hu; subst hu
        refine ⟨rfl, .int .u8 n, ?_, .int _ _⟩
        rw [imx_new (hfresh _)]
        simpa using hh)
    rw [hlen] at this
    exact this
end Go.Proofs.Ytjnpdnlgkepmcaa.AM
