/- Rules on contracts: what a call leaves of what was there; closed runs. Conditions: none. -/
import Derived.Test.YtfdapegcngmknaaAmExec2
namespace Go.Proofs.Ytfdapegcngmknaa.AM
open Go Go.RowKit

structure HF (E : Env) where
  k : Nat
  F : IFn
  h : Has E k F

theorem XT.ok_of {X : XT} (l : List (HF X.E)) (h : X.fns = l.map fun p => (p.k, p.F)) : X.OK := by
  intro key F hF
  rw [h] at hF
  clear h
  induction l with
  | nil => cases hF
  | cons p l ih =>
    simp only [List.map_cons, look] at hF
    split at hF
    · rename_i hk; subst hk; injection hF with hF; subst hF; exact p.h
    · exact ih hF

theorem vrc1_id {ι : Iota} {N : Nat} {x y : Value} (hx : vrc1 x = true) (hxy : VR ι N x y) : x = y := by
  cases hxy <;> first | rfl | (simp [vrc1] at hx)
theorem vrc_id {ι : Iota} {N : Nat} {x y : Value} (hx : vrc x = true) (hxy : VR ι N x y) : x = y := by
  unfold vrc at hx
  split at hx
  · cases hxy with
    | agg _ ys hs' hh =>
      rename_i xs
      congr 1
      apply Array.ext hs'
      intro i h5 h6
      exact vrc1_id (List.all_eq_true.1 hx xs[i] (by simp)) (hh i xs[i] ys[i] (Array.getElem?_eq_getElem h5) (Array.getElem?_eq_getElem h6))
  · exact vrc1_id hx hxy

/-- A result without an address. -/
def vrcD : Value → Bool
  | .tuple vs => vs.toList.all vrc
  | v => vrc v
theorem vrcD_id {ι : Iota} {N : Nat} {x y : Value} (hx : vrcD x = true) (hxy : VR ι N x y) : x = y := by
  unfold vrcD at hx
  split at hx
  · cases hxy with
    | tuple _ ys hs' hh =>
      rename_i xs
      congr 1
      apply Array.ext hs'
      intro i h5 h6
      exact vrc_id (List.all_eq_true.1 hx xs[i] (by simp)) (hh i xs[i] ys[i] (Array.getElem?_eq_getElem h5) (Array.getElem?_eq_getElem h6))
  · exact vrc_id hx hxy
theorem vrcD_vr {ι : Iota} {N : Nat} {v : Value} (h : vrcD v = true) : VR ι N v v := by
  unfold vrcD at h
  split at h
  · rename_i vs
    refine .tuple vs vs rfl fun i u v hu hv => ?_
    rw [hu] at hv
    injection hv with hv
    subst hv
    exact vrc_vr (List.all_eq_true.1 h u (by rw [Array.mem_toList_iff]; exact Array.mem_of_getElem? hu))
  · exact vrc_vr h

section
variable {ι ι' : Iota} {h h' : AHeap} {w w' : World} {E : Env}

/-- The old view, where everything of it is still there. -/
theorem Rel.back (R : Rel ι h w) (R' : Rel ι' h' w') (X : Ext ι h w ι' h' w') (hs : ∀ b o, h.get b = some o → h'.get b = some o) : Rel ι h w' where
  lt := R.lt
  real b o hb := Nat.lt_of_lt_of_le (R.real b o hb) X.size
  ro b c hb i u hu := by
    obtain ⟨h0, v, h1, h2⟩ := R'.ro b c (hs b _ hb) i u hu
    obtain ⟨_, v0, _, h3⟩ := R.ro b c hb i u hu
    rw [X.iota b (R.lt b _ hb)] at h1
    exact ⟨h0, v, h1, (VR.drop h3 h2).more (Nat.le_refl _) fun b hb => (X.iota b hb).symm⟩
  rw b c hb := by
    obtain ⟨h4, h5, h6⟩ := R'.rw b c (hs b _ hb)
    rw [X.iota b (R.lt b _ hb)] at h4 h5
    refine ⟨h4, h5, fun i u hu => ?_⟩
    obtain ⟨h0, v, h1, h2⟩ := h6 i u hu
    obtain ⟨_, v0, _, h3⟩ := (R.rw b c hb).2.2 i u hu
    rw [X.iota b (R.lt b _ hb)] at h1
    exact ⟨h0, v, h1, (VR.drop h3 h2).more (Nat.le_refl _) fun b hb => (X.iota b hb).symm⟩
  loop b l hb := by
    obtain ⟨o, h1, ⟨rt, d, fn, h2, h3, h4⟩⟩ := R'.loop b l (hs b _ hb)
    obtain ⟨o0, h5, ⟨rt0, d0, fn0, h6, h7, h8⟩⟩ := R.loop b l hb
    rw [X.iota b (R.lt b _ hb)] at h1
    refine ⟨o, h1, ⟨rt, d, fn, h2, fun t u hu => ?_, h4⟩⟩
    obtain ⟨v, h9, h10⟩ := h3 t u hu
    obtain ⟨v0, _, h11⟩ := h7 t u hu
    exact ⟨v, h9, (VR.drop h11 h10).more (Nat.le_refl _) fun b hb => (X.iota b hb).symm⟩
  sep := R.sep

theorem Ext.back (X : Ext ι h w ι' h' w') : Ext ι h w ι h w' := ⟨Nat.le_refl _, fun _ _ => rfl, X.size, fun r hr hn => ⟨(X.frame r hr hn).1, hn⟩, X.os, X.tape, X.output⟩

/-- A value without an address, and all that was there as it was: the call has left nothing. -/
theorem ICallV.clean {fv : Value} {us : List Value} {Q : Value → AHeap → Prop} (H : ICallV E fv us h fun v h' => vrcD v = true ∧ (∀ b o, h.get b = some o → h'.get b = some o) ∧ Q v h) : ICallV E fv us h fun v h' => h' = h ∧ Q v h := by
  intro ι w fv' vs R hf hl
  obtain ⟨nx, w1, h1, h2, h3, h4⟩ := H ι w fv' vs R hf hl
  refine ⟨nx, w1, h1, h2, h3, ?_⟩
  have key : ∀ e w', Lift (fun v h' => vrcD v = true ∧ (∀ b o, h.get b = some o → h'.get b = some o) ∧ Q v h) ι h w1 e w' → Lift (fun v h' => h' = h ∧ Q v h) ι h w1 e w' := by
    rintro e w' ⟨ι', u, v, h', rfl, ⟨hv, hs, hq⟩, hvr, R', X'⟩
    have huv : u = v := vrcD_id hv hvr
    subst huv
    exact ⟨ι, u, u, h, rfl, ⟨rfl, hq⟩, vrcD_vr hv, h2.back R' X' hs, X'.back⟩
  cases nx with
  | enter f args => exact h4.mono key
  | round l f tmps as bd => exact ⟨h4.1, h4.2.mono key⟩
  | _ => exact h4

def AHeap.none : AHeap := ⟨0, []⟩

theorem Rel.none {ι : Iota} {w : World} : Rel ι AHeap.none w :=
  have hn : ∀ b o, AHeap.none.get b = some o → False := fun b o h => by simp [AHeap.none, AHeap.get, look] at h
  ⟨fun b o h => (hn b o h).elim, fun b o h => (hn b o h).elim, fun b c h => (hn b _ h).elim, fun b c h => (hn b _ h).elim, fun b l h => (hn b _ h).elim, fun b o b' o' h => (hn b o h).elim⟩

/-- A call that was run on nothing at all does the same on anything. -/
theorem ICalls.closed {key : Nat} {us : List Value} {u : Value} (hu : vrcD u = true) (hus : us.all vrc = true) (H : ICalls E key us AHeap.none fun v _ => v = u) (h : AHeap) : ICalls E key us h fun v h' => v = u ∧ h' = h := by
  intro ι w fv' vs R hf hl
  have huv : us = vs := by
    apply List.ext_getElem hl.1
    intro i h1 h2
    exact vrc_id (List.all_eq_true.1 hus us[i] (List.getElem_mem h1)) (hl.2 i us[i] vs[i] (List.getElem?_eq_getElem h1) (List.getElem?_eq_getElem h2))
  subst huv
  have hf0 : VR ι AHeap.none.next (.func (.func (E.id key)) #[] #[]) fv' := by
    cases hf with
    | func g _ ys _ ds hs hx hs' hx' => exact .func _ _ _ _ _ hs (fun i u v hu => by simp at hu) hs' (fun i u v hu => by simp at hu)
  obtain ⟨nx, w1, h1, h2, h3, h4⟩ := H ι w fv' us Rel.none hf0 ⟨rfl, fun i a b ha hb => by
    rw [ha] at hb; injection hb with hb; subst hb
    exact vrc_vr (List.all_eq_true.1 hus a (List.mem_of_getElem? ha))⟩
  have grow : ∀ w2, Ext ι AHeap.none w ι AHeap.none w2 → Rel ι h w2 ∧ Ext ι h w ι h w2 := by
    intro w2 X
    have hh : ∀ r, r < w.heap.size → w2.heap[r]? = w.heap[r]? := fun r hr => (X.frame r hr (by rintro ⟨b, o, hb, _⟩; simp [AHeap.none, AHeap.get, look] at hb)).1
    have hc : ∀ a : Addr, a.block < w.heap.size → w2.cell? a = w.cell? a := fun a ha => by unfold World.cell?; rw [hh _ ha]
    have hfz : ∀ a : Addr, a.block < w.heap.size → w2.frozen? a = w.frozen? a := fun a ha => by unfold World.frozen?; rw [hh _ ha]
    refine ⟨⟨R.lt, fun b o hb => Nat.lt_of_lt_of_le (R.real b o hb) X.size, fun b c hb i u hu => ?_, fun b c hb => ?_, fun b l hb => ?_, R.sep⟩, ⟨Nat.le_refl _, fun _ _ => rfl, X.size, fun r hr hn => ⟨hh r hr, hn⟩, X.os, X.tape, X.output⟩⟩
    · obtain ⟨h5, v, h6, h7⟩ := R.ro b c hb i u hu
      exact ⟨h5, v, by rw [hc _ (R.real b _ hb)]; exact h6, h7⟩
    · obtain ⟨h5, h6, h7⟩ := R.rw b c hb
      refine ⟨h5, fun i hi => ?_, fun i u hu => ?_⟩
      · obtain ⟨⟨v, h8⟩, h9⟩ := h6 i hi
        exact ⟨⟨v, by rw [hc _ (R.real b _ hb)]; exact h8⟩, by rw [hfz _ (R.real b _ hb)]; exact h9⟩
      · obtain ⟨h8, v, h9, h10⟩ := h7 i u hu
        exact ⟨h8, v, by rw [hc _ (R.real b _ hb)]; exact h9, h10⟩
    · obtain ⟨o, h5, h6⟩ := R.loop b l hb
      exact ⟨o, by rw [hh _ (R.real b _ hb)]; exact h5, h6⟩
  refine ⟨nx, w1, h1, (grow w1 h3).1, (grow w1 h3).2, ?_⟩
  have key2 : ∀ e w', Lift (fun v _ => v = u) ι AHeap.none w1 e w' → Lift (fun v h' => v = u ∧ h' = h) ι h w1 e w' := by
    rintro e w' ⟨ι', x, v, h', rfl, rfl, hvr, R', X'⟩
    have hxv : x = v := vrcD_id hu hvr
    subst hxv
    obtain ⟨R2, X2⟩ := grow w' (h3.trans X'.back)
    obtain ⟨R1, X1⟩ := grow w1 h3
    refine ⟨ι, x, x, h, rfl, ⟨rfl, rfl⟩, vrcD_vr hu, R2, ?_⟩
    refine ⟨Nat.le_refl _, fun _ _ => rfl, X'.size, fun r hr hn => ⟨(X'.frame r hr (by rintro ⟨b, o, hb, _⟩; simp [AHeap.none, AHeap.get, look] at hb)).1, hn⟩, X'.os, X'.tape, X'.output⟩
  cases nx with
  | enter f args => exact h4.mono key2
  | round l f tmps as bd => exact ⟨h4.1, h4.2.mono key2⟩
  | _ => exact h4

/-- A closed run. -/
theorem ICalls.run {X : XT} [Mixed X.E] (hX : X.OK) {n key : Nat} {us : List Value} {u : Value} (hu : vrcD u = true) (hus : us.all vrc = true)
    (H : xcall X (xcode X n) (.func (.func (X.E.id key)) #[] #[]) us AHeap.none (fun v _ => veq v u) = true) (h : AHeap) : ICalls X.E key us h fun v h' => v = u ∧ h' = h :=
  ICalls.closed hu hus ((icalls_run hX H).mono fun _ _ hv => veq_sound hv) h
end
end Go.Proofs.Ytfdapegcngmknaa.AM
