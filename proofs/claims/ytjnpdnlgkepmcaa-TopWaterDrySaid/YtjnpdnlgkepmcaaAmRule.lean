/- Rules on contracts: closed values, calls on memory that the callee need not see, memory seen otherwise. Conditions: none. -/
import Derived.Test.YtjnpdnlgkepmcaaAmExec2
namespace Go.Proofs.Ytjnpdnlgkepmcaa.AM
set_option linter.unusedSimpArgs false
set_option linter.unusedVariables false
open Go Go.RowKit
structure HF (E : Env) where
 k : Nat
 F : IFn
 h : Has E k F
inductive Clo : Value → Prop
 | one (v : Value) (h : vrc1 v = true) : Clo v
 | agg (l : List Value) (h : ∀ v, v ∈ l → Clo v) : Clo (.agg ⟨l⟩)
 | tuple (l : List Value) (h : ∀ v, v ∈ l → Clo v) : Clo (.tuple ⟨l⟩)
 | vs (z : Nat) (es : List Value) (h : ∀ e, e ∈ es → ∀ u, u ∈ e.cells.toList → Clo u) : Clo (VS z es)
 | vz (z : Nat) : Clo (VZ z)
 | ve (z : Nat) : Clo (VE z)
 | vp (e : Value) (off : Nat) (h : ∀ u, u ∈ e.cells.toList → Clo u) : Clo (VP e off)
 | func (g : FuncId) (xs us : List Value) (h : ∀ v, v ∈ xs → Clo v) (h' : ∀ v, v ∈ us → Clo v) : Clo (.func (.func g) ⟨xs⟩ ⟨us⟩)
 | iface (t : TypeId) (v : Value) (h : Clo v) : Clo (.iface t v)
theorem mem_of_at {l : List Value} {i : Nat} {u : Value} (h : l[i]? = some u) : u ∈ l := List.mem_of_getElem? h
theorem mem_of_atA {a : Array Value} {i : Nat} {u : Value} (h : a[i]? = some u) : u ∈ a.toList := by rw [Array.mem_toList_iff]; exact Array.mem_of_getElem? h
theorem Clo.vr {ι ι' : Iota} {N N' : Nat} {u : Value} (hc : Clo u) (him : ∀ r i x, ι.im r i = some x → ι'.im r i = some x) : ∀ {v : Value}, VR ι N u v → VR ι' N' u v := by
  induction hc with
  | one v h =>
    intro v' hv
    have : v = v' := by cases hv <;> first | rfl | (simp [vrc1, VS, VT, VP, VZ, VE] at h)
    subst this
    exact vrc1_vr h
  | agg l h ih =>
    intro v hv
    cases hv with
    | agg _ ys hs hh => exact .agg _ ys hs fun i a b ha hb => ih a (mem_of_at (by simpa using ha)) (hh i a b ha hb)
  | tuple l h ih =>
    intro v hv
    cases hv with
    | tuple _ ys hs hh => exact .tuple _ ys hs fun i a b ha hb => ih a (mem_of_at (by simpa using ha)) (hh i a b ha hb)
  | vs z es h ih =>
    intro v hv
    rcases hv.vs_of with ⟨rfl, rfl | ⟨a', c', rfl⟩⟩ | ⟨r, f, c', hz, hn, rfl, h0, h1⟩
    · exact .vsn z
    · exact .vs0 z _ _
    · refine .vs_mk hz hn h0 fun i j e u he hu => ?_
      obtain ⟨h2, v, h3, h4⟩ := h1 i j e u he hu
      exact ⟨h2, v, him _ _ _ h3, ih e (mem_of_at he) u (mem_of_atA hu) h4⟩
  | vz z =>
    intro v hv
    obtain ⟨a, rfl⟩ := VR.z_of hv
    exact .vz z a
  | ve z =>
    intro v hv
    obtain ⟨a, c, rfl⟩ := hv.e_of
    exact .ve z a c
  | vp e off h ih =>
    intro v hv
    obtain ⟨r, f, rfl, h1⟩ := hv.vp_of rfl
    refine .vp_mk fun j u hu => ?_
    obtain ⟨h2, v, h3, h4⟩ := h1 j u hu
    exact ⟨h2, v, him _ _ _ h3, ih u (mem_of_atA hu) h4⟩
  | func g xs us h h' ih ih' =>
    intro v hv
    cases hv with
    | func _ _ ys _ ds hs hx hs' hx' => exact .func g _ ys _ ds hs (fun i a b ha hb => ih a (mem_of_at (by simpa using ha)) (hx i a b ha hb)) hs' (fun i a b ha hb => ih' a (mem_of_at (by simpa using ha)) (hx' i a b ha hb))
  | iface t v h ih =>
    intro v' hv
    cases hv with
    | iface _ _ y hh => exact .iface t v y (ih hh)
def CloL (l : List Value) : Prop := ∀ v, v ∈ l → Clo v
theorem CloL.vrl {ι ι' : Iota} {N N' : Nat} {us vs : List Value} (hc : CloL us) (him : ∀ r i x, ι.im r i = some x → ι'.im r i = some x) (h : VRL ι N us vs) : VRL ι' N' us vs :=
 ⟨h.1, fun i a b ha hb => (hc a (mem_of_at ha)).vr him (h.2 i a b ha hb)⟩
class Cl (v : Value) : Prop where
 out : Clo v
class ClL (l : List Value) : Prop where
 out : CloL l
instance : ClL [] := ⟨fun v h => by cases h⟩
instance {v : Value} {l : List Value} [a : Cl v] [b : ClL l] : ClL (v :: l) := ⟨fun x h => by
 rcases List.mem_cons.1 h with rfl | h
 · exact a.out
 · exact b.out x h⟩
instance {l m : List Value} [a : ClL l] [b : ClL m] : ClL (l ++ m) := ⟨fun x h => by
 rcases List.mem_append.1 h with h | h
 · exact a.out x h
 · exact b.out x h⟩
instance {α : Type} {f : α → Value} {l : List α} [h : ∀ x, Cl (f x)] : ClL (l.map f) := ⟨fun v hv => by
 obtain ⟨x, _, rfl⟩ := List.mem_map.1 hv; exact (h x).out⟩
instance (k : IntKind) (n : Int) : Cl (.int k n) := ⟨.one _ rfl⟩
instance (b : Bool) : Cl (.bool b) := ⟨.one _ rfl⟩
instance (s : ByteArray) : Cl (.string s) := ⟨.one _ rfl⟩
instance : Cl .nilFunc := ⟨.one _ rfl⟩
instance : Cl .nilIface := ⟨.one _ rfl⟩
instance : Cl (.pointer none) := ⟨.one _ rfl⟩
instance : Cl (.map none) := ⟨.one _ rfl⟩
instance : Cl (.slice none 0 0) := ⟨.one _ rfl⟩
instance {l : List Value} [h : ClL l] : Cl (.agg ⟨l⟩) := ⟨.agg l h.out⟩
instance {l : List Value} [h : ClL l] : Cl (.agg l.toArray) := ⟨.agg l h.out⟩
instance {l : List Value} [h : ClL l] : Cl (.tuple ⟨l⟩) := ⟨.tuple l h.out⟩
instance {l : List Value} [h : ClL l] : Cl (.tuple l.toArray) := ⟨.tuple l h.out⟩
instance {g : FuncId} {l m : List Value} [h : ClL l] [h' : ClL m] : Cl (.func (.func g) ⟨l⟩ ⟨m⟩) := ⟨.func g l m h.out h'.out⟩
instance {g : FuncId} {l m : List Value} [h : ClL l] [h' : ClL m] : Cl (.func (.func g) l.toArray m.toArray) := ⟨.func g l m h.out h'.out⟩
theorem Clo.cells {e : Value} (h : Clo e) : ∀ u, u ∈ e.cells.toList → Clo u := by
 intro u hu
 cases h with
 | agg l h => exact h u (by simpa [Value.cells] using hu)
 | one _ h => cases e <;> first | (simp [vrc1] at h; done) | (simp [Value.cells] at hu; subst hu; exact .one _ h)
 | tuple l h => simp [Value.cells] at hu; subst hu; exact .tuple l h
 | vs z es h => simp [Value.cells, VS] at hu; subst hu; exact .vs z es h
 | vz z => simp [Value.cells, VZ] at hu; subst hu; exact .vz z
 | ve z => simp [Value.cells, VE] at hu; subst hu; exact .ve z
 | vp e off h => simp [Value.cells, VP] at hu; subst hu; exact .vp e off h
 | func g xs us h h' => simp [Value.cells] at hu; subst hu; exact .func g xs us h h'
 | iface t v h => simp [Value.cells] at hu; subst hu; exact .iface t v h
instance {z : Nat} {es : List Value} [h : ClL es] : Cl (VS z es) := ⟨.vs z es fun e he => (h.out e he).cells⟩
instance {z : Nat} : Cl (VZ z) := ⟨.vz z⟩
instance {z : Nat} : Cl (VE z) := ⟨.ve z⟩
instance {e : Value} {off : Nat} [h : Cl e] : Cl (VP e off) := ⟨.vp e off h.out.cells⟩
instance {c : Bool} {a b : Value} [ha : Cl a] [hb : Cl b] : Cl (bif c then a else b) := ⟨by cases c; exact hb.out; exact ha.out⟩
instance {c : Prop} [Decidable c] {a b : Value} [ha : Cl a] [hb : Cl b] : Cl (if c then a else b) := ⟨by split; exact ha.out; exact hb.out⟩
def AHeap.none : AHeap := ⟨0, [], false⟩
theorem none_get {b : Nat} {o : AObj} (h : AHeap.none.get b = some o) : False := by simp [AHeap.none, AHeap.get, look] at h
theorem none_mut {ι : Iota} {r : Nat} : ¬ MutAt ι AHeap.none r := fun ⟨_, _, h, _⟩ => none_get h
theorem Rel.bare {ι : Iota} {w : World} (h : ∀ r i v, ι.im r i = some v → w.cell? ⟨r, i, Option.none⟩ = some v) (hb : GB w) : Rel ι AHeap.none w :=
 ⟨fun _ _ h => (none_get h).elim, fun _ _ _ h => (none_get h).elim, fun _ _ h => (none_get h).elim, fun _ _ _ h => (none_get h).elim, fun _ _ h => (none_get h).elim, fun _ _ _ _ _ h => (none_get h).elim, h, hb⟩
section
variable {ι ι' : Iota} {h h' : AHeap} {w w' : World} {E : Env}
theorem Rel.same (R : Rel ι h w) {κ : Iota} (hs : w.heap.size ≤ w'.heap.size) (hh : ∀ r, r < w.heap.size → w'.heap[r]? = w.heap[r]?) (hi : ∀ r i, r < w.heap.size → κ.im r i = ι.im r i)
   (him : ∀ r i v, κ.im r i = some v → w'.cell? ⟨r, i, Option.none⟩ = some v) : Rel { ι with im := κ.im, gi := κ.gi } h w' := by
 have hc : ∀ a : Addr, a.block < w.heap.size → w'.cell? a = w.cell? a := fun a ha => by unfold World.cell?; rw [hh _ ha]
 have hfz : ∀ a : Addr, a.block < w.heap.size → w'.frozen? a = w.frozen? a := fun a ha => by unfold World.frozen?; rw [hh _ ha]
 have hup : Up h.next ι { ι with im := κ.im, gi := κ.gi } := ⟨fun _ _ => rfl, fun _ _ => .inl rfl, fun r i v hv => by show κ.im r i = some v; rw [hi r i (R.lt_of_im hv)]; exact hv⟩
 have hat : ∀ b o, ({ ι with im := κ.im, gi := κ.gi } : Iota).at b o = ι.at b o := fun b o => by cases o <;> rfl
 refine ⟨R.lt, fun b o r hb hr => Nat.lt_of_lt_of_le (R.real b o r hb (by rw [hat] at hr; exact hr)) hs, fun b c hb => ?_, fun b n z hb => ?_, fun b l hb => ?_, fun b o b' o' r hb hr hb' hne => by rw [hat] at hr ⊢; exact R.sep b o b' o' r hb hr hb' hne, him, R.gb.of fun r hr _ => osz_heap (hh r hr)⟩
 · obtain ⟨h5, h6, h7⟩ := R.rw b c hb
   have hlt := R.real b _ _ hb rfl
   refine ⟨h5, fun i hi2 => ?_, h7.more (Nat.le_refl _) hup rfl fun i v hv => by rw [hc _ hlt]; exact hv⟩
   obtain ⟨⟨v, h8⟩, h9, h10⟩ := h6 i hi2
   exact ⟨⟨v, by rw [hc _ hlt]; exact h8⟩, by rw [hfz _ hlt]; exact h9, by show κ.im _ _ = Option.none; rw [hi _ _ hlt]; exact h10⟩
 · refine (R.tail b n z hb).more (fun hf i _ => ?_) (fun hf i hh2 => ?_)
   · have hlt := R.real b _ (ι.tk b).r hb (by simp [Iota.at, hf])
     rw [hc _ hlt, hfz _ hlt]; exact ⟨fun h => h, rfl⟩
   · have hlt := R.real b _ (ι.tk b).r hb (by simp [Iota.at, hf])
     show κ.im _ _ = Option.none
     rw [hi _ _ hlt]; exact hh2
 · obtain ⟨o, h5, h6⟩ := R.loop b l hb
   exact ⟨o, by rw [hh _ (R.real b _ _ hb rfl)]; exact h5, h6.more (Nat.le_refl _) hup⟩
theorem ICallV.closed {fv : Value} {us : List Value} {u : Value} (hf : Clo fv) (hus : CloL us) (hu : Clo u) (H : ICallV E fv us AHeap.none fun v _ => v = u) (h : AHeap) : ICallV E fv us h fun v h' => v = u ∧ h' = h := by
 intro ι w fv' vs R hf' hl
 obtain ⟨nx, w1, h1, h2, h3, h4⟩ := H ι w fv' vs (.bare R.im R.gb) (hf.vr (fun _ _ _ h => h) hf') (hus.vrl (fun _ _ _ h => h) hl)
 have grow : ∀ ι2 h2 w2, Ext ι AHeap.none w ι2 h2 w2 → Rel ι2 h2 w2 → Rel { ι with im := ι2.im, gi := ι2.gi } h w2 ∧ Ext ι h w { ι with im := ι2.im, gi := ι2.gi } h w2 := by
  intro ι2 h2 w2 X R2
  have hh : ∀ r, r < w.heap.size → w2.heap[r]? = w.heap[r]? := fun r hr => (X.frame r hr none_mut).1
  have hi : ∀ r i, r < w.heap.size → ι2.im r i = ι.im r i := fun r i hr => X.imf r i hr none_mut
  have hat : ∀ b o, ({ ι with im := ι2.im, gi := ι2.gi } : Iota).at b o = ι.at b o := fun b o => by cases o <;> rfl
  refine ⟨R.same X.size hh hi R2.im, ⟨Nat.le_refl _, ⟨fun _ _ => rfl, fun _ _ => .inl rfl, X.up.im⟩, X.size, fun r hr hn => ⟨hh r hr, fun ⟨b, o, hb, ho⟩ => hn ⟨b, o, hb, by rw [hat] at ho; exact ho⟩⟩, fun r i hr _ => hi r i hr, X.os, X.tape, X.output⟩⟩
 refine ⟨nx, w1, h1, (grow ι _ w1 h3 h2).1, (grow ι _ w1 h3 h2).2, ?_⟩
 have key : ∀ e w', Lift (fun v _ => v = u) ι AHeap.none w1 e w' → Lift (fun v h' => v = u ∧ h' = h) ι h w1 e w' := by
  rintro e w' ⟨ι', x, v, h', rfl, rfl, hvr, R', X'⟩
  have hs1 : w.heap.size ≤ w1.heap.size := h3.size
  obtain ⟨R2, X2⟩ := grow ι' h' w' (h3.trans X') R'
  refine ⟨{ ι with im := ι'.im, gi := ι'.gi }, x, v, h, rfl, ⟨rfl, rfl⟩, hu.vr (ι := ι') (N := h'.next) (fun r i x hx => by exact hx) hvr, R2, ?_⟩
  have hat : ∀ b o, ({ ι with im := ι'.im, gi := ι'.gi } : Iota).at b o = ι.at b o := fun b o => by cases o <;> rfl
  exact ⟨Nat.le_refl _, ⟨fun _ _ => rfl, fun _ _ => .inl rfl, X'.up.im⟩, X'.size, fun r hr hn => ⟨(X'.frame r hr none_mut).1, fun ⟨b, o, hb, ho⟩ => hn ⟨b, o, hb, by rw [hat] at ho; exact ho⟩⟩, fun r i hr _ => X'.imf r i hr none_mut, X'.os, X'.tape, X'.output⟩
 cases nx with
 | enter f args => exact h4.mono key
 | round l f tmps as bd => exact ⟨h4.1, h4.2.mono key⟩
 | _ => exact h4
theorem ICalls.closed {key : Nat} {us : List Value} {u : Value} (hus : CloL us) (hu : Clo u) (H : ICalls E key us AHeap.none fun v _ => v = u) (h : AHeap) : ICalls E key us h fun v h' => v = u ∧ h' = h :=
 ICallV.closed (.func _ [] [] (fun v h => by cases h) (fun v h => by cases h)) hus hu H h
def fullI (ι : Iota) (w : World) (hg : GW w) : Iota := { ι with im := fun r i => w.cell? ⟨r, i, Option.none⟩, gi := hg }
theorem Rel.gw {ι : Iota} {h : AHeap} {w : World} (R : Rel ι h w) : GW w := ι.gi.mono R.im
def Dp (h : AHeap) (u u' : Value) : Prop := ∀ ι w v, (R : Rel ι h w) → VR ι h.next u v → VR (fullI ι w R.gw) 0 u' v
def DpL (h : AHeap) (us us' : List Value) : Prop := us.length = us'.length ∧ ∀ (i : Nat) (u u' : Value), us[i]? = some u → us'[i]? = some u' → Dp h u u'
def vrcD : Value → Bool
 | .tuple vs => vs.toList.all vrc
 | v => vrc v
theorem vrc1_id {ι : Iota} {N : Nat} {x y : Value} (hx : vrc1 x = true) (hxy : VR ι N x y) : x = y := by
 cases hxy <;> first | rfl | (simp [vrc1, VS, VT, VP, VZ, VE] at hx)
theorem vrc_id {ι : Iota} {N : Nat} {x y : Value} (hx : vrc x = true) (hxy : VR ι N x y) : x = y := by
  unfold vrc at hx
  split at hx
  · cases hxy with
    | agg _ ys hs' hh =>
      rename_i xs
      congr 1
      apply Array.ext hs'
      intro i h5 h6
      exact vrc1_id (List.all_eq_true.1 hx xs[i] (by simp)) (hh i xs[i] ys[i] (Array.getElem?_eq_getElem h5) (Array.getElem?_eq_getElem h6))
  · exact vrc1_id hx hxy
theorem vrcD_id {ι : Iota} {N : Nat} {x y : Value} (hx : vrcD x = true) (hxy : VR ι N x y) : x = y := by
  unfold vrcD at hx
  split at hx
  · cases hxy with
    | tuple _ ys hs' hh =>
      rename_i xs
      congr 1
      apply Array.ext hs'
      intro i h5 h6
      exact vrc_id (List.all_eq_true.1 hx xs[i] (by simp)) (hh i xs[i] ys[i] (Array.getElem?_eq_getElem h5) (Array.getElem?_eq_getElem h6))
  · exact vrc_id hx hxy
theorem vrcD_vr {ι : Iota} {N : Nat} {v : Value} (h : vrcD v = true) : VR ι N v v := by
 unfold vrcD at h
 split at h
 · rename_i vs
   refine .tuple vs vs rfl fun i u v hu hv => ?_
   rw [hu] at hv
   injection hv with hv
   subst hv
   exact vrc_vr (List.all_eq_true.1 h u (by rw [Array.mem_toList_iff]; exact Array.mem_of_getElem? hu))
 · exact vrc_vr h
theorem vr_yield {N l : Nat} {v : Value} (h : VR ι N (.func (.yield l) #[] #[]) v) : l < N := by
 generalize hx : Value.func _ _ _ = x at h
 cases h with
 | yield l' hl => injection hx with e; injection e with e; subst e; exact hl
 | _ => first | (cases hx; done) | (unfold VS at hx; cases hx; done) | (unfold VT at hx; cases hx; done) | (unfold VP at hx; cases hx; done) | (unfold VZ at hx; cases hx; done) | (unfold VE at hx; cases hx; done)
theorem ICallV.deep {fv fv' : Value} {us us' : List Value} {u : Value} (hf : Dp h fv fv') (hus : DpL h us us') (hu : vrcD u = true) (H : ICallV E fv' us' AHeap.none fun v _ => v = u) : ICallV E fv us h fun v h' => v = u ∧ h' = h := by
  intro ι w fv2 vs R hf' hl
  have hf2 := hf ι w fv2 R hf'
  obtain ⟨nx, w1, h1, h2, h3, h4⟩ := H (fullI ι w R.gw) w fv2 vs (.bare (fun _ _ _ h => h) R.gb) hf2 ⟨by rw [← hus.1]; exact hl.1, fun i a b ha hb => by
    have hi : i < us.length := by rw [hus.1]; exact (List.getElem?_eq_some_iff.1 ha).1
    exact hus.2 i us[i] a (List.getElem?_eq_getElem hi) ha ι w b R (hl.2 i us[i] b (List.getElem?_eq_getElem hi) hb)⟩
  have same : ∀ ι2 h2 w2, Ext (fullI ι w R.gw) AHeap.none w ι2 h2 w2 → Rel ι h w2 ∧ Ext ι h w ι h w2 := by
    intro ι2 h2 w2 X
    have hh : ∀ r, r < w.heap.size → w2.heap[r]? = w.heap[r]? := fun r hr => (X.frame r hr none_mut).1
    have := R.same (κ := ι) X.size hh (fun _ _ _ => rfl) (fun r i v hv => by
      have := R.im r i v hv
      unfold World.cell? at this ⊢
      rw [hh r (R.lt_of_im hv)]; exact this)
    exact ⟨this, ⟨Nat.le_refl _, .refl, X.size, fun r hr hn => ⟨hh r hr, hn⟩, fun _ _ _ _ => rfl, X.os, X.tape, X.output⟩⟩
  refine ⟨nx, w1, h1, (same _ _ w1 h3).1, (same _ _ w1 h3).2, ?_⟩
  have key : ∀ e w', Lift (fun v _ => v = u) (fullI ι w R.gw) AHeap.none w1 e w' → Lift (fun v h' => v = u ∧ h' = h) ι h w1 e w' := by
    rintro e w' ⟨ι', x, v, h', rfl, rfl, hvr, R', X'⟩
    have hxv : x = v := vrcD_id hu hvr
    subst hxv
    refine ⟨ι, x, x, h, rfl, ⟨rfl, rfl⟩, vrcD_vr hu, (same _ _ w' (h3.trans X')).1, ⟨Nat.le_refl _, .refl, X'.size, fun r hr hn => ⟨(X'.frame r hr none_mut).1, hn⟩, fun _ _ _ _ => rfl, X'.os, X'.tape, X'.output⟩⟩
  cases nx with
  | enter f args => exact h4.mono key
  | round l f tmps as bd =>
    obtain ⟨k, hk⟩ := h4.1
    subst hk
    have := vr_yield hf2
    omega
  | _ => exact h4
theorem ICalls.deep {key : Nat} {us us' : List Value} {u : Value} (hus : DpL h us us') (hu : vrcD u = true) (H : ICalls E key us' AHeap.none fun v _ => v = u) : ICalls E key us h fun v h' => v = u ∧ h' = h :=
 ICallV.deep (fun ι w v R hv => (Clo.func _ [] [] (fun v h => by cases h) (fun v h => by cases h)).vr (fun r i x hx => R.im r i x hx) hv) hus hu H
theorem ICallV.fresh {fv : Value} {us : List Value} {z z' : Nat} {es : List Value} (hf : Clo fv) (hus : CloL us) (hes : Clo (VS z es))
  (H : ICallV E fv us AHeap.none fun v h' => ∃ b n, v = VT z es b ∧ n = es.length ∧ h'.get b = some (.tail n z')) (h : AHeap) : ICallV E fv us h fun v h' => v = VT z es h.next ∧ h' = h.alloc (.tail es.length z') := by
 intro ι w fv' vs R hf' hl
 obtain ⟨nx, w1, h1, h2, h3, h4⟩ := H ι w fv' vs (.bare R.im R.gb) (hf.vr (fun _ _ _ h => h) hf') (hus.vrl (fun _ _ _ h => h) hl)
 have hat : ∀ (κ : Iota) b o, ({ ι with im := κ.im, gi := κ.gi } : Iota).at b o = ι.at b o := fun κ b o => by cases o <;> rfl
 have grow : ∀ ι2 h2 w2, Ext ι AHeap.none w ι2 h2 w2 → Rel ι2 h2 w2 → Rel { ι with im := ι2.im, gi := ι2.gi } h w2 ∧ Ext ι h w { ι with im := ι2.im, gi := ι2.gi } h w2 := by
  intro ι2 h2 w2 X R2
  have hh : ∀ r, r < w.heap.size → w2.heap[r]? = w.heap[r]? := fun r hr => (X.frame r hr none_mut).1
  have hi : ∀ r i, r < w.heap.size → ι2.im r i = ι.im r i := fun r i hr => X.imf r i hr none_mut
  refine ⟨R.same X.size hh hi R2.im, ⟨Nat.le_refl _, ⟨fun _ _ => rfl, fun _ _ => .inl rfl, X.up.im⟩, X.size, fun r hr hn => ⟨hh r hr, fun ⟨b, o, hb, ho⟩ => hn ⟨b, o, hb, by rw [hat] at ho; exact ho⟩⟩, fun r i hr _ => hi r i hr, X.os, X.tape, X.output⟩⟩
 refine ⟨nx, w1, h1, (grow ι _ w1 h3 h2).1, (grow ι _ w1 h3 h2).2, ?_⟩
 have key : ∀ e w', Lift (fun v h' => ∃ b n, v = VT z es b ∧ n = es.length ∧ h'.get b = some (.tail n z')) ι AHeap.none w1 e w' → Lift (fun v h' => v = VT z es h.next ∧ h' = h.alloc (.tail es.length z')) ι h w1 e w' := by
  rintro e w' ⟨ι', x, v, h', rfl, ⟨b, n, rfl, rfl, hg⟩, hvr, R', X'⟩
  obtain ⟨R2, X2⟩ := grow ι' h' w' (h3.trans X') R'
  have X2' : Ext ι h w1 { ι with im := ι'.im, gi := ι'.gi } h w' := ⟨Nat.le_refl _, ⟨fun _ _ => rfl, fun _ _ => .inl rfl, X'.up.im⟩, X'.size, fun r hr hn => ⟨(X'.frame r hr none_mut).1, fun ⟨b, o, hb, ho⟩ => hn ⟨b, o, hb, by rw [hat] at ho; exact ho⟩⟩, fun r i hr _ => X'.imf r i hr none_mut, X'.os, X'.tape, X'.output⟩
  obtain ⟨hb, hV, hle, hcur⟩ := hvr.vt_of rfl
  have hT := R'.tail b _ z' hg
  have hfar : (ι'.tk b).none = false → w1.heap.size ≤ (ι'.tk b).r := fun hf => by
    rcases Nat.lt_or_ge (ι'.tk b).r w1.heap.size with hlt | hge
    · exact absurd ⟨b, _, hg, by simp [Iota.at, hf]⟩ (X'.frame _ hlt none_mut).2
    · exact hge
  have hnm : (ι'.tk b).none = false → ¬ MutAt { ι with im := ι'.im, gi := ι'.gi } h (ι'.tk b).r := fun hf ⟨b2, o2, hb2, ho2⟩ => by
    rw [hat] at ho2
    have := R.real b2 o2 _ hb2 ho2
    have := h3.size
    have := hfar hf
    omega
  have R3 := R2.addTail (t := ι'.tk b) (n := es.length) (z := z') (fun hf => ⟨R'.real b _ _ hg (by simp [Iota.at, hf]), hnm hf⟩) hT
  have X3 := X2'.addTail (t := ι'.tk b) (n := es.length) (z := z') (fun hf => .inl (hfar hf))
  refine ⟨_, _, v, _, rfl, ⟨rfl, rfl⟩, ?_, R3, X3⟩
  refine .vt z es h.next v (by simp) (hes.vr (ι := ι') (N := h'.next) (fun r i x hx => by exact hx) hV) ?_ ?_
  · simp [updT, hT.hn]
  · intro _
    have := hcur hT.hn.symm
    simpa [updT] using this
 cases nx with
 | enter f args => exact h4.mono key
 | round l f tmps as bd => exact ⟨h4.1, h4.2.mono key⟩
 | _ => exact h4
theorem ICalls.fresh {key : Nat} {us : List Value} {z z' : Nat} {es : List Value} (hus : CloL us) (hes : Clo (VS z es))
  (H : ICalls E key us AHeap.none fun v h' => ∃ b n, v = VT z es b ∧ n = es.length ∧ h'.get b = some (.tail n z')) (h : AHeap) : ICalls E key us h fun v h' => v = VT z es h.next ∧ h' = h.alloc (.tail es.length z') :=
 ICallV.fresh (.func _ [] [] (fun v h => by cases h) (fun v h => by cases h)) hus hes H h
theorem ICallV.mode {fv : Value} {us : List Value} {Q : Value → Prop} {m m' : Bool} (H : ICallV E fv us ⟨0, [], m⟩ fun v _ => Q v) : ICallV E fv us ⟨0, [], m'⟩ fun v _ => Q v := by
 intro ι w fv' vs R hf hl
 have conv : ∀ ι w (m m' : Bool), Rel ι ⟨0, [], m⟩ w → Rel ι ⟨0, [], m'⟩ w := fun ι w m m' R => ⟨R.lt, R.real, R.rw, R.tail, R.loop, R.sep, R.im, R.gb⟩
 have conx : ∀ ι w (m m' : Bool) ι2 h2 w2, Ext ι ⟨0, [], m⟩ w ι2 h2 w2 → Ext ι ⟨0, [], m'⟩ w ι2 h2 w2 := fun ι w m m' ι2 h2 w2 X => ⟨X.next, X.up, X.size, X.frame, X.imf, X.os, X.tape, X.output⟩
 obtain ⟨nx, w1, h1, h2, h3, h4⟩ := H ι w fv' vs (conv _ _ _ _ R) hf hl
 refine ⟨nx, w1, h1, conv _ _ _ _ h2, ⟨h3.next, h3.up, h3.size, h3.frame, h3.imf, h3.os, h3.tape, h3.output⟩, ?_⟩
 have key : ∀ e w', Lift (fun v _ => Q v) ι ⟨0, [], m⟩ w1 e w' → Lift (fun v _ => Q v) ι ⟨0, [], m'⟩ w1 e w' := by
  rintro e w' ⟨ι', x, v, h', rfl, hq, hvr, R', X'⟩
  exact ⟨ι', x, v, h', rfl, hq, hvr, R', conx _ _ _ _ _ _ _ X'⟩
 cases nx with
 | enter f args => exact h4.mono key
 | round l f tmps as bd => exact ⟨h4.1, h4.2.mono key⟩
 | _ => exact h4
theorem ICalls.run {X : XT} [Mixed X.E] (hX : X.OK) {n key : Nat} {us : List Value} {u : Value} {m : Bool}
  (H : xcall X (xcode X n) (.func (.func (X.E.id key)) #[] #[]) us ⟨0, [], m⟩ (fun v _ => veq v u) = true) : ICalls X.E key us AHeap.none fun v _ => v = u :=
 ICallV.mode (m := m) (Q := fun v => v = u) ((icalls_run hX H).mono fun _ _ hv => veq_sound hv)
end
end Go.Proofs.Ytjnpdnlgkepmcaa.AM
