/- Slices that are written to, loops over functions, memory seen otherwise: rules by which a walk follows a computation. Conditions: none. -/
import Derived.Test.YtjnpdnlgkepmcaaAmLift2
namespace Go.Proofs.Ytjnpdnlgkepmcaa.AM
set_option linter.unusedSimpArgs false
set_option linter.unusedVariables false
open Go Go.RowKit
variable {E : Env}
section
variable {Q : IExit → St → Prop} {s : St} {a b : ICode}
theorem pw_soR {l : List IOpG} {keep : Option (List Nat)} (h : PO E l (fun s' => pkeeps keep s' fun s' => ∃ s2, Recast s.h.next s' s2 ∧ PW E b Q s2) s) : PW E (.seq (.ops l keep) b) Q s := pw_seqR (pw_ops h)
end
theorem Bnd.slice {n b o m k : Nat} (h : b < n) : Bnd n (.slice (some ⟨b, o, none⟩) m k) := fun ι N v hv => by
 cases hv with
 | slice _ _ _ _ a' c' hb ha hn hc hr => exact .slice _ _ _ _ a' c' h ha hn hc hr
theorem Bnd.map {n l : Nat} (h : l < n) : Bnd n (.map (some l)) := fun ι N v hv => by
 cases hv with
 | map _ hl => exact .map _ h
theorem Bnd.yield {n l : Nat} (h : l < n) : Bnd n (.func (.yield l) #[] #[]) := fun ι N v hv => by
 cases hv with
 | yield _ hl => exact .yield _ h
theorem Bnd.func {n : Nat} {g : FuncId} {xs us : List Value} (h : ∀ v, v ∈ xs → Bnd n v) (h' : ∀ v, v ∈ us → Bnd n v) : Bnd n (.func (.func g) ⟨xs⟩ ⟨us⟩) := fun ι N v hv => by
  cases hv with
  | func _ _ ys _ vs hs hx hs' hx' =>
    exact .func g _ ys _ vs hs (fun i u v hu hv => h u (mem_of_atA hu) _ _ _ (hx i u v hu hv)) hs' (fun i u v hu hv => h' u (mem_of_atA hu) _ _ _ (hx' i u v hu hv))
theorem oneL_map {α : Type} {f : α → Value} (h : ∀ x, (f x).oneCell' = true) : ∀ {l : List α}, oneL (l.map f) = true
 | [] => rfl
 | x :: r => by simp only [List.map_cons, oneL, h x, oneL_map h, Bool.and_self]
inductive BndL (n : Nat) : List Value → Prop
 | nil : BndL n []
 | cons {v : Value} {r : List Value} (h : Bnd n v) (hr : BndL n r) : BndL n (v :: r)
theorem BndL.at {n : Nat} {l : List Value} (H : BndL n l) : ∀ v, v ∈ l → Bnd n v := by
  induction H with
  | nil => intro v h; cases h
  | cons h _ ih =>
    intro v hv
    rcases List.mem_cons.1 hv with rfl | hv
    · exact h
    · exact ih v hv
theorem Bnd.funcl {n : Nat} {g : FuncId} {xs us : List Value} (h : BndL n xs) (h' : BndL n us) : Bnd n (.func (.func g) ⟨xs⟩ ⟨us⟩) := .func h.at h'.at
theorem Bnd.aggl {n : Nat} {xs : List Value} (h : BndL n xs) : Bnd n (.agg ⟨xs⟩) := fun ι N v hv => by
 cases hv with
 | agg _ ys hs hx => exact .agg _ ys hs fun i u v hu hv => h.at u (mem_of_atA hu) _ _ _ (hx i u v hu hv)
theorem OBnd.rwl {n b : Nat} {c : List Value} (h : b < n) (h1 : oneL c = true) (h2 : BndL n c) : OBnd n b (.rw c) := ⟨h, h1, h2.at⟩
theorem Recast.wkrow {K n b : Nat} {m : Bool} {t : List (Nat × Value)} {l l2 : List (Nat × AObj)} {c c2 : List Value} (hK : K ≤ n) (hb : AHeap.get ⟨n, l, m⟩ b = some (.rw c)) (he : (⟨n, l2, m⟩ : AHeap) = (AHeap.mk n l m).put b (.rw c2)) (hl : c2.length ≤ c.length)
   (hw : ∀ (i : Nat) (u' : Value), c2[i]? = some u' → u'.oneCell' = true ∧ ∃ u, c[i]? = some u ∧ Wk u u') : Recast K ⟨t, ⟨n, l, m⟩⟩ ⟨t, ⟨n, l2, m⟩⟩ := by
 have hget : ∀ x, AHeap.get ⟨n, l2, m⟩ x = if x = b then some (.rw c2) else AHeap.get ⟨n, l, m⟩ x := fun x => by rw [he, AHeap.get_put]; rfl
 have hold : ∀ x o, AHeap.get ⟨n, l2, m⟩ x = some o → ∃ o', AHeap.get ⟨n, l, m⟩ x = some o' ∧ ∀ ι : Iota, ι.at x o' = ι.at x o := fun x o hx => by
   rw [hget] at hx
   split at hx
   · rename_i e; subst e; injection hx with hx; subst hx; exact ⟨_, hb, fun _ => rfl⟩
   · exact ⟨o, hx, fun _ => rfl⟩
 refine .inr ⟨hK, fun ι w rt R T => ⟨ι, ⟨fun x o hx => ?_, fun x o r hx hr => ?_, fun x c' hx => ?_, fun x k z hx => ?_, fun x L hx => ?_, fun x o x' o' r hx hr hx' hne => ?_, R.im, R.gb⟩, T, .refl, fun r ⟨x, o, hx, hr⟩ => ?_, fun _ _ _ => rfl⟩⟩
 · obtain ⟨o', h1, _⟩ := hold x o hx; exact R.lt x o' h1
 · obtain ⟨o', h1, h2⟩ := hold x o hx; exact R.real x o' r h1 (by rw [h2]; exact hr)
 · rw [hget] at hx
   split at hx
   · rename_i e; subst e
     injection hx with hx; injection hx with hx; subst hx
     obtain ⟨h1, h2, h3⟩ := R.rw x c hb
     refine ⟨Nat.le_trans hl h1, h2, fun i u' hu => ?_⟩
     obtain ⟨h4, u, h5, h6⟩ := hw i u' hu
     obtain ⟨_, v, h7, h8⟩ := h3 i u h5
     exact ⟨h4, v, h7, h6.vr h8⟩
   · exact R.rw x c' hx
 · rw [hget] at hx
   split at hx
   · cases hx
   · exact R.tail x k z hx
 · rw [hget] at hx
   split at hx
   · cases hx
   · exact R.loop x L hx
 · obtain ⟨o1, h1, h2⟩ := hold x o hx
   obtain ⟨o2, h3, h4⟩ := hold x' o' hx'
   rw [← h4]; exact R.sep x o1 x' o2 r h1 (by rw [h2]; exact hr) h3 hne
 · obtain ⟨o', h1, h2⟩ := hold x o hx; exact ⟨x, o', h1, by rw [h2]; exact hr⟩
inductive FzO (h : AHeap) (D : Nat → Bool) (n k : Nat) : AObj → Prop
 | same {o : AObj} (hD : D k = false) (hg : look h.objs k = some o) (hb : OBnd n k o) : FzO h D n k o
 | row {c c2 : List Value} (hD : D k = false) (hk : k < n) (hg : look h.objs k = some (.rw c)) (hl : c2.length ≤ c.length) (hc : ∀ (i : Nat) (u' : Value), c2[i]? = some u' → u'.oneCell' = true ∧ ∃ u, c[i]? = some u ∧ Fz h D n u u') : FzO h D n k (.rw c2)
 | dead : FzO h D n k .dead
inductive FzHL (h : AHeap) (D : Nat → Bool) (n : Nat) : List (Nat × AObj) → Prop
 | nil : FzHL h D n []
 | cons {b : Nat} {o : AObj} {r : List (Nat × AObj)} (ho : FzO h D n b o) (hr : FzHL h D n r) : FzHL h D n ((b, o) :: r)
theorem FzHL.at {h : AHeap} {D : Nat → Bool} {n : Nat} {l : List (Nat × AObj)} (H : FzHL h D n l) : ∀ b o, look l b = some o → FzO h D n b o := by
  induction H with
  | nil => intro b o h; cases h
  | cons ho _ ih =>
    intro k u hk
    simp only [look] at hk
    split at hk
    · rename_i e; subst e; injection hk with hk; subst hk; exact ho
    · exact ih k u hk
inductive FzSL (h : AHeap) (D : Nat → Bool) (n : Nat) (t : List (Nat × Value)) : List (Nat × Value) → Prop
 | nil : FzSL h D n t []
 | cons {k : Nat} {u u' : Value} {r : List (Nat × Value)} (hk : look t k = some u) (hf : Fz h D n u u') (hr : FzSL h D n t r) : FzSL h D n t ((k, u') :: r)
theorem FzSL.at {h : AHeap} {D : Nat → Bool} {n : Nat} {t t2 : List (Nat × Value)} (H : FzSL h D n t t2) : ∀ k u', look t2 k = some u' → ∃ u, look t k = some u ∧ Fz h D n u u' := by
  induction H with
  | nil => intro b o h; cases h
  | cons hk hf _ ih =>
    intro j u hj
    simp only [look] at hj
    split at hj
    · rename_i e; subst e; injection hj with hj; subst hj; exact ⟨_, hk, hf⟩
    · exact ih j u hj
theorem Recast.fz (D : Nat → Bool) {K n1 n2 : Nat} {m1 m2 : Bool} {t t2 : List (Nat × Value)} {l l2 : List (Nat × AObj)} (hK : K ≤ n2) (hH : FzHL ⟨n1, l, m1⟩ D n2 l2) (hT : FzSL ⟨n1, l, m1⟩ D n2 t t2) : Recast K ⟨t, ⟨n1, l, m1⟩⟩ ⟨t2, ⟨n2, l2, m2⟩⟩ := by
  refine .inr (RC.fz D hK (fun b o2 hb => ?_) hT.at)
  unfold AHeap.get at hb
  obtain ⟨o, h1, h2⟩ := bind_some hb
  have ho := hH.at b o h1
  cases ho with
  | same hD hg hbd =>
    have hg' : AHeap.get ⟨n1, l, m1⟩ b = o.live := by unfold AHeap.get; rw [hg]; rfl
    cases o with
    | rw c =>
      simp only [AObj.live, Option.some.injEq] at h2; subst h2
      exact ⟨hbd.1, hD, .inr (.inl ⟨c, c, rfl, hg', Nat.le_refl _, fun i u hu => ⟨oneL_at hbd.2.1 hu, u, hu, .same u (hbd.2.2 u (mem_of_at hu))⟩⟩)⟩
    | tail k z => simp only [AObj.live, Option.some.injEq] at h2; subst h2; exact ⟨hbd, hD, .inl ⟨k, z, rfl, hg'⟩⟩
    | dead => simp [AObj.live] at h2
    | loop L => simp only [AObj.live, Option.some.injEq] at h2; subst h2; exact ⟨hbd.1, hD, .inr (.inr ⟨L, rfl, hg', hbd.2⟩)⟩
  | row hD hk hg hl hc =>
    simp only [AObj.live, Option.some.injEq] at h2; subst h2
    exact ⟨hk, hD, .inr (.inl ⟨_, _, rfl, by unfold AHeap.get; rw [hg]; rfl, hl, hc⟩)⟩
  | dead => simp [AObj.live] at h2
theorem Fz.slm {α : Type} {f : α → Value} [hf : ∀ x, Cl (f x)] {h : AHeap} {D : Nat → Bool} {n b m k : Nat} {l : List α} (hD : D b = true) (hg : h.get b = some (.rw (l.map f))) (hm : Nat.beq m l.length = true) (h1 : ∀ x, (f x).oneCell' = true) : Fz h D n (.slice (some ⟨b, 0, none⟩) m k) (VS 1 (l.map f)) := by
 obtain rfl := Nat.eq_of_beq_eq_true hm
 exact Fz.sl1 (b := b) (o := 0) (k := k) hD hg (by simp) (by simp) (by rw [List.drop_zero, List.take_of_length_le (by simp)]) (fun v hv => by obtain ⟨x, _, rfl⟩ := List.mem_map.1 hv; exact h1 x)
theorem Dp.slm {α : Type} {f : α → Value} [hf : ∀ x, Cl (f x)] {h : AHeap} {b m k : Nat} {l : List α} (hg : h.get b = some (.rw (l.map f))) (hm : Nat.beq m l.length = true) (h1 : ∀ x, (f x).oneCell' = true) : Dp h (.slice (some ⟨b, 0, none⟩) m k) (VS 1 (l.map f)) := by
 obtain rfl := Nat.eq_of_beq_eq_true hm
 exact Dp.sl1 (b := b) (o := 0) (k := k) hg (by simp) (by simp) (by rw [List.drop_zero, List.take_of_length_le (by simp)]) (fun v hv => by obtain ⟨x, _, rfl⟩ := List.mem_map.1 hv; exact h1 x)
section
variable {α β : Type} {v : β} {f : α → Value}
theorem nth_a {l : List α} {n : Nat} {F : α → Option β} {K : Value → Prop} (H : obnd (l[n]?) F = some v) (h : ∀ x, l[n]? = some x → F x = some v → K (f x)) : obind (nthv (l.map f) (0 + n * 1)) K := by
 obtain ⟨x, hx, H⟩ := obnd_some H
 rw [show 0 + n * 1 = n by omega]
 exact obind_intro (nthv_map hx) (h x hx H)
theorem ble_row {l : List α} {n : Nat} {c : List Value} (hc : c.length = l.length) (hi : Nat.blt n l.length = true) : Nat.ble (0 + n * 1 + 1) c.length = true := by
 rw [hc]
 have : n < l.length := by simpa [Nat.blt_eq] using hi
 exact Nat.ble_eq ▸ (by omega)
theorem set_a {l : List α} {n : Nat} {x : α} {K : List Value → Prop} (hi : Nat.blt n l.length = true) (h1 : (f x).oneCell' = true) (h : K ((l.set n x).map f)) :
  pbr (Nat.ble (0 + n * 1 + 1) (l.map f).length) (pbr (oneL [f x]) (fS (setCells (l.map f) (0 + n * 1) [f x]) K) False) False := by
 rw [ble_row (l := l) (by simp) hi, show oneL [f x] = true by simp [oneL, h1]]
 show fS _ K
 rw [fS_eq]
 simp only [setCells]
 rw [show 0 + n * 1 = n by omega, ← List.map_set]; exact h
theorem replL_map {x : α} : ∀ {k : Nat}, replL k [f x] = (List.replicate k x).map f
  | 0 => rfl
  | k + 1 => by
    have := replL_map (x := x) (k := k)
    unfold replL at this ⊢
    rw [List.replicate_succ, List.flatten_cons, this, List.replicate_succ]; rfl
def mfits (bytes : Nat) (l c : Int) : Bool := ile 0 l && (ile l c && (ile (c * bytes) 1099511627776 && ile c 1099511627776))
theorem mfits_o {bytes : Nat} {l c : Int} (h : mfits bytes l c = true) : 0 ≤ l ∧ l ≤ c ∧ c * bytes ≤ 1099511627776 ∧ c ≤ 1099511627776 := by
 simp only [mfits, ile_eq, Bool.and_eq_true, decide_eq_true_eq] at h
 exact ⟨h.1, h.2.1, h.2.2.1, h.2.2.2⟩
theorem mk_o {x : α} {l c : Int} {bytes : Nat} {h0 : AHeap} {w : Nat → Value} {k : Option Value → AHeap → Prop} {z : List Value} (hz : z = [f x]) (hf : mfits bytes l c = true) (h : pnew h0 (.rw ((List.replicate l.toNat x).map f)) w k) :
  0 ≤ l ∧ l ≤ c ∧ c * bytes ≤ 1099511627776 ∧ c ≤ 1099511627776 ∧ pnew h0 (.rw (replL l.toNat z)) w k := by
 obtain ⟨h1, h2, h3, h4⟩ := mfits_o hf
 subst hz
 exact ⟨h1, h2, h3, h4, by rw [replL_map]; exact h⟩
end
def sel {α : Type} (i j : Nat) (x y : α) : α := bif Nat.beq i j then x else y
def selL {α : Type} (i : Nat) (x : α) : Nat → List α → List α
 | _, [] => []
 | j, y :: r => sel i j x y :: selL i x (j + 1) r
theorem Rel.addRow {ι : Iota} {h : AHeap} {w : World} (R : Rel ι h w) {c : List Value} {l : Loc} (hr : l.r < w.heap.size) (hm : ¬ MutAt ι h l.r) (hlen : c.length ≤ l.tot)
   (htot : ∀ i, i < l.tot → (∃ v, w.cell? ⟨l.r, l.f + i, none⟩ = some v) ∧ w.frozen? ⟨l.r, l.f + i, none⟩ = false ∧ ι.im l.r (l.f + i) = none)
   (hc : ∀ (i : Nat) (u : Value), c[i]? = some u → u.oneCell' = true ∧ ∃ v, w.cell? ⟨l.r, l.f + i, none⟩ = some v ∧ VR ι h.next u v) : Rel (upd ι h.next l) (h.alloc (.rw c)) w := by
 have hget : ∀ x, (h.alloc (.rw c)).get x = if x = h.next then some (.rw c) else h.get x := fun x => by rw [AHeap.get_alloc]; rfl
 have hold : ∀ x ox, (h.alloc (.rw c)).get x = some ox → x ≠ h.next → h.get x = some ox := fun x ox hx hxb => by rw [hget, if_neg hxb] at hx; exact hx
 have hnew : ∀ ox, (h.alloc (.rw c)).get h.next = some ox → ox = .rw c := fun ox hx => by rw [hget, if_pos rfl] at hx; injection hx with hx; exact hx.symm
 refine ⟨?_, ?_, ?_, ?_, ?_, ?_, R.im, R.gb⟩
 · intro x y hx
   by_cases e : x = h.next
   · subst e; simp
   · have := R.lt x y (hold x y hx e); simp; omega
 · intro x y r hx hr'
   by_cases e : x = h.next
   · subst e; obtain rfl := hnew y hx; simp only [Iota.at, upd_same] at hr'; injection hr' with hr'; subst hr'; exact hr
   · rw [at_upd e] at hr'; exact R.real x y r (hold x y hx e) hr'
 · intro x cx hx
   by_cases e : x = h.next
   · subst e
     have := hnew _ hx
     injection this with this; subst this
     rw [upd_same]
     refine ⟨hlen, htot, fun i y hy => ?_⟩
     obtain ⟨h0, z, h1, h2⟩ := hc i y hy
     rw [upd_same]
     exact ⟨h0, z, h1, h2.more (by simp) .upd⟩
   · obtain ⟨h2, h4, h5⟩ := R.rw x cx (hold x _ hx e)
     rw [upd_ne _ _ e]
     exact ⟨h2, h4, h5.more (by simp) .upd (upd_ne _ _ e) fun _ _ h => h⟩
 · intro x n z hx
   have e : x ≠ h.next := fun e => by subst e; cases hnew _ hx
   exact R.tail x n z (hold x _ hx e)
 · intro x L hx
   have e : x ≠ h.next := fun e => by subst e; cases hnew _ hx
   rw [upd_ne _ _ e]
   obtain ⟨ob, h1, h2⟩ := R.loop x L (hold x _ hx e)
   exact ⟨ob, h1, h2.more (by simp) .upd⟩
 · intro x ox y oy r hx hr' hy hne
   by_cases e : x = h.next
   · subst e
     obtain rfl := hnew ox hx
     simp only [Iota.at, upd_same] at hr'
     injection hr' with hr'; subst hr'
     rw [at_upd hne]
     exact fun hh => hm ⟨y, oy, hold y oy hy hne, hh⟩
   · rw [at_upd e] at hr'
     by_cases e' : y = h.next
     · subst e'
       obtain rfl := hnew oy hy
       simp only [Iota.at, upd_same]
       intro hh; injection hh with hh
       exact hm ⟨x, ox, hold x ox hx e, by rw [hh]; exact hr'⟩
     · rw [at_upd e']; exact R.sep x ox y oy r (hold x ox hx e) hr' (hold y oy hy e') hne
theorem ICallV.new {fv : Value} {us : List Value} {m c : Nat} {es : List Value} (hf : Clo fv) (hus : CloL us) (hes : CloL es)
    (H : ICallV E fv us AHeap.none fun v h' => ∃ b, v = .slice (some ⟨b, 0, none⟩) m c ∧ h'.get b = some (.rw es)) (h : AHeap) : ICallV E fv us h fun v h' => v = .slice (some ⟨h.next, 0, none⟩) m c ∧ h' = h.alloc (.rw es) := by
  intro ι w fv' vs R hf' hl
  obtain ⟨nx, w1, h1, h2, h3, h4⟩ := H ι w fv' vs (.bare R.im R.gb) (hf.vr (fun _ _ _ h => h) hf') (hus.vrl (fun _ _ _ h => h) hl)
  have hat : ∀ (κ : Iota) b o, ({ ι with im := κ.im, gi := κ.gi } : Iota).at b o = ι.at b o := fun κ b o => by cases o <;> rfl
  have grow : ∀ ι2 h2 w2, Ext ι AHeap.none w ι2 h2 w2 → Rel ι2 h2 w2 → Rel { ι with im := ι2.im, gi := ι2.gi } h w2 ∧ Ext ι h w { ι with im := ι2.im, gi := ι2.gi } h w2 := by
    intro ι2 h2 w2 X R2
    have hh : ∀ r, r < w.heap.size → w2.heap[r]? = w.heap[r]? := fun r hr => (X.frame r hr none_mut).1
    have hi : ∀ r i, r < w.heap.size → ι2.im r i = ι.im r i := fun r i hr => X.imf r i hr none_mut
    refine ⟨R.same X.size hh hi R2.im, ⟨Nat.le_refl _, ⟨fun _ _ => rfl, fun _ _ => .inl rfl, X.up.im⟩, X.size, fun r hr hn => ⟨hh r hr, fun ⟨b, o, hb, ho⟩ => hn ⟨b, o, hb, by rw [hat] at ho; exact ho⟩⟩, fun r i hr _ => hi r i hr, X.os, X.tape, X.output⟩⟩
  refine ⟨nx, w1, h1, (grow ι _ w1 h3 h2).1, (grow ι _ w1 h3 h2).2, ?_⟩
  have key : ∀ e w', Lift (fun v h' => ∃ b, v = .slice (some ⟨b, 0, none⟩) m c ∧ h'.get b = some (.rw es)) ι AHeap.none w1 e w' → Lift (fun v h' => v = .slice (some ⟨h.next, 0, none⟩) m c ∧ h' = h.alloc (.rw es)) ι h w1 e w' := by
    rintro e w' ⟨ι', x, v, h', rfl, ⟨b, rfl, hg⟩, hvr, R', X'⟩
    obtain ⟨R2, X2⟩ := grow ι' h' w' (h3.trans X') R'
    have X2' : Ext ι h w1 { ι with im := ι'.im, gi := ι'.gi } h w' := ⟨Nat.le_refl _, ⟨fun _ _ => rfl, fun _ _ => .inl rfl, X'.up.im⟩, X'.size, fun r hr hn => ⟨(X'.frame r hr none_mut).1, fun ⟨b, o, hb, ho⟩ => hn ⟨b, o, hb, by rw [hat] at ho; exact ho⟩⟩, fun r i hr _ => X'.imf r i hr none_mut, X'.os, X'.tape, X'.output⟩
    obtain ⟨hlen, htot, hCR⟩ := R'.rw b es hg
    have hfar : w1.heap.size ≤ (ι' b).r := by
      rcases Nat.lt_or_ge (ι' b).r w1.heap.size with hlt | hge
      · exact absurd ⟨b, _, hg, rfl⟩ (X'.frame _ hlt none_mut).2
      · exact hge
    have hnm : ¬ MutAt { ι with im := ι'.im, gi := ι'.gi } h (ι' b).r := fun ⟨b2, o2, hb2, ho2⟩ => by
      rw [hat] at ho2
      have := R.real b2 o2 _ hb2 ho2
      have := h3.size
      omega
    have R3 := R2.addRow (c := es) (l := ι' b) (R'.real b _ _ hg rfl) hnm hlen htot fun i u hu => by
      obtain ⟨h5, v, h6, h7⟩ := hCR i u hu
      exact ⟨h5, v, h6, Clo.vr (ι := ι') (ι' := { ι with im := ι'.im, gi := ι'.gi }) (N := h'.next) (N' := h.next) (hes u (mem_of_at hu)) (fun r i x hx => hx) h7⟩
    refine ⟨_, _, v, _, rfl, ⟨rfl, rfl⟩, ?_, R3, ⟨by have := X2'.next; simp, X2'.up.trans .upd X2'.next, X2'.size, fun x hx hn => ⟨(X2'.frame x hx hn).1, fun ⟨b2, o2, hb2, ho2⟩ => ?_⟩, X2'.imf, X2'.os, X2'.tape, X2'.output⟩⟩
    · cases hvr with
      | slice _ _ _ _ a' c' hb ha hn hc0 hr =>
        exact .slice _ _ _ _ a' c' (by simp) (by rw [upd_same]; exact ha) hn hc0 (by rw [upd_same]; exact hr)
    · by_cases e : b2 = h.next
      · subst e
        rw [AHeap.get_alloc, if_pos rfl] at hb2
        simp [AObj.live] at hb2; subst hb2
        simp only [Iota.at, upd_same] at ho2
        injection ho2 with ho2
        omega
      · rw [AHeap.get_alloc, if_neg e] at hb2
        rw [at_upd e] at ho2
        exact (X2'.frame x hx hn).2 ⟨b2, o2, hb2, ho2⟩
  cases nx with
  | enter f args => exact h4.mono key
  | round l f tmps as bd => exact ⟨h4.1, h4.2.mono key⟩
  | _ => exact h4
theorem ICalls.goN {α : Type} {f : α → Value} [hf : ∀ x, Cl (f x)] {key : Nat} {us us' : List Value} {c : Nat} {l : List α} [hus : ClL us']
  (H : ICalls E key us' AHeap.none fun v h' => ∃ b, v = .slice (some ⟨b, 0, none⟩) l.length c ∧ h'.get b = some (.rw (l.map f))) (hw : WkL us us') {h : AHeap} {Q : Value → AHeap → Prop}
  (hq : Q (.slice (some ⟨h.next, 0, none⟩) l.length c) (h.alloc (.rw (l.map f)))) : PCalls E key us h Q :=
 ⟨ICalls.weak (ICalls.use2 (ICallV.new (.func _ [] [] (fun v h => by cases h) (fun v h => by cases h)) hus.out (ClL.out (l := l.map f)) H h) hq) hw⟩
theorem pcalls_in {k : Nat} {F : IFn} [H : Has E k F] [M : Mixed E] {us : List Value} {h : AHeap} {Q : Value → AHeap → Prop} (hb : pfnW E F us h Q) : PCalls E k us h Q := ⟨icalls_fn (pfnw hb)⟩
theorem pcallv_in {k : Nat} {F : IFn} [H : Has E k F] [M : Mixed E] {xs cs us : List Value} {h : AHeap} {Q : Value → AHeap → Prop} (hb : pfnW E F (xs ++ us ++ cs) h Q) : PCallV E (.func (.func (E.id k)) ⟨xs⟩ ⟨cs⟩) us h Q := ⟨icallv_fn (pfnw hb)⟩
def pjump (l : Nat) (Q : IExit → St → Prop) (t : List (Nat × Value)) (h : AHeap) : Prop :=
  obind (h.get l) fun o => match o with
    | .loop L => match L.state with
      | .busy => False
      | _ => match L.pending with
        | none => pput h l .dead fun h => Q .normal ⟨t, h⟩
        | some .ret => pput h l .dead fun h => Q .ret ⟨t, h⟩
        | some (.exit id) => pput h l .dead fun h => Q (.exit id) ⟨t, h⟩
        | _ => False
    | _ => False
theorem pjump_sound {l : Nat} {Q : IExit → St → Prop} {t : List (Nat × Value)} {h : AHeap} (H : pjump l Q t h) : ijump l Q t h := by
  obtain ⟨o, h1, H⟩ := obind_iff.1 H
  cases o with
  | loop L =>
    refine ⟨L, h1, ?_⟩
    cases hs : L.state with
    | busy => simp only [hs] at H
    | _ =>
      simp only [hs, pput_eq] at H
      refine ⟨by simp, ?_⟩
      cases hp : L.pending with
      | none => rw [hp] at H; exact H
      | some c => rw [hp] at H; cases c <;> first | exact H | exact H.elim
  | _ => exact H.elim
theorem pw_range {n : Nat} {g : Opd} {ps : Array Tmp} {ca cb : Code} {Q : IExit → St → Prop} {t : List (Nat × Value)} {h : AHeap} (l : List Nat)
    (H : obind ((St.mk t h).ev E g) fun fv => pbr (vfn fv) (akeepF t l fun t2 => match h with | ⟨n0, os, m⟩ => fNat n0 fun nx => PCallV E fv [.func (.yield nx) #[] #[]] ⟨nx + 1, (nx, .loop ⟨.ready, none, t2, n, ps, ca, cb⟩) :: os, m⟩ fun _ h' => pjump nx Q t2 h') False) : PW E (.range n g ps ca cb) Q ⟨t, h⟩ := by
  obtain ⟨fv, h1, H⟩ := obind_iff.1 H
  cases hv : vfn fv with
  | false => rw [hv] at H; exact H.elim
  | true =>
    rw [hv] at H
    have H : akeepF t l _ := H
    obtain ⟨n0, os, m⟩ := h
    rw [akeepF_eq] at H
    simp only [fNat_eq] at H
    refine ⟨obind_iff.2 ⟨fv, h1, hv, akeep t l, fun k v hk => look_akeep _ _ _ _ hk, ?_⟩⟩
    exact H.out.mono fun v h' hj => ijump_mono (fun e s hs => ⟨s, hs, .refl⟩) (pjump_sound hj)
def putLF : List (Nat × Value) → List Nat → List Value → (List (Nat × Value) → Prop) → Prop
 | t, p :: ps, u :: us, k => putLF ((p, u) :: t) ps us k
 | t, _, _, k => k t
theorem putLF_eq : ∀ {ps : List Nat} {us : List Value} {t : List (Nat × Value)} {k : List (Nat × Value) → Prop}, putLF t ps us k = k (putL t ps us)
 | [], us, t, k => by cases us <;> rfl
 | p :: ps, [], t, k => rfl
 | p :: ps, u :: us, t, k => by simp only [putLF, putL]; exact putLF_eq
def pround (l : Nat) (Q : Value → AHeap → Prop) (e : IExit) (s : St) : Prop :=
  match s with | ⟨_, h0⟩ => obind (h0.get l) fun o => match o with
    | .loop ⟨_, none, ts, z, ps, ca, cb⟩ => (match e with
      | .normal => pput h0 l (.loop ⟨.ready, none, ts, z, ps, ca, cb⟩) fun h => Q (.bool true) h
      | .exit id => pput h0 l (.loop ⟨.done, some (.exit id), ts, z, ps, ca, cb⟩) fun h => Q (.bool false) h
      | .ret => pput h0 l (.loop ⟨.done, some .ret, ts, z, ps, ca, cb⟩) fun h => Q (.bool false) h)
    | _ => False
theorem pround_sound {l : Nat} {Q : Value → AHeap → Prop} {e : IExit} {s : St} (H : pround l Q e s) : iround l Q e s := by
  obtain ⟨o, h1, H⟩ := obind_iff.1 H
  cases o with
  | loop L =>
    obtain ⟨st, pe, ts, z, ps, ca, cb⟩ := L
    cases pe with
    | some x => exact H.elim
    | none =>
      refine ⟨_, h1, fun e => (by cases e), ?_⟩
      cases e <;> (simp only [pput_eq] at H; exact H)
  | _ => exact H.elim
def qyield (E : Env) (l : Nat) (ib : ICode) (Q : Value → AHeap → Prop) : IExit → St → Prop := fun e s => match e with
      | .normal => match s with | ⟨t, h0⟩ => obind (h0.get l) fun o => match o with
        | .loop ⟨.ready, p, ts, z, ps, ca, cb⟩ => pput h0 l (.loop ⟨.busy, p, ts, z, ps, ca, cb⟩) fun h => PW E ib (pround l Q) ⟨t, h⟩
        | _ => False
      | _ => False
def pyield (E : Env) (l : Nat) (us : List Value) (h : AHeap) (ia ib : ICode) (Q : Value → AHeap → Prop) : Prop :=
 obind (h.get l) fun o => match o with
  | .loop ⟨_, _, ts, z, ps, _, _⟩ => pbr (Nat.beq us.length ps.size && ps.toList.all (fun p => Nat.blt p z)) (putLF ts ps.toList us fun t => PW E ia (qyield E l ib Q) ⟨t, h⟩) False
  | _ => False
theorem pcallv_yield [M : Mixed E] {l : Nat} {us : List Value} {h : AHeap} {Q : Value → AHeap → Prop} (ia ib : ICode) {n : Nat} {ca cb : Code} (hpa : ia.plain = true) (hpb : ib.plain = true) (ha : ccode E n ia ca = some ia) (hb : ccode E n ib cb = some ib)
    (hL : ∃ st p t ps, h.get l = some (.loop ⟨st, p, t, n, ps, ca, cb⟩)) (H : pyield E l us h ia ib Q) : PCallV E (.func (.yield l) #[] #[]) us h Q := by
  obtain ⟨o, h1, H⟩ := obind_iff.1 H
  obtain ⟨st, p, t, ps, hL⟩ := hL
  rw [hL] at h1; injection h1 with h1; subst h1
  simp only at H
  cases hb0 : Nat.beq us.length ps.size && ps.toList.all (fun p => Nat.blt p n) with
  | false => rw [hb0] at H; exact H.elim
  | true =>
    rw [hb0] at H
    have H : putLF _ _ _ _ := H
    rw [putLF_eq] at H
    simp only [Bool.and_eq_true, List.all_eq_true] at hb0
    refine ⟨icallv_yield hL (Nat.eq_of_beq_eq_true hb0.1) (fun p hp => by simpa [Nat.blt_eq] using hb0.2 p hp) ha hb hpa hpb (iwp_mono (fun e s he => ?_) H.out)⟩
    obtain ⟨s2, h2, h3⟩ := he
    cases e with
    | exit id => exact h2.elim
    | ret => exact h2.elim
    | normal =>
      obtain ⟨o, h4, h2⟩ := obind_iff.1 h2
      cases o with
      | loop L1 =>
        obtain ⟨st1, p1, t1, z1, ps1, ca1, cb1⟩ := L1
        cases st1 with
        | ready =>
          simp only [pput_eq] at h2
          refine ⟨_, by rw [← h3.h]; exact h4, rfl, ?_⟩
          have h5 := h2.sub (s := ⟨s.t, s.h.put l (.loop ⟨.busy, p1, t1, z1, ps1, ca1, cb1⟩)⟩) ⟨h3.t, by rw [← h3.h]⟩
          refine iwp_mono (fun e s' he => ?_) h5.out
          obtain ⟨s4, h6, h7⟩ := he
          obtain ⟨L2, h8, h9⟩ := pround_sound h6
          exact ⟨L2, by rw [← h7.h]; exact h8, by rw [← h7.h]; exact h9⟩
        | _ => exact h2.elim
      | _ => exact h2.elim
end Go.Proofs.Ytjnpdnlgkepmcaa.AM
