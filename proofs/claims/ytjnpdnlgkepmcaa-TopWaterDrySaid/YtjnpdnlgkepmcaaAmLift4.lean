/- A block gets another name: variables of loops that are made anew in each round. Conditions: none. -/
import Derived.Test.YtjnpdnlgkepmcaaAmLift3
namespace Go.Proofs.Ytjnpdnlgkepmcaa.AM
set_option linter.unusedSimpArgs false
set_option linter.unusedVariables false
open Go Go.RowKit
def MvV (b b2 n : Nat) (u u' : Value) : Prop := ∀ (ι : Iota) (N : Nat) (v : Value), VR ι N u v → VR (upd ι b2 (ι b)) n u' v
theorem Clo.mv {u v : Value} (h : Clo u) {ι : Iota} {N n b2 : Nat} {l : Loc} (hv : VR ι N u v) : VR (upd ι b2 l) n u v := h.vr (ι := ι) (ι' := upd ι b2 l) (fun _ _ _ h => h) hv
inductive MvL (b b2 n : Nat) : List Value → List Value → Prop
 | nil : MvL b b2 n [] []
 | cons {u u' : Value} {r r' : List Value} (h : MvV b b2 n u u') (hr : MvL b b2 n r r') : MvL b b2 n (u :: r) (u' :: r')
theorem MvL.len {b b2 n : Nat} {l l' : List Value} (H : MvL b b2 n l l') : l.length = l'.length := by
 induction H with
 | nil => rfl
 | cons _ _ ih => simp [ih]
theorem MvL.at {b b2 n : Nat} {l l' : List Value} (H : MvL b b2 n l l') : ∀ (i : Nat) (u' : Value), l'[i]? = some u' → ∃ u, l[i]? = some u ∧ MvV b b2 n u u' := by
  induction H with
  | nil => intro i u h; simp at h
  | cons h _ ih =>
    intro i u hu
    cases i with
    | zero => simp at hu; subst hu; exact ⟨_, rfl, h⟩
    | succ i => exact ih i u (by simpa using hu)
section
variable {b b2 n : Nat}
theorem MvV.cl {u : Value} [hu : Cl u] : MvV b b2 n u u := fun ι N v hv => hu.out.mv hv
theorem MvV.ptr {c o : Nat} (h : c ≠ b2) (hc : c < n) : MvV b b2 n (.pointer (some ⟨c, o, none⟩)) (.pointer (some ⟨c, o, none⟩)) := fun ι N v hv => by
 cases hv with
 | ptr => have := VR.ptr (ι := upd ι b2 (ι b)) (N := n) c o hc; rwa [upd_ne _ _ h] at this
theorem MvV.ptrm {o : Nat} (hc : b2 < n) : MvV b b2 n (.pointer (some ⟨b, o, none⟩)) (.pointer (some ⟨b2, o, none⟩)) := fun ι N v hv => by
 cases hv with
 | ptr => have := VR.ptr (ι := upd ι b2 (ι b)) (N := n) b2 o hc; rwa [upd_same] at this
theorem MvV.slice {c o m k : Nat} (h : c ≠ b2) (hc : c < n) : MvV b b2 n (.slice (some ⟨c, o, none⟩) m k) (.slice (some ⟨c, o, none⟩) m k) := fun ι N v hv => by
 cases hv with
 | slice _ _ _ _ a' c' hb ha hn hc0 hr => exact .slice _ _ _ _ a' c' hc (by rw [upd_ne _ _ h]; exact ha) hn hc0 (by rw [upd_ne _ _ h]; exact hr)
theorem MvV.slicem {o m k : Nat} (hc : b2 < n) : MvV b b2 n (.slice (some ⟨b, o, none⟩) m k) (.slice (some ⟨b2, o, none⟩) m k) := fun ι N v hv => by
 cases hv with
 | slice _ _ _ _ a' c' hb ha hn hc0 hr => exact .slice _ _ _ _ a' c' hc (by rw [upd_same]; exact ha) hn hc0 (by rw [upd_same]; exact hr)
theorem MvV.yield {l : Nat} (h : l ≠ b2) (hc : l < n) : MvV b b2 n (.func (.yield l) #[] #[]) (.func (.yield l) #[] #[]) := fun ι N v hv => by
 cases hv with
 | yield => have := VR.yield (ι := upd ι b2 (ι b)) (N := n) l hc; rwa [upd_ne _ _ h] at this
theorem MvV.map {l : Nat} (h : l ≠ b2) (hc : l < n) : MvV b b2 n (.map (some l)) (.map (some l)) := fun ι N v hv => by
 cases hv with
 | map => have := VR.map (ι := upd ι b2 (ι b)) (N := n) l hc; rwa [upd_ne _ _ h] at this
theorem MvV.vt {z t : Nat} {es : List Value} [hes : ClL es] (hc : t < n) : MvV b b2 n (VT z es t) (VT z es t) := fun ι N v hv => by
 obtain ⟨hb, hV, hle, hcur⟩ := hv.vt_of rfl
 exact .vt z es t v hc ((Cl.out (v := VS z es)).mv hV) hle hcur
theorem MvV.funcl {g : FuncId} {xs xs' us us' : List Value} (h : MvL b b2 n xs xs') (h' : MvL b b2 n us us') : MvV b b2 n (.func (.func g) ⟨xs⟩ ⟨us⟩) (.func (.func g) ⟨xs'⟩ ⟨us'⟩) := fun ι N v hv => by
  cases hv with
  | func _ _ ys _ vs hs hx hs' hx' =>
    exact .func g _ ys _ vs (by rw [← hs]; simp [h.len]) (fun i u v hu hv => let ⟨u0, h1, h2⟩ := h.at i u (by simpa using hu); h2 _ _ _ (hx i u0 v (by simpa using h1) hv)) (by rw [← hs']; simp [h'.len])
      (fun i u v hu hv => let ⟨u0, h1, h2⟩ := h'.at i u (by simpa using hu); h2 _ _ _ (hx' i u0 v (by simpa using h1) hv))
theorem MvV.aggl {xs xs' : List Value} (h : MvL b b2 n xs xs') : MvV b b2 n (.agg ⟨xs⟩) (.agg ⟨xs'⟩) := fun ι N v hv => by
 cases hv with
 | agg _ ys hs hx => exact .agg _ ys (by rw [← hs]; simp [h.len]) (fun i u v hu hv => let ⟨u0, h1, h2⟩ := h.at i u (by simpa using hu); h2 _ _ _ (hx i u0 v (by simpa using h1) hv))
def MvR (b b2 n : Nat) (c c2 : List Value) : Prop := c2.length ≤ c.length ∧ ∀ (i : Nat) (u' : Value), c2[i]? = some u' → ∃ u, c[i]? = some u ∧ MvV b b2 n u u'
theorem MvR.of {c c2 : List Value} (h : MvL b b2 n c c2) : MvR b b2 n c c2 := ⟨by rw [h.len]; exact Nat.le_refl _, h.at⟩
theorem MvR.cl {c : List Value} [hc : ClL c] : MvR b b2 n c c := ⟨Nat.le_refl _, fun i u hu => ⟨u, hu, fun ι N v hv => (hc.out u (mem_of_at hu)).mv hv⟩⟩
inductive MvT (b b2 n : Nat) : List (Nat × Value) → List (Nat × Value) → Prop
 | nil : MvT b b2 n [] []
 | cons {k : Nat} {v v' : Value} {r r' : List (Nat × Value)} (h : MvV b b2 n v v') (hr : MvT b b2 n r r') : MvT b b2 n ((k, v) :: r) ((k, v') :: r')
theorem MvT.at {t t2 : List (Nat × Value)} (H : MvT b b2 n t t2) : ∀ k u', look t2 k = some u' → ∃ u, look t k = some u ∧ MvV b b2 n u u' := by
  induction H with
  | nil => intro k u h; cases h
  | cons h _ ih =>
    intro k u hk
    simp only [look] at hk ⊢
    split at hk
    · rename_i e; subst e; injection hk with hk; subst hk; exact ⟨_, by simp, h⟩
    · rename_i e; rw [if_neg e]; exact ih k u hk
inductive MvO (b b2 n : Nat) (l : List (Nat × AObj)) (k : Nat) : AObj → Prop
 | rw {c c2 : List Value} (hb : k ≠ b) (h2 : k ≠ b2) (hk : k < n) (hg : look l k = some (.rw c)) (h1 : oneL c2 = true) (hc : MvR b b2 n c c2) : MvO b b2 n l k (.rw c2)
 | mv {c c2 : List Value} (h2 : k = b2) (hk : k < n) (hg : look l b = some (.rw c)) (h1 : oneL c2 = true) (hc : MvR b b2 n c c2) : MvO b b2 n l k (.rw c2)
 | tail {m z : Nat} (hk : k < n) (hg : look l k = some (.tail m z)) : MvO b b2 n l k (.tail m z)
 | loop {s : LoopState} {p : Option Code} {t t2 : List (Nat × Value)} {z : Nat} {ps : Array Tmp} {ca cb : Code} (hb : k ≠ b) (h2 : k ≠ b2) (hk : k < n) (hg : look l k = some (.loop ⟨s, p, t, z, ps, ca, cb⟩)) (ht : MvT b b2 n t t2) : MvO b b2 n l k (.loop ⟨s, p, t2, z, ps, ca, cb⟩)
 | dead : MvO b b2 n l k .dead
inductive MvHL (b b2 n : Nat) (l : List (Nat × AObj)) : List (Nat × AObj) → Prop
 | nil : MvHL b b2 n l []
 | cons {k : Nat} {o : AObj} {r : List (Nat × AObj)} (ho : MvO b b2 n l k o) (hr : MvHL b b2 n l r) : MvHL b b2 n l ((k, o) :: r)
theorem MvHL.at {l l2 : List (Nat × AObj)} (H : MvHL b b2 n l l2) : ∀ k o, look l2 k = some o → MvO b b2 n l k o := by
  induction H with
  | nil => intro k o h; cases h
  | cons ho _ ih =>
    intro j u hk
    simp only [look] at hk
    split at hk
    · rename_i e; subst e; injection hk with hk; subst hk; exact ho
    · exact ih j u hk
inductive MvSL (b b2 n : Nat) (t : List (Nat × Value)) : List (Nat × Value) → Prop
 | nil : MvSL b b2 n t []
 | cons {k : Nat} {u u' : Value} {r : List (Nat × Value)} (hk : look t k = some u) (hf : MvV b b2 n u u') (hr : MvSL b b2 n t r) : MvSL b b2 n t ((k, u') :: r)
theorem MvSL.at {t t2 : List (Nat × Value)} (H : MvSL b b2 n t t2) : ∀ k u', look t2 k = some u' → ∃ u, look t k = some u ∧ MvV b b2 n u u' := by
  induction H with
  | nil => intro k u h; cases h
  | cons hk hf _ ih =>
    intro j u hj
    simp only [look] at hj
    split at hj
    · rename_i e; subst e; injection hj with hj; subst hj; exact ⟨_, hk, hf⟩
    · exact ih j u hj
end
theorem Recast.mv (b b2 : Nat) {K n1 n2 : Nat} {m1 m2 : Bool} {t t2 : List (Nat × Value)} {l l2 : List (Nat × AObj)} (hK : K ≤ b2) (hK2 : K ≤ n2) (hH : MvHL b b2 n2 l l2) (hT : MvSL b b2 n2 t t2) : Recast K ⟨t, ⟨n1, l, m1⟩⟩ ⟨t2, ⟨n2, l2, m2⟩⟩ := by
  have hgl : ∀ k o, look l k = some o → AHeap.get ⟨n1, l, m1⟩ k = o.live := fun k o h => by unfold AHeap.get; rw [h]; rfl
  have hget : ∀ k o, AHeap.get ⟨n2, l2, m2⟩ k = some o → MvO b b2 n2 l k o := fun k o h => by
    unfold AHeap.get at h
    obtain ⟨o', h1, h2⟩ := bind_some h
    obtain rfl := live_eq h2
    exact hH.at k _ h1
  let old : Nat → Nat := fun k => if k = b2 then b else k
  have hold : ∀ (ι : Iota) k o, AHeap.get ⟨n2, l2, m2⟩ k = some o → ∃ k' o', AHeap.get ⟨n1, l, m1⟩ k' = some o' ∧ ι.at k' o' = (upd ι b2 (ι b)).at k o ∧ ((∃ m z, o = .tail m z ∧ o' = .tail m z ∧ k' = k) ∨ ((∀ m z, o' ≠ .tail m z) ∧ (k = b2 ∧ k' = b ∨ k ≠ b2 ∧ k ≠ b ∧ k' = k))) := by
    intro ι k o h
    have hne : o ≠ .dead := fun e => by subst e; unfold AHeap.get at h; obtain ⟨o', h1, h2⟩ := bind_some h; cases o' <;> simp [AObj.live] at h2
    cases hget k o h with
    | rw hb h2 hk hg h1 hc => exact ⟨k, _, hgl _ _ hg, by simp [Iota.at, upd_ne _ _ h2], .inr ⟨fun _ _ e => (by cases e), .inr ⟨h2, hb, rfl⟩⟩⟩
    | mv h2 hk hg h1 hc => subst h2; exact ⟨b, _, hgl _ _ hg, by simp [Iota.at, upd_same], .inr ⟨fun _ _ e => (by cases e), .inl ⟨rfl, rfl⟩⟩⟩
    | tail hk hg => exact ⟨k, _, hgl _ _ hg, rfl, .inl ⟨_, _, rfl, rfl, rfl⟩⟩
    | loop hb h2 hk hg ht => exact ⟨k, _, hgl _ _ hg, by simp [Iota.at, upd_ne _ _ h2], .inr ⟨fun _ _ e => (by cases e), .inr ⟨h2, hb, rfl⟩⟩⟩
    | dead => exact absurd rfl hne
  refine .inr ⟨hK2, fun ι w rt R T => ⟨upd ι b2 (ι b), ⟨fun k o hk => ?_, fun k o r hk hr => ?_, fun k c hk => ?_, fun k m z hk => ?_, fun k L hk => ?_, fun k o k' o' r hk hr hk' hne => ?_, R.im, R.gb⟩, fun k u' hu => ?_, ⟨fun k hk => upd_ne _ _ (by omega), fun _ _ => .inl rfl, fun _ _ _ h => h⟩, fun r ⟨k, o, hk, hr⟩ => ?_, fun _ _ _ => rfl⟩⟩
  · cases hget k o hk with
    | rw hb h2 hk' => exact hk'
    | mv h2 hk' => exact hk'
    | tail hk' => exact hk'
    | loop hb h2 hk' => exact hk'
    | dead => unfold AHeap.get at hk; obtain ⟨o', h1, h2⟩ := bind_some hk; cases o' <;> simp [AObj.live] at h2
  · obtain ⟨k', o', h1, h2, _⟩ := hold ι k o hk
    exact R.real k' o' r h1 (by rw [h2]; exact hr)
  · cases hget k _ hk with
    | rw hb h2 hk hg h1 hc =>
      obtain ⟨h3, h4, h5⟩ := R.rw k _ (hgl _ _ hg)
      rw [upd_ne _ _ h2]
      refine ⟨Nat.le_trans hc.1 h3, h4, fun i u' hu => ?_⟩
      obtain ⟨u, h6, h7⟩ := hc.2 i u' hu
      obtain ⟨h8, v, h9, h10⟩ := h5 i u h6
      rw [upd_ne _ _ h2]
      exact ⟨oneL_at h1 hu, v, h9, h7 _ _ _ h10⟩
    | mv h2 hk hg h1 hc =>
      subst h2
      obtain ⟨h3, h4, h5⟩ := R.rw b _ (hgl _ _ hg)
      rw [upd_same]
      refine ⟨Nat.le_trans hc.1 h3, h4, fun i u' hu => ?_⟩
      obtain ⟨u, h6, h7⟩ := hc.2 i u' hu
      obtain ⟨h8, v, h9, h10⟩ := h5 i u h6
      rw [upd_same]
      exact ⟨oneL_at h1 hu, v, h9, h7 _ _ _ h10⟩
  · cases hget k _ hk with
    | tail hk hg => exact R.tail k _ _ (hgl _ _ hg)
  · cases hget k _ hk with
    | loop hb h2 hk hg ht =>
      obtain ⟨o, h3, ⟨hp, rt', d, fn, h4, h5, h6⟩ | ⟨ks, e, hm⟩⟩ := R.loop k _ (hgl _ _ hg)
      case inr =>
        rw [upd_ne _ _ h2]
        injection e with e1 e2 e3 e4 e5 e6 e7
        subst e1; subst e2; subst e3; subst e4; subst e5; subst e6; subst e7
        refine ⟨o, h3, ⟨.inr ⟨ks, ?_, hm⟩⟩⟩
        have key : ∀ t3 : List (Nat × Value), MvT b b2 n2 [] t3 → t3 = [] := fun t3 hm => by
          match t3, hm with
          | [], _ => rfl
          | x :: r, hm => obtain ⟨u, h7, _⟩ := hm.at x.1 x.2 (by simp [look]); cases h7
        rw [key _ ht]; rfl
      rw [upd_ne _ _ h2]
      refine ⟨o, h3, ⟨.inl ⟨hp, rt', d, fn, h4, fun j u' hu => ?_, h6⟩⟩⟩
      obtain ⟨u, h7, h8⟩ := ht.at j u' hu
      obtain ⟨v, h9, h10⟩ := h5 j u h7
      exact ⟨v, h9, h8 _ _ _ h10⟩
  · obtain ⟨k1, o1, h1, h2, h3⟩ := hold ι k o hk
    obtain ⟨k2, o2, h4, h5, h6⟩ := hold ι k' o' hk'
    rw [← h5]
    refine R.sep k1 o1 k2 o2 r h1 (by rw [h2]; exact hr) h4 (fun e => ?_)
    subst e
    rw [h1] at h4; injection h4 with h4; subst h4
    rcases h3 with ⟨_, _, rfl, rfl, rfl⟩ | ⟨hn, h3⟩
    · rcases h6 with ⟨_, _, _, _, rfl⟩ | ⟨hn, _⟩
      · exact hne rfl
      · exact hn _ _ rfl
    · rcases h6 with ⟨_, _, _, e, _⟩ | ⟨_, h6⟩
      · exact hn _ _ e
      · rcases h3 with ⟨h7, h8⟩ | ⟨h7, h8, h9⟩ <;> rcases h6 with ⟨h10, h11⟩ | ⟨h10, h11, h12⟩ <;> omega
  · obtain ⟨u, h1, h2⟩ := hT.at k u' hu
    obtain ⟨v, h3, h4⟩ := T k u h1
    exact ⟨v, h3, h2 _ _ _ h4⟩
  · obtain ⟨k', o', h1, h2, _⟩ := hold ι k o hk
    exact ⟨k', o', h1, by rw [h2]; exact hr⟩
section
variable {α : Type} {f : α → Value}
theorem lev_a {h : AHeap} {b n : Nat} {l : List α} {x : α} (hr : h.row b = some (l.map f)) (hx : l[n]? = some x) : levh h 1 false b (0 + n * 1) = some (f x) := by
 unfold levh
 rw [hr, show 0 + n * 1 = n by omega]
 simp [hx]
end
theorem Rel.rowmod {ι : Iota} {h : AHeap} {w : World} (R : Rel ι h w) {b : Nat} {c c2 : List Value} (hb : h.get b = some (.rw c)) (hl : c2.length ≤ c.length)
   (hw : ∀ (i : Nat) (u' : Value), c2[i]? = some u' → u'.oneCell' = true ∧ ∃ u, c[i]? = some u ∧ ∀ v, VR ι h.next u v → VR ι h.next u' v) : Rel ι (h.put b (.rw c2)) w := by
 have hget : ∀ x, (h.put b (.rw c2)).get x = if x = b then some (.rw c2) else h.get x := fun x => by rw [AHeap.get_put]; rfl
 have hold : ∀ x o, (h.put b (.rw c2)).get x = some o → ∃ o', h.get x = some o' ∧ ι.at x o' = ι.at x o := fun x o hx => by
   rw [hget] at hx
   split at hx
   · rename_i e; subst e; injection hx with hx; subst hx; exact ⟨_, hb, rfl⟩
   · exact ⟨o, hx, rfl⟩
 refine ⟨fun x o hx => ?_, fun x o r hx hr => ?_, fun x c' hx => ?_, fun x k z hx => ?_, fun x L hx => ?_, fun x o x' o' r hx hr hx' hne => ?_, R.im, R.gb⟩
 · obtain ⟨o', h1, _⟩ := hold x o hx; exact R.lt x o' h1
 · obtain ⟨o', h1, h2⟩ := hold x o hx; exact R.real x o' r h1 (by rw [h2]; exact hr)
 · rw [hget] at hx
   split at hx
   · rename_i e; subst e
     injection hx with hx; injection hx with hx; subst hx
     obtain ⟨h1, h2, h3⟩ := R.rw x c hb
     refine ⟨Nat.le_trans hl h1, h2, fun i u' hu => ?_⟩
     obtain ⟨h4, u, h5, h6⟩ := hw i u' hu
     obtain ⟨_, v, h7, h8⟩ := h3 i u h5
     exact ⟨h4, v, h7, h6 v h8⟩
   · exact R.rw x c' hx
 · rw [hget] at hx
   split at hx
   · cases hx
   · exact R.tail x k z hx
 · rw [hget] at hx
   split at hx
   · cases hx
   · exact R.loop x L hx
 · obtain ⟨o1, h1, h2⟩ := hold x o hx
   obtain ⟨o2, h3, h4⟩ := hold x' o' hx'
   rw [← h4]; exact R.sep x o1 x' o2 r h1 (by rw [h2]; exact hr) h3 hne
inductive NilC (z n : Nat) : List Value → List Value → Prop
 | nil : NilC z n [] []
 | same {v : Value} {r r' : List Value} (hr : NilC z n r r') : NilC z n (v :: r) (v :: r')
 | turn {r r' : List Value} (hr : NilC z n r r') : NilC z n (.slice none 0 0 :: r) (VT z [] n :: r')
theorem NilC.len {z n : Nat} {c c2 : List Value} (H : NilC z n c c2) : c2.length = c.length := by
 induction H with
 | nil => rfl
 | same _ ih => simp [ih]
 | turn _ ih => simp [ih]
theorem NilC.at {z n : Nat} {c c2 : List Value} (H : NilC z n c c2) : ∀ (i : Nat) (u' : Value), c2[i]? = some u' → ∃ u, c[i]? = some u ∧ (u' = u ∨ (u = .slice none 0 0 ∧ u' = VT z [] n)) := by
  induction H with
  | nil => intro i u h; simp at h
  | same _ ih =>
    intro i u hu
    cases i with
    | zero => simp at hu; subst hu; exact ⟨_, rfl, .inl rfl⟩
    | succ i => exact ih i u (by simpa using hu)
  | turn _ ih =>
    intro i u hu
    cases i with
    | zero => simp at hu; subst hu; exact ⟨_, rfl, .inr ⟨rfl, rfl⟩⟩
    | succ i => exact ih i u (by simpa using hu)
theorem Recast.nilM (z b : Nat) {K n : Nat} {m : Bool} {t : List (Nat × Value)} {l l2 : List (Nat × AObj)} {c c2 : List Value} (hK : K ≤ n) (hb : AHeap.get ⟨n, l, m⟩ b = some (.rw c)) (hbn : b < n) (h1 : oneL c2 = true) (hw : NilC z n c c2) (he : (⟨n + 1, l2, m⟩ : AHeap) = ((AHeap.mk n l m).alloc (.tail 0 z)).put b (.rw c2)) :
   Recast K ⟨t, ⟨n, l, m⟩⟩ ⟨t, ⟨n + 1, l2, m⟩⟩ := by
 refine .inr ⟨by show K ≤ n + 1; omega, fun ι w rt R T => ?_⟩
 have hT : TailR ⟨0, 0, z, 0, true⟩ ι.im 0 z w := ⟨rfl, rfl, fun _ => .inl rfl, fun _ => rfl, fun h => by simp at h⟩
 have R1 := R.addTail (t := ⟨0, 0, z, 0, true⟩) (fun h => by simp at h) hT
 have X1 := (Ext.refl ι ⟨n, l, m⟩ w).addTail (t := ⟨0, 0, z, 0, true⟩) (n := 0) (z := z) (fun h => by simp at h)
 have hb1 : ((AHeap.mk n l m).alloc (.tail 0 z)).get b = some (.rw c) := by
   rw [AHeap.get_alloc, if_neg (show ¬ b = n by omega)]; exact hb
 have R2 := R1.rowmod hb1 (Nat.le_of_eq hw.len) fun i u' hu => by
   obtain ⟨u, h2, h3⟩ := hw.at i u' hu
   refine ⟨oneL_at h1 hu, u, h2, fun v hv => ?_⟩
   rcases h3 with rfl | ⟨rfl, rfl⟩
   · exact hv
   · cases hv
     exact .vt z [] n _ (by simp) (.vsn z) (by simp [updT]) (fun _ => .inl ⟨by simp [updT], _, rfl⟩)
 refine ⟨_, by rw [show (⟨t, ⟨n + 1, l2, m⟩⟩ : St).h = ⟨n + 1, l2, m⟩ from rfl, he]; exact R2, T.more (Nat.le_succ _) X1.up, ⟨fun _ _ => rfl, fun b hb => .inl (by simp [updT, show b ≠ n by omega]), fun _ _ _ h => h⟩, ?_, fun _ _ _ => rfl⟩
 rintro r ⟨b2, o, hb2, ho⟩
 have hb3 : AHeap.get ⟨n + 1, l2, m⟩ b2 = some o := hb2
 clear hb2
 rw [he, AHeap.get_put] at hb3
 split at hb3
 · rename_i e; subst e
   simp only [AObj.live, Option.some.injEq] at hb3; subst hb3
   exact ⟨b2, _, hb, by rw [at_updT (show b2 ≠ n by omega)] at ho; exact ho⟩
 · rw [AHeap.get_alloc] at hb3
   split at hb3
   · rename_i e
     subst e
     simp only [AObj.live, Option.some.injEq] at hb3; subst hb3
     simp [Iota.at, updT] at ho
   · rename_i e
     exact ⟨b2, o, hb3, by rw [at_updT e] at ho; exact ho⟩
theorem nl {a b : Nat} (h : Nat.ble a b = true) : a ≤ b := Nat.le_of_ble_eq_true h
theorem nn {a b : Nat} (h : Nat.beq a b = false) : a ≠ b := Nat.ne_of_beq_eq_false h
theorem pwa {E : Env} {b : ICode} {Q : IExit → St → Prop} {s : St} {l : List IOpG} {keep : Option (List Nat)} (h : pops E l (fun s => pkeeps keep s fun s => PW E b Q s) s) : PW E (.seq (.ops l keep) b) Q s := pw_so (po_all h)
end Go.Proofs.Ytjnpdnlgkepmcaa.AM
