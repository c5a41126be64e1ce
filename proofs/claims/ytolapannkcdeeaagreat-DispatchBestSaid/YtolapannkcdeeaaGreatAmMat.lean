/- Rows of slices that are written to: each slice lies in a block of its own, the blocks are numbered from B on. Conditions: none. -/
import Derived.Test.YtolapannkcdeeaaGreatAmPut
namespace Go.Proofs.YtolapannkcdeeaaGreat.AM
set_option linter.unusedSimpArgs false
set_option linter.unusedVariables false
open Go Go.RowKit
section
variable {α β : Type} {v : β} (f : α → Value)
def mso (o : Option (List α)) : AObj := match o with
 | none => .dead
 | some r => .rw (r.map f)
def fam (B : Nat) : List (Option (List α)) → List (Nat × AObj)
 | [] => []
 | o :: R => (B, mso f o) :: fam (B + 1) R
def msv (b : Nat) (o : Option Nat) : Value := match o with
 | none => .slice none 0 0
 | some n => .slice (some ⟨b, 0, none⟩) n 1
def outQ (B : Nat) : List (Option Nat) → List Value
 | [] => []
 | o :: R => msv B o :: outQ (B + 1) R
end
section
variable {α β : Type} {v : β} {f : α → Value}
theorem fam_at : ∀ {M : List (Option (List α))} {B i : Nat} {o : Option (List α)}, M[i]? = some o → look (fam f B M) (B + i) = some (mso f o)
  | [], _, _, _, h => by simp at h
  | a :: R, B, 0, o, h => by
    simp at h; subst h; simp [fam, look]
  | a :: R, B, i + 1, o, h => by
    simp only [fam, look]
    rw [if_neg (by omega), show B + (i + 1) = B + 1 + i by omega]
    exact fam_at (by simpa using h)
theorem fam_out : ∀ {M : List (Option (List α))} {B x : Nat}, x < B ∨ B + M.length ≤ x → look (fam f B M) x = none
  | [], _, _, _ => rfl
  | a :: R, B, x, h => by
    simp only [List.length_cons] at h
    simp only [fam, look]
    rw [if_neg (by omega)]
    exact fam_out (by omega)
theorem fam_put : ∀ {M : List (Option (List α))} {B i : Nat} {o o' : Option (List α)}, M[i]? = some o → hput (fam f B M) (B + i) (mso f o') = fam f B (M.set i o')
  | [], _, _, _, _, h => by simp at h
  | a :: R, B, 0, o, o', h => by simp [fam, hput]
  | a :: R, B, i + 1, o, o', h => by
    simp only [fam, hput, List.set_cons_succ]
    rw [if_neg (by omega), show B + (i + 1) = B + 1 + i by omega, fam_put (by simpa using h)]
theorem look_ne {k x : Nat} {o : AObj} {r : List (Nat × AObj)} (h : k ≠ x) : look ((k, o) :: r) x = look r x := by simp only [look]; rw [if_neg (fun e => h e.symm)]
theorem hput_ne {k x : Nat} {o o' : AObj} {r : List (Nat × AObj)} (h : k ≠ x) : hput ((k, o) :: r) x o' = (k, o) :: hput r x o' := by simp only [hput]; rw [if_neg (fun e => h e.symm)]
theorem look_app {a b : List (Nat × AObj)} {x : Nat} (h : look a x = none) : look (a ++ b) x = look b x := by
  induction a with
  | nil => rfl
  | cons p r ih =>
    obtain ⟨k, o⟩ := p
    simp only [look, List.cons_append] at h ⊢
    split at h
    · cases h
    · rename_i e; rw [if_neg e]; exact ih h
theorem look_app1 {a b : List (Nat × AObj)} {x : Nat} {o : AObj} (h : look a x = some o) : look (a ++ b) x = some o := by
  induction a with
  | nil => cases h
  | cons p r ih =>
    obtain ⟨k, o'⟩ := p
    simp only [look, List.cons_append] at h ⊢
    split at h
    · rename_i e; rw [if_pos e]; exact h
    · rename_i e; rw [if_neg e]; exact ih h
theorem hput_app {a b : List (Nat × AObj)} {x : Nat} {o : AObj} (h : look a x = none) : hput (a ++ b) x o = a ++ hput b x o := by
  induction a with
  | nil => rfl
  | cons p r ih =>
    obtain ⟨k, o'⟩ := p
    simp only [look] at h
    simp only [hput, List.cons_append]
    split at h
    · cases h
    · rename_i e; rw [if_neg e, ih h]
theorem hput_app1 {a b : List (Nat × AObj)} {x : Nat} {o o1 : AObj} (h : look a x = some o1) : hput (a ++ b) x o = hput a x o ++ b := by
  induction a with
  | nil => cases h
  | cons p r ih =>
    obtain ⟨k, o'⟩ := p
    simp only [look] at h
    simp only [hput, List.cons_append]
    split at h
    · rename_i e; rw [if_pos e, if_pos e]; rfl
    · rename_i e; rw [if_neg e, if_neg e, ih h]; rfl
theorem fam_skip {M : List (Option (List α))} {T : List (Nat × AObj)} {B x : Nat} (h : x < B ∨ B + M.length ≤ x) : look (fam f B M ++ T) x = look T x := look_app (fam_out h)
theorem fam_at1 {M : List (Option (List α))} {T : List (Nat × AObj)} {B i : Nat} {o : Option (List α)} (h : M[i]? = some o) : look (fam f B M ++ T) (B + i) = some (mso f o) := look_app1 (fam_at h)
theorem famp_skip {M : List (Option (List α))} {T : List (Nat × AObj)} {B x : Nat} {o : AObj} (h : x < B ∨ B + M.length ≤ x) : hput (fam f B M ++ T) x o = fam f B M ++ hput T x o := hput_app (fam_out h)
theorem famp_at1 {M : List (Option (List α))} {T : List (Nat × AObj)} {B i : Nat} {o o' : Option (List α)} (h : M[i]? = some o) : hput (fam f B M ++ T) (B + i) (mso f o') = fam f B (M.set i o') ++ T := by
 rw [hput_app1 (fam_at h), fam_put h]
theorem outQ_len : ∀ {S : List (Option Nat)} {B : Nat}, (outQ B S).length = S.length
 | [], _ => rfl
 | o :: R, B => by simp only [outQ, List.length_cons]; rw [outQ_len]
theorem outQ_at : ∀ {S : List (Option Nat)} {B i : Nat} {o : Option Nat}, S[i]? = some o → (outQ B S)[i]? = some (msv (B + i) o)
  | [], _, _, _, h => by simp at h
  | a :: R, B, 0, o, h => by simp at h; subst h; simp [outQ]
  | a :: R, B, i + 1, o, h => by
    simp only [outQ, List.getElem?_cons_succ]
    rw [outQ_at (i := i) (o := o) (by simpa using h)]; congr 2; omega
theorem nth_out {S : List (Option Nat)} {B n : Nat} {F : Nat → Option β} {K : Value → Prop} (H : obnd (S[n]?) (fun o => obnd o F) = some v) (h : ∀ k, S[n]? = some (some k) → F k = some v → K (.slice (some ⟨B + n, 0, none⟩) k 1)) : obind (nthv (outQ B S) (0 + n * 1)) K := by
 obtain ⟨o, hx, H⟩ := obnd_some H
 obtain ⟨k, rfl, H⟩ := obnd_some H
 rw [show 0 + n * 1 = n by omega]
 exact obind_intro (by rw [nthv_eq, outQ_at hx]; rfl) (h k hx H)
theorem set_out {S : List (Option Nat)} {B n : Nat} {u : Value} {K : List Value → Prop} (hi : Nat.blt n S.length = true) (h1 : u.oneCell' = true) (h : K ((outQ B S).set n u)) :
  pbr (Nat.ble (0 + n * 1 + 1) (outQ B S).length) (pbr (oneL [u]) (fS (setCells (outQ B S) (0 + n * 1) [u]) K) False) False := by
 have hb : Nat.ble (0 + n * 1 + 1) (outQ B S).length = true := by
  rw [Nat.ble_eq, outQ_len]; rw [Nat.blt_eq] at hi; omega
 rw [hb, show oneL [u] = true by simp [oneL, h1]]
 show fS _ K
 rw [fS_eq]
 simp only [setCells]
 rw [show 0 + n * 1 = n by omega]; exact h
theorem ldm_o {h : AHeap} {M : List (Option (List α))} {B i n : Nat} {F : α → Option β} {K : Value → Prop} (H : obnd (M[i]?) (fun o => obnd o fun r => obnd (r[n]?) F) = some v)
   (hl : ∀ o, M[i]? = some o → look h.objs (B + i) = some (mso f o)) (hk : ∀ r x, M[i]? = some (some r) → r[n]? = some x → F x = some v → K (f x)) : obind (h.row (B + i)) fun c => obind (nthv c (0 + n * 1)) K := by
 obtain ⟨o, h1, H⟩ := obnd_some H
 have H : obnd o (fun r => obnd (r[n]?) F) = some v := H
 cases o with
 | none => cases H
 | some r =>
 have H : obnd (r[n]?) F = some v := H
 obtain ⟨x, h2, H⟩ := obnd_some H
 refine obind_intro (a := r.map f) ?_ ?_
 · unfold AHeap.row AHeap.get; rw [hl _ h1]; rfl
 · rw [show 0 + n * 1 = n by omega]
   exact obind_intro (nthv_map h2) (hk r x h1 h2 H)
theorem getm {h : AHeap} {M : List (Option (List α))} {B i : Nat} {r : List α} (hM : M[i]? = some (some r)) (hl : ∀ o, M[i]? = some o → look h.objs (B + i) = some (mso f o)) : h.get (B + i) = some (.rw (r.map f)) := by
 unfold AHeap.get; rw [hl _ hM]; rfl
theorem pputm {h h1 : AHeap} {b : Nat} {o : AObj} {k : AHeap → Prop} (e : h.put b o = h1) (H : k h1) : pput h b o k := by rw [pput_eq, e]; exact H
theorem FzHL.app {h : AHeap} {D : Nat → Bool} {n : Nat} {a b : List (Nat × AObj)} (h1 : FzHL h D n a) (h2 : FzHL h D n b) : FzHL h D n (a ++ b) := by
 induction h1 with
 | nil => exact h2
 | cons ho _ ih => exact .cons ho ih
theorem OBnd.mso [hf : ∀ x, Cl (f x)] {n b : Nat} {o : Option (List α)} (h : b < n) (h1 : ∀ x, (f x).oneCell' = true) : OBnd n b (mso f o) := by
 cases o with
 | none => trivial
 | some l => exact OBnd.rwc h (oneL_map h1)
theorem FzHL.fam [hf : ∀ x, Cl (f x)] {h : AHeap} {D : Nat → Bool} {n : Nat} (h1 : ∀ x, (f x).oneCell' = true) : ∀ {M : List (Option (List α))} {B : Nat}, (∀ i o, M[i]? = some o → look h.objs (B + i) = some (mso f o)) → (∀ i, i < M.length → D (B + i) = false) → B + M.length ≤ n → FzHL h D n (fam f B M)
  | [], _, _, _, _ => .nil
  | o :: R, B, hl, hD, hn => by
    simp only [List.length_cons] at hn hD
    refine .cons (.same (hD 0 (by omega)) (hl 0 o rfl) (.mso (by omega) h1)) (FzHL.fam h1 (fun i o' h2 => ?_) (fun i hi => ?_) (by omega))
    · rw [show B + 1 + i = B + (i + 1) by omega]; exact hl (i + 1) o' (by simpa using h2)
    · rw [show B + 1 + i = B + (i + 1) by omega]; exact hD (i + 1) (by omega)
section
variable {b b2 n : Nat}
theorem MvHL.app {l a c : List (Nat × AObj)} (h1 : MvHL b b2 n l a) (h2 : MvHL b b2 n l c) : MvHL b b2 n l (a ++ c) := by
 induction h1 with
 | nil => exact h2
 | cons ho _ ih => exact .cons ho ih
theorem MvO.mso [hf : ∀ x, Cl (f x)] {l : List (Nat × AObj)} {j : Nat} {o : Option (List α)} (h1 : ∀ x, (f x).oneCell' = true) (hb : j ≠ b) (h2 : j ≠ b2) (hk : j < n) (hg : look l j = some (mso f o)) : MvO b b2 n l j (mso f o) := by
 cases o with
 | none => exact .dead
 | some r => exact .rw hb h2 hk hg (oneL_map h1) .cl
theorem MvHL.fam [hf : ∀ x, Cl (f x)] {l : List (Nat × AObj)} (h1 : ∀ x, (f x).oneCell' = true) : ∀ {M : List (Option (List α))} {B : Nat}, (∀ i o, M[i]? = some o → look l (B + i) = some (mso f o)) → (∀ i, i < M.length → B + i ≠ b ∧ B + i ≠ b2) → B + M.length ≤ n → MvHL b b2 n l (fam f B M)
  | [], _, _, _, _ => .nil
  | o :: R, B, hl, hD, hn => by
    simp only [List.length_cons] at hn hD
    refine .cons (.mso h1 (hD 0 (by omega)).1 (hD 0 (by omega)).2 (by omega) (hl 0 o rfl)) (MvHL.fam h1 (fun i o' h2 => ?_) (fun i hi => ?_) (by omega))
    · rw [show B + 1 + i = B + (i + 1) by omega]; exact hl (i + 1) o' (by simpa using h2)
    · rw [show B + 1 + i = B + (i + 1) by omega]; exact hD (i + 1) (by omega)
theorem MvHL.fput [hf : ∀ x, Cl (f x)] {l : List (Nat × AObj)} {r : List α} {n : Nat} (h1 : ∀ x, (f x).oneCell' = true) : ∀ {M : List (Option (List α))} {B i : Nat}, (∀ j o, j ≠ i → M[j]? = some o → look l (B + j) = some (mso f o)) → look l b = some (.rw (r.map f)) → (∀ j, j < M.length → B + j ≠ b) → B + M.length ≤ n → MvHL b (B + i) n l (AM.fam f B (M.set i (some r)))
  | [], _, _, _, _, _, _ => .nil
  | o :: R, B, 0, hl, hb, hD, hn => by
    simp only [List.length_cons] at hn hD
    refine .cons (.mv rfl (by omega) hb (oneL_map h1) .cl) (MvHL.fam h1 (fun i o' h2 => ?_) (fun i hi => ⟨?_, by omega⟩) (by omega))
    · rw [show B + 1 + i = B + (i + 1) by omega]; exact hl (i + 1) o' (by omega) (by simpa using h2)
    · rw [show B + 1 + i = B + (i + 1) by omega]; exact hD (i + 1) (by omega)
  | o :: R, B, i + 1, hl, hb, hD, hn => by
    simp only [List.length_cons] at hn hD
    refine .cons (.mso h1 (hD 0 (by omega)) (by omega) (by omega) (hl 0 o (by omega) rfl)) ?_
    have := MvHL.fput (l := l) (r := r) (n := n) h1 (M := R) (B := B + 1) (i := i) (fun j o' hj h2 => by rw [show B + 1 + j = B + (j + 1) by omega]; exact hl (j + 1) o' (by omega) (by simpa using h2)) hb (fun j hj => by rw [show B + 1 + j = B + (j + 1) by omega]; exact hD (j + 1) (by omega)) (by omega)
    rw [show B + (i + 1) = B + 1 + i by omega]
    exact this
theorem msv_mv {k B : Nat} {o : Option Nat} (h : B ≠ b2) (hc : B < n) : MvV b b2 n (msv B o) (msv B o) := by
 cases o with
 | none => exact (MvV.cl : MvV b b2 n (.slice none 0 0) (.slice none 0 0))
 | some k => exact MvV.slice h hc
theorem MvR.out {S : List (Option Nat)} {B : Nat} (hn : B + S.length ≤ n) (h2 : ∀ j, j < S.length → B + j ≠ b2) : MvR b b2 n (outQ B S) (outQ B S) := by
 refine ⟨Nat.le_refl _, fun i u hu => ⟨u, hu, ?_⟩⟩
 have hi : i < S.length := by have := (List.getElem?_eq_some_iff.1 hu).1; rwa [outQ_len] at this
 rw [outQ_at (List.getElem?_eq_getElem hi)] at hu
 injection hu with hu; subst hu
 exact msv_mv (k := 0) (h2 i hi) (by omega)
theorem MvR.outp {S : List (Option Nat)} {B i m c : Nat} (hn : B + S.length ≤ n) : MvR b (B + i) n ((outQ B S).set i (.slice (some ⟨b, 0, none⟩) m c)) (outQ B (S.set i (some m))) := by
 refine ⟨by simp [outQ_len], fun j u hu => ?_⟩
 have hj : j < S.length := by have := (List.getElem?_eq_some_iff.1 hu).1; simpa [outQ_len] using this
 rw [outQ_at (o := (S.set i (some m))[j]'(by simpa using hj)) (List.getElem?_eq_getElem (by simpa using hj))] at hu
 injection hu with hu; subst hu
 rw [List.getElem_set]
 by_cases e : i = j
 · subst e
   rw [if_pos rfl]
   refine ⟨_, by rw [List.getElem?_set_self (by rw [outQ_len]; exact hj)], ?_⟩
   exact fun ι N v hv => MvV.slc (b := b) (b2 := B + i) (n := n) (by omega) ι N v hv
 · rw [if_neg e]
   exact ⟨msv (B + j) S[j], by rw [List.getElem?_set_ne e, outQ_at (List.getElem?_eq_getElem hj)], msv_mv (k := 0) (by omega) (by omega)⟩
end
theorem oneL_out : ∀ {S : List (Option Nat)} {B : Nat}, oneL (outQ B S) = true
  | [], _ => rfl
  | o :: R, B => by
    simp only [outQ, oneL, Bool.and_eq_true]
    exact ⟨by cases o <;> rfl, oneL_out⟩
theorem Bnd.msv {n B : Nat} {o : Option Nat} (h : B < n) : Bnd n (msv B o) := by
 cases o with
 | none => exact (Bnd.cl : Bnd n (.slice none 0 0))
 | some k => exact Bnd.slice h
theorem OBnd.out {S : List (Option Nat)} {B n b : Nat} (hb : b < n) (hn : B + S.length ≤ n) : OBnd n b (.rw (outQ B S)) := by
 refine ⟨hb, oneL_out, fun v hv => ?_⟩
 obtain ⟨i, hi, e⟩ := List.getElem_of_mem hv
 rw [outQ_len] at hi
 have := outQ_at (B := B) (List.getElem?_eq_getElem hi)
 rw [List.getElem?_eq_getElem (by rw [outQ_len]; exact hi), e] at this
 injection this with this; subst this
 exact Bnd.msv (by omega)
theorem Recast.getle {K n n2 : Nat} {m m2 : Bool} {t : List (Nat × Value)} {l l2 : List (Nat × AObj)} (hK : K ≤ n2) (hn : n ≤ n2) (hl : ∀ x o, look l2 x = some o → o = .dead ∨ look l x = some o) : Recast K ⟨t, ⟨n, l, m⟩⟩ ⟨t, ⟨n2, l2, m2⟩⟩ := by
 have hget : ∀ x o, AHeap.get ⟨n2, l2, m2⟩ x = some o → AHeap.get ⟨n, l, m⟩ x = some o := fun x o hx => by
   unfold AHeap.get at hx ⊢
   obtain ⟨o', h1, h2⟩ := bind_some hx
   rcases hl x o' h1 with rfl | h3
   · simp [AObj.live] at h2
   · show (look l x).bind _ = _
     rw [h3]; exact h2
 refine .inr ⟨hK, fun ι w rt R T => ⟨ι, ⟨fun x o hx => Nat.lt_of_lt_of_le (R.lt x o (hget x o hx)) hn, fun x o r hx hr => R.real x o r (hget x o hx) hr, fun x c hx => ?_, fun x k z hx => R.tail x k z (hget x _ hx), fun x L hx => ?_, fun x o x' o' r hx hr hx' hne => R.sep x o x' o' r (hget x o hx) hr (hget x' o' hx') hne, R.im, R.gb⟩, T.more hn .refl, .refl, fun r ⟨x, o, hx, hr⟩ => ⟨x, o, hget x o hx, hr⟩, fun _ _ _ => rfl⟩⟩
 · obtain ⟨h1, h2, h3⟩ := R.rw x c (hget x _ hx)
   exact ⟨h1, h2, h3.more hn .refl rfl fun _ _ h => h⟩
 · obtain ⟨o, h1, h2⟩ := R.loop x L (hget x _ hx)
   exact ⟨o, h1, h2.more hn .refl⟩
theorem fam_dead : ∀ {k B x : Nat} {o : AObj}, look (fam f B (List.replicate k none)) x = some o → o = .dead
  | 0, _, _, _, h => by cases h
  | k + 1, B, x, o, h => by
    simp only [List.replicate_succ, fam, look] at h
    split at h
    · injection h with h; exact h.symm
    · exact fam_dead h
theorem outQ_nil : ∀ {k B : Nat}, replL k [Value.slice none 0 0] = outQ B (List.replicate k none)
  | 0, _ => rfl
  | k + 1, B => by
    rw [List.replicate_succ, outQ, ← outQ_nil (k := k)]
    unfold replL
    rw [List.replicate_succ, List.flatten_cons]; rfl
theorem Recast.getle1 {K n n2 : Nat} {m : Bool} {t : List (Nat × Value)} {l l2 : List (Nat × AObj)} (hK : K ≤ n2) (hn : n ≤ n2) (hl : ∀ x o, look l2 x = some o → o = .dead ∨ look l x = some o) : Recast K ⟨t, ⟨n, l, m⟩⟩ ⟨t, ⟨n2, l2, m⟩⟩ := Recast.getle hK hn hl
theorem FzHL.famd {h : AHeap} {D : Nat → Bool} {n : Nat} : ∀ {k B : Nat}, FzHL h D n (AM.fam f B (List.replicate k none))
 | 0, _ => .nil
 | k + 1, B => by rw [List.replicate_succ]; exact .cons .dead FzHL.famd
theorem MvHL.famd {b b2 n : Nat} {l : List (Nat × AObj)} : ∀ {k B : Nat}, MvHL b b2 n l (AM.fam f B (List.replicate k none))
 | 0, _ => .nil
 | k + 1, B => by rw [List.replicate_succ]; exact .cons .dead MvHL.famd
theorem outQ_mem {k B : Nat} {v : Value} (h : v ∈ outQ B (List.replicate k none)) : v = .slice none 0 0 := by
 obtain ⟨i, hi, e⟩ := List.getElem_of_mem h
 rw [outQ_len, List.length_replicate] at hi
 have := outQ_at (B := B) (S := List.replicate k none) (i := i) (o := none) (by simp [hi])
 rw [List.getElem?_eq_getElem (by rw [outQ_len]; simpa using hi), e] at this
 injection this
theorem OBnd.outd {n b k B : Nat} (hb : b < n) : OBnd n b (.rw (outQ B (List.replicate k none))) := ⟨hb, oneL_out, fun v hv => by rw [outQ_mem hv]; exact (Bnd.cl : Bnd n (.slice none 0 0))⟩
theorem MvR.outd {b b2 n k B : Nat} : MvR b b2 n (outQ B (List.replicate k none)) (outQ B (List.replicate k none)) := ⟨Nat.le_refl _, fun i u hu => ⟨u, hu, by rw [outQ_mem (List.mem_of_getElem? hu)]; exact (MvV.cl : MvV b b2 n (.slice none 0 0) (.slice none 0 0))⟩⟩
theorem look_nr {k B i : Nat} {o : AObj} {r : List (Nat × AObj)} (h : (Nat.blt k B || Nat.ble (B + 1000) k) = true) (hi : i < 1000) : look ((k, o) :: r) (B + i) = look r (B + i) := look_ne (by
 rw [Bool.or_eq_true, Nat.blt_eq, Nat.ble_eq] at h; omega)
theorem hput_nr {k B i : Nat} {o o' : AObj} {r : List (Nat × AObj)} (h : (Nat.blt k B || Nat.ble (B + 1000) k) = true) (hi : i < 1000) : hput ((k, o) :: r) (B + i) o' = (k, o) :: hput r (B + i) o' := hput_ne (by
 rw [Bool.or_eq_true, Nat.blt_eq, Nat.ble_eq] at h; omega)
theorem nblt {a b : Nat} (h : Nat.blt a b = true) : a < b := by rwa [Nat.blt_eq] at h
theorem dappb {k B : Nat} : ∀ x o, look (fam f B (List.replicate k none) ++ []) x = some o → o = .dead ∨ look [] x = some o := fun x o h => by
 rw [List.append_nil] at h
 exact .inl (fam_dead h)
theorem dapp {a b c : List (Nat × AObj)} (h : ∀ x o, look c x = some o → o = .dead ∨ look b x = some o) : ∀ x o, look (a ++ c) x = some o → o = .dead ∨ look (a ++ b) x = some o := fun x o hx => by
 cases ha : look a x with
 | none => rw [look_app ha] at hx ⊢; exact h x o hx
 | some o' => rw [look_app1 ha] at hx ⊢; exact .inr hx
theorem lt_at {γ : Type} {M : List γ} {i : Nat} {o : γ} (h : M[i]? = some o) : i < M.length := (List.getElem?_eq_some_iff.1 h).1
theorem setlen {γ : Type} {M : List γ} {i k : Nat} {o : γ} (h : Nat.ble M.length k = true) : Nat.ble (M.set i o).length k = true := by rw [List.length_set]; exact h
theorem lev_out {h : AHeap} {b n k B : Nat} {S : List (Option Nat)} (hr : h.row b = some (outQ B S)) (hk : S[n]? = some (some k)) : levh h 1 false b (0 + n * 1) = some (.slice (some ⟨B + n, 0, none⟩) k 1) := by
 unfold levh
 rw [hr, show 0 + n * 1 = n by omega]
 simp [outQ_at hk, msv]
theorem lev_m {h : AHeap} {M : List (Option (List α))} {B i n : Nat} {r : List α} {x : α} (hM : M[i]? = some (some r)) (hx : r[n]? = some x) (hl : ∀ o, M[i]? = some o → look h.objs (B + i) = some (mso f o)) : levh h 1 false (B + i) (0 + n * 1) = some (f x) := by
 unfold levh AHeap.row
 rw [getm hM hl, show 0 + n * 1 = n by omega]
 simp [AObj.row, hx]
theorem mk_m {l c : Int} {bytes B : Nat} {h0 : AHeap} {w : Nat → Value} {k : Option Value → AHeap → Prop} (hf : mfits bytes l c = true) (h : pnew h0 (.rw (outQ B (List.replicate l.toNat none))) w k) :
  0 ≤ l ∧ l ≤ c ∧ c * bytes ≤ 1099511627776 ∧ c ≤ 1099511627776 ∧ pnew h0 (.rw (replL l.toNat [.slice none 0 0])) w k := by
 obtain ⟨h1, h2, h3, h4⟩ := mfits_o hf
 exact ⟨h1, h2, h3, h4, by rw [outQ_nil (B := B)]; exact h⟩
theorem OBnd.outh {S : List (Option Nat)} {B n b i y m c : Nat} (hb : b < n) (hn : B + S.length ≤ n) (hu : Bnd n (.slice (some ⟨y, 0, none⟩) m c)) : OBnd n b (.rw ((outQ B S).set i (.slice (some ⟨y, 0, none⟩) m c))) := by
 refine ⟨hb, oneL_set rfl oneL_out, fun v hv => ?_⟩
 rcases List.mem_or_eq_of_mem_set hv with hv | rfl
 · exact (OBnd.out (S := S) (B := B) hb hn).2.2 v hv
 · exact hu
theorem MvR.outh {b b2 n : Nat} {S : List (Option Nat)} {B i : Nat} {u u' : Value} (hn : B + S.length ≤ n) (h2 : ∀ j, j < S.length → B + j ≠ b2) (hu : MvV b b2 n u u') : MvR b b2 n ((outQ B S).set i u) ((outQ B S).set i u') := by
 refine ⟨by simp, fun j w hw => ?_⟩
 rw [List.getElem?_set] at hw ⊢
 split at hw
 · rename_i e
   split at hw
   · rename_i hlt
     injection hw with hw; subst hw
     exact ⟨u, by rw [if_pos e, if_pos hlt], hu⟩
   · cases hw
 · rename_i e
   rw [if_neg e]
   exact (MvR.out hn h2).2 j w hw
end
end Go.Proofs.YtolapannkcdeeaaGreat.AM
