/- Values of functions called; blocks of a round left out. Conditions: none. -/
import Derived.Test.YtjnpdnlgkepmcaaAmLoopR
namespace Go.Proofs.Ytjnpdnlgkepmcaa.AM
set_option linter.unusedSimpArgs false
set_option linter.unusedVariables false
open Go Go.RowKit
variable {E : Env}
theorem ICallV.go {fv : Value} {us : List Value} {u : Value} (H : ICallV E fv us AHeap.none fun v _ => v = u) [hf : Cl fv] [hus : ClL us] [hu : Cl u] {h : AHeap} {Q : Value → AHeap → Prop} (hq : Q u h) : PCallV E fv us h Q :=
 ⟨(ICallV.closed hf.out hus.out hu.out H h).use hq⟩
theorem ICallV.goD {fv fv' : Value} {us us' : List Value} {u : Value} {h : AHeap} {Q : Value → AHeap → Prop} (H : ICallV E fv' us' AHeap.none fun v _ => v = u) (hf : Dp h fv fv') (hus : DpL h us us') (hu : vrcD u = true) (hq : Q u h) : PCallV E fv us h Q :=
 ⟨(ICallV.deep hf hus hu H).use hq⟩
theorem Bnd.ptr {n b o : Nat} (h : b < n) : Bnd n (.pointer (some ⟨b, o, none⟩)) := fun ι N v hv => by
 cases hv with
 | ptr => exact .ptr _ _ h
theorem Bnd.cl {n : Nat} {u : Value} [h : Cl u] : Bnd n u := h.out.bnd
inductive SubS (n : Nat) (t : List (Nat × Value)) : List (Nat × Value) → Prop
 | nil : SubS n t []
 | cons {k : Nat} {v : Value} {r : List (Nat × Value)} (h : look t k = some v) (hb : Bnd n v) (hr : SubS n t r) : SubS n t ((k, v) :: r)
theorem SubS.look {n : Nat} {t t2 : List (Nat × Value)} (H : SubS n t t2) : ∀ k u, AM.look t2 k = some u → AM.look t k = some u ∧ Bnd n u := by
  induction H with
  | nil => intro k u h; cases h
  | cons h hb _ ih =>
    intro k u hk
    simp only [AM.look] at hk
    split at hk
    · rename_i e; subst e; injection hk with hk; subst hk; exact ⟨h, hb⟩
    · exact ih k u hk
def OBnd (n b : Nat) : AObj → Prop
 | .rw c => b < n ∧ oneL c = true ∧ ∀ u, u ∈ c → Bnd n u
 | .tail _ _ => b < n
 | .dead => True
 | .loop L => b < n ∧ ∀ k u, look L.tmps k = some u → Bnd n u
inductive SubH (n : Nat) (t : List (Nat × AObj)) : List (Nat × AObj) → Prop
 | nil : SubH n t []
 | cons {b : Nat} {o : AObj} {r : List (Nat × AObj)} (h : look t b = some o) (hb : OBnd n b o) (hr : SubH n t r) : SubH n t ((b, o) :: r)
theorem SubH.look {n : Nat} {t t2 : List (Nat × AObj)} (H : SubH n t t2) : ∀ k u, AM.look t2 k = some u → AM.look t k = some u ∧ OBnd n k u := by
  induction H with
  | nil => intro k u h; cases h
  | cons h hb _ ih =>
    intro k u hk
    simp only [AM.look] at hk
    split at hk
    · rename_i e; subst e; injection hk with hk; subst hk; exact ⟨h, hb⟩
    · exact ih k u hk
theorem OBnd.rw {n b : Nat} {c : List Value} (h : b < n) (h1 : oneL c = true) (h2 : ∀ u, u ∈ c → Bnd n u) : OBnd n b (.rw c) := ⟨h, h1, h2⟩
theorem OBnd.rwc {n b : Nat} {c : List Value} [hc : ClL c] (h : b < n) (h1 : oneL c = true) : OBnd n b (.rw c) := ⟨h, h1, fun u hu => (hc.out u hu).bnd⟩
theorem OBnd.tail {n b m z : Nat} (h : b < n) : OBnd n b (.tail m z) := h
inductive BndT (n : Nat) : List (Nat × Value) → Prop
 | nil : BndT n []
 | cons {k : Nat} {v : Value} {r : List (Nat × Value)} (h : Bnd n v) (hr : BndT n r) : BndT n ((k, v) :: r)
theorem BndT.at {n : Nat} {t : List (Nat × Value)} (H : BndT n t) : ∀ k u, AM.look t k = some u → Bnd n u := by
  induction H with
  | nil => intro k u h; cases h
  | cons h _ ih =>
    intro k u hk
    simp only [AM.look] at hk
    split at hk
    · rename_i e; subst e; injection hk with hk; subst hk; exact h
    · exact ih k u hk
theorem OBnd.loop {n b : Nat} {L : ALoop} (h : b < n) (ht : BndT n L.tmps) : OBnd n b (.loop L) := ⟨h, ht.at⟩
theorem oneL_at : ∀ {c : List Value} {i : Nat} {u : Value}, oneL c = true → c[i]? = some u → u.oneCell' = true
  | [], i, u, _, h => by simp at h
  | x :: r, 0, u, h1, h => by
    simp at h; subst h
    simp only [oneL, Bool.and_eq_true] at h1; exact h1.1
  | x :: r, i + 1, u, h1, h => by
    simp only [oneL, Bool.and_eq_true] at h1
    exact oneL_at h1.2 (by simpa using h)
theorem Recast.trunc {K n1 n2 : Nat} {m1 m2 : Bool} {t t2 : List (Nat × Value)} {l l2 : List (Nat × AObj)} (hK : K ≤ n2) (hH : SubH n2 l l2) (hT : SubS n2 t t2) : Recast K ⟨t, ⟨n1, l, m1⟩⟩ ⟨t2, ⟨n2, l2, m2⟩⟩ := by
  refine .inr (RC.fz (fun _ => false) hK (fun b o2 hb => ?_) fun k u' hu => ?_)
  · unfold AHeap.get at hb
    obtain ⟨o, h1, h2⟩ := bind_some hb
    obtain ⟨h3, h4⟩ := hH.look b o h1
    have hg : AHeap.get ⟨n1, l, m1⟩ b = o.live := by unfold AHeap.get; rw [show look (AHeap.mk n1 l m1).objs b = some o from h3]; rfl
    cases o with
    | rw c =>
      simp only [AObj.live, Option.some.injEq] at h2
      subst h2
      refine ⟨h4.1, rfl, .inr (.inl ⟨c, c, rfl, hg, Nat.le_refl _, fun i u hu => ⟨?_, u, hu, .same u (h4.2.2 u (mem_of_at hu))⟩⟩)⟩
      exact oneL_at h4.2.1 hu
    | tail n z =>
      simp only [AObj.live, Option.some.injEq] at h2
      subst h2
      exact ⟨h4, rfl, .inl ⟨n, z, rfl, hg⟩⟩
    | dead => simp [AObj.live] at h2
    | loop L =>
      simp only [AObj.live, Option.some.injEq] at h2
      subst h2
      exact ⟨h4.1, rfl, .inr (.inr ⟨L, rfl, hg, h4.2⟩)⟩
  · obtain ⟨h1, h2⟩ := hT.look k u' hu
    exact ⟨u', h1, .same u' h2⟩
end Go.Proofs.Ytjnpdnlgkepmcaa.AM
