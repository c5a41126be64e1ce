/- Functions and calls, for walks that follow a computation. Conditions: none. -/
import Derived.Test.YtjnpdnlgkepmcaaAmLift
namespace Go.Proofs.Ytjnpdnlgkepmcaa.AM
set_option linter.unusedSimpArgs false
set_option linter.unusedVariables false
open Go Go.RowKit
variable {E : Env}
theorem res1_sub {s2 s : St} (h : SubU s2 s) {y : IRes} {v : Value} (H : res1 E s2 y = some v) : res1 E s y = some v := by
 cases y with
 | t n => exact h.t n v H
 | cell a n g => exact lev_sub h H
theorem resL_sub {s2 s : St} (h : SubU s2 s) : ∀ {l : List IRes} {vs : List Value}, resL E s2 l = some vs → resL E s l = some vs
  | [], _, H => H
  | x :: r, vs, H => by
    simp only [resL] at H ⊢
    split at H
    · rename_i v l h1 h2
      rw [res1_sub h h1, resL_sub h h2]; exact H
    · cases H
def resF (l : List Value) (k : Value → Prop) : Prop := match l with
 | [v] => pval v k
 | l => pval (.tuple ⟨l⟩) k
theorem resF_eq {l : List Value} {k : Value → Prop} : resF l k = k (resV l) := by
  unfold resF resV
  split
  · simp only [pval_eq]
  · rename_i h
    rw [pval_eq]
    cases l with
    | nil => rfl
    | cons a r => cases r with
      | nil => exact absurd rfl (h a)
      | cons b r => rfl
def qfn (E : Env) (res : List IRes) (Q : Value → AHeap → Prop) : IExit → St → Prop := fun e s => match e with
    | .exit _ => False
    | _ => match s with
      | ⟨t, h⟩ => obind (resL E ⟨t, h⟩ res) fun l => resF l fun v => Q v h
def pfnW (E : Env) (F : IFn) (us : List Value) (h : AHeap) (Q : Value → AHeap → Prop) : Prop :=
 pbr (Nat.ble us.length F.nt) (paramsF 0 us fun ts => PW E F.code (qfn E F.res Q) ⟨ts, h⟩) False
theorem pfnw {F : IFn} {us : List Value} {h : AHeap} {Q : Value → AHeap → Prop} (H : pfnW E F us h Q) : ifn E F us h Q := by
  unfold pfnW at H
  cases hb : Nat.ble us.length F.nt with
  | false => rw [hb] at H; exact H.elim
  | true =>
    rw [hb] at H
    have H : paramsF 0 us _ := H
    rw [paramsF_eq] at H
    refine ⟨Nat.le_of_ble_eq_true hb, iwp_mono (fun e s he => ?_) H.out⟩
    obtain ⟨s2, h2, h3⟩ := he
    cases e with
    | exit id => exact h2.elim
    | normal => exact obind_sub h2 (fun _ => resL_sub h3) fun l hl => by rw [resF_eq, show s2.h = s.h from h3.h] at hl; exact hl
    | ret => exact obind_sub h2 (fun _ => resL_sub h3) fun l hl => by rw [resF_eq, show s2.h = s.h from h3.h] at hl; exact hl
def oslL {α : Type} (l : List α) (lo : Int) : Option (List α) := if 0 ≤ lo ∧ lo ≤ l.length then some (l.drop lo.toNat) else none
def oslH {α : Type} (l : List α) (hi : Int) : Option (List α) := if 0 ≤ hi ∧ hi ≤ l.length then some (l.take hi.toNat) else none
def obndS {α γ : Type} (o : Option (α ⊕ γ)) (f : α → Option γ) : Option γ := match o with | some (.inl a) => f a | some (.inr x) => some x | none => none
def oinr {α γ : Type} (o : Option γ) : Option (α ⊕ γ) := match o with | some x => some (.inr x) | none => none
theorem oinr_some {α γ : Type} {o : Option γ} {v : α ⊕ γ} (h : oinr o = some v) : ∃ w, v = .inr w ∧ o = some w := by
 cases o with
 | none => cases h
 | some x => exact ⟨x, (Option.some.inj h).symm, rfl⟩
inductive Wk : Value → Value → Prop
 | refl (u : Value) : Wk u u
 | vt (z b : Nat) (es : List Value) : Wk (VT z es b) (VS z es)
 | nil (z : Nat) : Wk (.slice none 0 0) (VS z [])
 | vz (z : Nat) : Wk (VZ z) (VS z [])
 | agg (xs ys : List Value) (hs : xs.length = ys.length) (h : ∀ (i : Nat) (u u' : Value), xs[i]? = some u → ys[i]? = some u' → Wk u u') : Wk (.agg ⟨xs⟩) (.agg ⟨ys⟩)
inductive WkL : List Value → List Value → Prop
 | nil : WkL [] []
 | cons {u u' : Value} {us us' : List Value} (h : Wk u u') (hr : WkL us us') : WkL (u :: us) (u' :: us')
theorem WkL.len {us us' : List Value} (h : WkL us us') : us.length = us'.length := by
 induction h with
 | nil => rfl
 | cons _ _ ih => simp [ih]
theorem WkL.at {us us' : List Value} (h : WkL us us') : ∀ (i : Nat) (u u' : Value), us[i]? = some u → us'[i]? = some u' → Wk u u' := by
  induction h with
  | nil => intro i u u' h; simp at h
  | cons h _ ih =>
    intro i u u' hu hu'
    cases i with
    | zero => simp at hu hu'; subst hu; subst hu'; exact h
    | succ i => exact ih i u u' (by simpa using hu) (by simpa using hu')
theorem Wk.aggl {us us' : List Value} (h : WkL us us') : Wk (.agg ⟨us⟩) (.agg ⟨us'⟩) := .agg _ _ h.len h.at
theorem Wk.vr {u u' : Value} (h : Wk u u') {ι : Iota} {N : Nat} : ∀ {v : Value}, VR ι N u v → VR ι N u' v := by
  induction h with
  | refl u => exact fun h => h
  | vt z b es => intro v h; exact (h.vt_of rfl).2.1
  | nil z => intro v h; cases h; exact .vsn z
  | vz z =>
    intro v h
    obtain ⟨a, rfl⟩ := VR.z_of h
    cases a with
    | none => exact .vsn z
    | some a => exact .vs0 z _ _
  | agg xs ys hs h ih =>
    intro v hv
    cases hv with
    | agg _ vs hz hh =>
      refine .agg _ vs (by rw [← hz]; simp [hs]) fun i u' v hu hv => ?_
      have hi : i < xs.length := by rw [hs]; simpa using (Array.getElem?_eq_some_iff.1 hu).1
      exact ih i xs[i] u' (List.getElem?_eq_getElem hi) (by simpa using hu) (hh i xs[i] v (by simp) hv)
theorem WkL.vrl {us us' : List Value} (h : WkL us us') {ι : Iota} {N : Nat} {vs : List Value} (H : VRL ι N us vs) : VRL ι N us' vs :=
 ⟨by rw [← h.len]; exact H.1, fun i u' v hu' hv => by
  have hi : i < us.length := by rw [h.len]; exact (List.getElem?_eq_some_iff.1 hu').1
  exact (h.at i us[i] u' (List.getElem?_eq_getElem hi) hu').vr (H.2 i us[i] v (List.getElem?_eq_getElem hi) hv)⟩
theorem ICallV.weak {fv fv' : Value} {us us' : List Value} {h : AHeap} {Q : Value → AHeap → Prop} (H : ICallV E fv us' h Q) (hw : WkL us us') : ICallV E fv us h Q := by
 intro ι w fv' vs R hf hl
 exact H ι w fv' vs R hf (hw.vrl hl)
theorem ICalls.weak {k : Nat} {us us' : List Value} {h : AHeap} {Q : Value → AHeap → Prop} (H : ICalls E k us' h Q) (hw : WkL us us') : ICalls E k us h Q := ICallV.weak (fv' := .nilFunc) H hw
theorem ICalls.goW {k : Nat} {us us' : List Value} {u : Value} (H : ICalls E k us' AHeap.none fun v _ => v = u) [hus : ClL us'] [hu : Cl u] (hw : WkL us us') {h : AHeap} {Q : Value → AHeap → Prop} (hq : Q u h) : PCalls E k us h Q :=
 ⟨((ICalls.closed hus.out hu.out H h).use hq).weak hw⟩
theorem ICallV.goW {fv : Value} {us us' : List Value} {u : Value} (H : ICallV E fv us' AHeap.none fun v _ => v = u) [hf : Cl fv] [hus : ClL us'] [hu : Cl u] (hw : WkL us us') {h : AHeap} {Q : Value → AHeap → Prop} (hq : Q u h) : PCallV E fv us h Q :=
 ⟨((ICallV.closed hf.out hus.out hu.out H h).use hq).weak (fv' := .nilFunc) hw⟩
theorem ICalls.goFW {k z z' : Nat} {us us' es : List Value} (H : ICalls E k us' AHeap.none fun v h' => ∃ b n, v = VT z es b ∧ n = es.length ∧ h'.get b = some (.tail n z')) [hus : ClL us'] [hes : ClL es] (hw : WkL us us') {h : AHeap} {Q : Value → AHeap → Prop}
  (hq : Q (VT z es h.next) (h.alloc (.tail es.length z'))) : PCalls E k us h Q :=
 ⟨((ICalls.fresh hus.out (Cl.out (v := VS z es)) H h).use2 hq).weak hw⟩
abbrev eI (x : Int) : Value := .int .i64 x
abbrev eU8 (x : Int) : Value := .int .u8 x
abbrev eS (x : ByteArray) : Value := .string x
abbrev eB (x : Bool) : Value := .bool x
theorem Recast.nilT (z : Nat) {K n : Nat} {m : Bool} {t t2 : List (Nat × Value)} {l : List (Nat × AObj)} (hK : K ≤ n)
  (ht : ∀ k u', look t2 k = some u' → ∃ u, look t k = some u ∧ (u' = u ∨ (u = .slice none 0 0 ∧ u' = VT z [] n))) : Recast K ⟨t, ⟨n, l, m⟩⟩ ⟨t2, ⟨n + 1, (n, .tail 0 z) :: l, m⟩⟩ :=
 .inr (RC.nilT (h := ⟨n, l, m⟩) hK ht)
inductive NilT (z n : Nat) (t : List (Nat × Value)) : List (Nat × Value) → Prop
 | nil : NilT z n t []
 | same {k : Nat} {v : Value} {r : List (Nat × Value)} (h : look t k = some v) (hr : NilT z n t r) : NilT z n t ((k, v) :: r)
 | turn {k : Nat} {r : List (Nat × Value)} (h : look t k = some (.slice none 0 0)) (hr : NilT z n t r) : NilT z n t ((k, VT z [] n) :: r)
theorem NilT.at {z n : Nat} {t t2 : List (Nat × Value)} (H : NilT z n t t2) : ∀ k u', look t2 k = some u' → ∃ u, look t k = some u ∧ (u' = u ∨ (u = .slice none 0 0 ∧ u' = VT z [] n)) := by
  induction H with
  | nil => intro k u h; cases h
  | same h _ ih =>
    intro k u hk
    simp only [look] at hk
    split at hk
    · rename_i e; subst e; injection hk with hk; subst hk; exact ⟨_, h, .inl rfl⟩
    · exact ih k u hk
  | turn h _ ih =>
    intro k u hk
    simp only [look] at hk
    split at hk
    · rename_i e; subst e; injection hk with hk; subst hk; exact ⟨_, h, .inr ⟨rfl, rfl⟩⟩
    · exact ih k u hk
theorem Recast.nilTs (z : Nat) {K n : Nat} {m : Bool} {t t2 : List (Nat × Value)} {l : List (Nat × AObj)} (hK : K ≤ n) (ht : NilT z n t t2) : Recast K ⟨t, ⟨n, l, m⟩⟩ ⟨t2, ⟨n + 1, (n, .tail 0 z) :: l, m⟩⟩ := .nilT z hK ht.at
theorem Bnd.vt {n z b : Nat} {es : List Value} [hes : ClL es] (h : b < n) : Bnd n (VT z es b) := fun ι N v hv => by
 obtain ⟨hb, hV, hle, hcur⟩ := hv.vt_of rfl
 exact .vt z es b v h ((Cl.out (v := VS z es)).bnd ι N v hV) hle hcur
theorem Recast.sub' {K n : Nat} {m : Bool} {t t2 : List (Nat × Value)} {l : List (Nat × AObj)} (hK : K ≤ n) (h : SubT t2 t) : Recast K ⟨t, ⟨n, l, m⟩⟩ ⟨t2, ⟨n, l, m⟩⟩ := .sub ⟨h, rfl⟩ hK
section
variable {α β γ : Type} {v : γ}
theorem app_o {l m : List α} {f : α → Value} {es news : List Value} {n z z' bytes : Nat} {k : List Value → Prop} {x : Option γ} (H : ogrd (fits bytes (l.length + m.length)) x = some v) (he : es = l.map f) (hm : news = m.map f) (hn : n = es.length)
  (hk : x = some v → k ((l ++ m).map f)) (hz : z' = z ∨ (z' = 0 ∧ news.isEmpty = false) := by first | exact .inl rfl | exact .inr ⟨rfl, rfl⟩) :
  (z' = z ∨ (z' = 0 ∧ news.isEmpty = false)) ∧ z = z ∧ n = es.length ∧ (es.length + news.length) * bytes ≤ 1099511627776 ∧ es.length + news.length ≤ 1099511627776 ∧ PApp es news k := by
 subst he; subst hm
 obtain ⟨h1, h2, h3⟩ := fits_o (m := (l.map f).length + (m.map f).length) H (by simp) hk
 exact ⟨hz, rfl, hn, h1, h2, ⟨by rw [← List.map_append]; exact h3⟩⟩
theorem oslL_o {l : List α} {f : α → Value} {lo : Int} {F : List α → Option γ} {P : Prop} (H : obnd (oslL l lo) F = some v) (h : ∀ m, oslL l lo = some m → F m = some v → 0 ≤ lo ∧ lo ≤ (l.length : Int) → (l.map f).drop lo.toNat = m.map f → P) : P := by
 obtain ⟨m, hm, H⟩ := obnd_some H
 have hm' := hm
 unfold oslL at hm'
 split at hm'
 · rename_i hc
   injection hm' with hm'
   refine h m hm H hc ?_
   rw [← hm', ← List.map_drop]
 · cases hm'
theorem obndS_some {o : Option (α ⊕ γ)} {f : α → Option γ} (h : obndS o f = some v) : ∃ r, o = some r ∧ (∀ a, r = .inl a → f a = some v) ∧ (∀ x, r = .inr x → x = v) := by
  cases o with
  | none => cases h
  | some r =>
    refine ⟨r, rfl, fun a ha => ?_, fun x hx => ?_⟩
    · subst ha; exact h
    · subst hx; exact Option.some.inj h
end
abbrev eY (x : UInt8) : Value := .int .u8 (x.toNat : Int)
end Go.Proofs.Ytjnpdnlgkepmcaa.AM
