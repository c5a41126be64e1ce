/- Computations that may stop, and the rules by which the walk of a function follows one. Conditions: none. -/
import Derived.Test.YtjnpdnlgkepmcaaAmSub
namespace Go.Proofs.Ytjnpdnlgkepmcaa.AM
set_option linter.unusedSimpArgs false
set_option linter.unusedVariables false
open Go Go.RowKit
variable {E : Env}
def obnd {α β : Type} (o : Option α) (f : α → Option β) : Option β := match o with | some a => f a | none => none
def ogrd {α : Type} (b : Bool) (x : Option α) : Option α := match b with | true => x | false => none
def oite {α : Type} (b : Bool) (x y : Option α) : Option α := match b with | true => x | false => y
def oloopN {τ ρ : Type} (g : τ → Option (τ ⊕ ρ)) : Nat → τ → Option ρ
  | 0, _ => none
  | n + 1, e => match g e with
    | none => none
    | some (.inl e') => oloopN g n e'
    | some (.inr r) => some r
open Classical in
noncomputable def oloopR {τ ρ : Type} (g : τ → Option (τ ⊕ ρ)) (e : τ) : Option ρ := if h : ∃ n, (oloopN g n e).isSome = true then oloopN g (Classical.choose h) e else none
class LO where
 op : {τ ρ : Type} → (τ → Option (τ ⊕ ρ)) → τ → Option ρ
 ok : ∀ {τ ρ : Type} {g : τ → Option (τ ⊕ ρ)} {e : τ} {r : ρ}, op g e = some r → ∃ n, oloopN g n e = some r
theorem oloopR_some {τ ρ : Type} {g : τ → Option (τ ⊕ ρ)} {e : τ} {r : ρ} (h : oloopR g e = some r) : ∃ n, oloopN g n e = some r := by
 unfold oloopR at h
 split at h
 · exact ⟨_, h⟩
 · cases h
noncomputable instance realLO : LO := ⟨oloopR, oloopR_some⟩
@[reducible] def fuelLO : LO := ⟨fun g e => oloopN g 100000 e, fun h => ⟨_, h⟩⟩
def oloop [LO] {τ ρ : Type} (g : τ → Option (τ ⊕ ρ)) (e : τ) : Option ρ := LO.op g e
def fits (bytes n : Nat) : Bool := Nat.ble (n * bytes) 1099511627776 && Nat.ble n 1099511627776
def osl {α : Type} (l : List α) (lo hi : Int) : Option (List α) := if 0 ≤ lo ∧ lo ≤ hi ∧ hi ≤ l.length then some ((l.drop lo.toNat).take (hi.toNat - lo.toNat)) else none
section
variable {α β : Type} {v : β}
theorem obnd_some {o : Option α} {f : α → Option β} (h : obnd o f = some v) : ∃ a, o = some a ∧ f a = some v := by
 cases o with
 | none => cases h
 | some a => exact ⟨a, rfl, h⟩
theorem pbr_oite {b : Bool} {p q : Prop} {x y : Option β} (H : oite b x y = some v) (h1 : b = true → x = some v → p) (h2 : b = false → y = some v → q) : pbr b p q := by
 cases b with
 | true => exact h1 rfl H
 | false => exact h2 rfl H
theorem pbr_ogrd {b : Bool} {p q : Prop} {x : Option β} (H : ogrd b x = some v) (h : b = true → x = some v → p) : pbr b p q := by
 cases b with
 | true => exact h rfl H
 | false => cases H
theorem pbr_ogrdn {b : Bool} {p q : Prop} {x : Option β} (H : ogrd (!b) x = some v) (h : b = false → x = some v → q) : pbr b p q := by
 cases b with
 | false => exact h rfl H
 | true => cases H
theorem nth_o {f : α → Value} {l : List α} {n : Nat} {F : α → Option β} {K : Value → Prop} (H : obnd (l[n]?) F = some v) (h : ∀ x, l[n]? = some x → F x = some v → K (f x)) : obind (nthv (l.map f) n) K := by
 obtain ⟨x, hx, H⟩ := obnd_some H
 exact obind_intro (nthv_map hx) (h x hx H)
theorem ogrd_some {b : Bool} {x : Option β} (h : ogrd b x = some v) : b = true ∧ x = some v := by
 cases b with
 | true => exact ⟨rfl, h⟩
 | false => cases h
theorem get_o {l : List α} {n : Nat} {F : α → Option β} {K : α → Prop} (H : obnd (l[n]?) F = some v) (h : ∀ x, l[n]? = some x → F x = some v → K x) : obind (l[n]?) K := by
 obtain ⟨x, hx, H⟩ := obnd_some H
 exact obind_intro hx (h x hx H)
theorem fits_o {m n b : Nat} {P : Prop} {x : Option β} (H : ogrd (fits b n) x = some v) (hn : m = n) (k : x = some v → P) : m * b ≤ 1099511627776 ∧ m ≤ 1099511627776 ∧ P := by
  subst hn
  cases hb : fits b m with
  | false => rw [hb] at H; cases H
  | true =>
    rw [hb] at H
    simp only [fits, Bool.and_eq_true, Nat.ble_eq] at hb
    exact ⟨hb.1, hb.2, k H⟩
theorem oloopN_mono {τ ρ : Type} {g : τ → Option (τ ⊕ ρ)} {r : ρ} : ∀ {n m : Nat} {e : τ}, n ≤ m → oloopN g n e = some r → oloopN g m e = some r
  | 0, _, _, _, h => by cases h
  | n + 1, 0, _, hm, _ => by omega
  | n + 1, m + 1, e, hm, h => by
    simp only [oloopN] at h ⊢
    cases hg : g e with
    | none => rw [hg] at h; cases h
    | some x => cases x with
      | inl e' => rw [hg] at h; exact oloopN_mono (by omega) h
      | inr r => rw [hg] at h; exact h
theorem oloop_some [LO] {τ ρ : Type} {g : τ → Option (τ ⊕ ρ)} {e : τ} {r : ρ} (h : oloop g e = some r) : ∃ n, oloopN g n e = some r := LO.ok h
theorem oloop_of {τ ρ : Type} {g : τ → Option (τ ⊕ ρ)} {e : τ} {r : ρ} {n : Nat} (h : oloopN g n e = some r) : oloop g e = some r := by
 show oloopR g e = some r
 unfold oloopR
 have hx : ∃ n, (oloopN g n e).isSome = true := ⟨n, by rw [h]; rfl⟩
 rw [dif_pos hx]
 have h1 := Classical.choose_spec hx
 obtain ⟨r', hr⟩ := Option.isSome_iff_exists.1 h1
 rw [hr]
 rcases Nat.le_total n (Classical.choose hx) with h2 | h2
 · have := oloopN_mono h2 h; rw [hr] at this; exact this
 · have := oloopN_mono h2 hr; rw [h] at this; exact this.symm
theorem oloop_step {τ ρ : Type} {g : τ → Option (τ ⊕ ρ)} {e e' : τ} (h : g e = some (.inl e')) : oloop g e = oloop g e' := by
  cases h' : oloop g e' with
  | some r =>
    obtain ⟨n, hn⟩ := oloop_some h'
    exact oloop_of (n := n + 1) (by simp only [oloopN, h]; exact hn)
  | none =>
    cases h2 : oloop g e with
    | none => rfl
    | some r =>
      obtain ⟨n, hn⟩ := oloop_some h2
      cases n with
      | zero => cases hn
      | succ n => simp only [oloopN, h] at hn; rw [oloop_of hn] at h'; cases h'
theorem oloop_done {τ ρ : Type} {g : τ → Option (τ ⊕ ρ)} {e : τ} {r : ρ} (h : g e = some (.inr r)) : oloop g e = some r := oloop_of (n := 1) (by simp only [oloopN, h])
end
theorem SubT.nil {t : List (Nat × Value)} : SubT [] t := fun _ _ h => by cases h
theorem SubT.cons {t2 t : List (Nat × Value)} {k : Nat} {v : Value} (h : look t k = some v) (r : SubT t2 t) : SubT ((k, v) :: t2) t := fun j u hj => by
 simp only [look] at hj
 split at hj
 · rename_i e; subst e; injection hj with hj; subst hj; exact h
 · exact r j u hj
theorem ks_idem {K : St → Prop} {s : St} (h : ks (ks K) s) : ks K s := by
 obtain ⟨s2, ⟨s3, h3, h4⟩, h5⟩ := h
 exact ⟨s3, h3, h4.trans h5⟩
theorem iops_append {K : St → Prop} : ∀ {l m : List IOpG} {s : St}, iops E l (iops E m K) s → iops E (l ++ m) K s
  | [], _, _, H => H
  | g :: r, m, s, H => by
    refine igrd_mono H (fun H => istep_mono H fun v h' hh => iops_append hh) (fun H => iops_append H)
structure PO (E : Env) (l : List IOpG) (K : St → Prop) (s : St) : Prop where
 out : iops E l (ks K) s
theorem PO.split {n : Nat} {l : List IOpG} {K : St → Prop} {s : St} (H : iops E (l.take n) (iops E (l.drop n) K) s) : iops E l K s := by
 have := iops_append H
 rwa [List.take_append_drop] at this
theorem po_ops (n : Nat) {l : List IOpG} {K : St → Prop} {s : St} (H : pops E (l.take n) (fun s => PO E (l.drop n) K s) s) : PO E l K s :=
 ⟨PO.split (n := n) (pops_sound (fun _ h => h.out) H)⟩
theorem po_all {l : List IOpG} {K : St → Prop} {s : St} (H : pops E l K s) : PO E l K s := ⟨pops_sound (fun s h => ⟨s, h, .refl⟩) H⟩
theorem po_seg {τ : Type} (n : Nat) (S : τ → St) (e : τ) {l : List IOpG} {K : St → Prop} {s : St} (h1 : PO E (l.take n) (fun s' => SubU (S e) s') s) (h2 : PO E (l.drop n) K (S e)) : PO E l K s := by
 refine ⟨PO.split (n := n) (iops_mono (fun s' hs => ?_) h1.out)⟩
 obtain ⟨s2, h3, h4⟩ := hs
 exact iops_mono (fun _ h => ks_idem h) (iops_sub (h3.trans h4) h2.out)
structure PW (E : Env) (c : ICode) (Q : IExit → St → Prop) (s : St) : Prop where
 out : iwp E c (Sc Q) s
def qseq (E : Env) (b : ICode) (Q : IExit → St → Prop) : IExit → St → Prop := fun e s => match e with | .normal => PW E b Q s | .exit id => Q (.exit id) s | .ret => Q .ret s
def qseqR (E : Env) (K : Nat) (b : ICode) (Q : IExit → St → Prop) : IExit → St → Prop := fun e s' => match e with | .normal => ∃ s2, Recast K s' s2 ∧ PW E b Q s2 | .exit id => Q (.exit id) s' | .ret => Q .ret s'
def qblk (id : Nat) (Q : IExit → St → Prop) : IExit → St → Prop := fun e s => match e with | .normal => Q .normal s | .exit id' => (match Nat.beq id' id with | true => Q .normal s | false => Q (.exit id') s) | .ret => Q .ret s
def qjoin {ρ : Type} (S : ρ → St) (r : ρ) (Q : IExit → St → Prop) : IExit → St → Prop := fun ex s' => match ex with | .normal => SubU (S r) s' | .exit id => Q (.exit id) s' | .ret => Q .ret s'
def qjoinS {ρ α : Type} (S : ρ → St) (r : ρ ⊕ α) (Q : IExit → St → Prop) : IExit → St → Prop := fun ex s' => match ex with | .normal => ∃ r', r = .inl r' ∧ SubU (S r') s' | .exit id => Q (.exit id) s' | .ret => Q .ret s'
def qjoinR {ρ : Type} (K : Nat) (S : ρ → St) (r : ρ) (Q : IExit → St → Prop) : IExit → St → Prop := fun ex s' => match ex with | .normal => Recast K s' (S r) | .exit id => Q (.exit id) s' | .ret => Q .ret s'
def qjoinSR {ρ α : Type} (K : Nat) (S : ρ → St) (r : ρ ⊕ α) (Q : IExit → St → Prop) : IExit → St → Prop := fun ex s' => match ex with | .normal => ∃ r', r = .inl r' ∧ Recast K s' (S r') | .exit id => Q (.exit id) s' | .ret => Q .ret s'
def qloop {τ ρ : Type} (K : Nat) (S : τ → St) (r : ρ) (x : τ ⊕ ρ) (Q : IExit → St → Prop) : IExit → St → Prop := fun ex s' => match ex with
 | .normal => ∃ e', x = .inl e' ∧ Recast K s' (S e')
 | .exit id => ∃ r', x = .inr r' ∧ (r' = r → Q (.exit id) s')
 | .ret => ∃ r', x = .inr r' ∧ (r' = r → Q .ret s')
theorem Sc.idem {Q : IExit → St → Prop} {e : IExit} {s : St} (h : Sc (Sc Q) e s) : Sc Q e s := by
 obtain ⟨s2, ⟨s3, h3, h4⟩, h5⟩ := h
 exact ⟨s3, h3, h4.trans h5⟩
section
variable {Q : IExit → St → Prop} {s : St} {a b : ICode}
theorem PW.sub {s2 : St} (H : PW E a Q s2) (h : SubU s2 s) : PW E a Q s := ⟨iwp_mono (fun _ _ h => h.idem) (iwp_sub h H.out)⟩
theorem pw_skip (h : Q .normal s) : PW E .skip Q s := ⟨⟨s, h, .refl⟩⟩
theorem pw_exit {id : Nat} (h : Q (.exit id) s) : PW E (.exit id) Q s := ⟨⟨s, h, .refl⟩⟩
theorem pw_ret (h : Q .ret s) : PW E .ret Q s := ⟨⟨s, h, .refl⟩⟩
theorem ikeep_sub {k : Option (List Nat)} {s2 s : St} (h : SubU s2 s) : SubU (ikeep k s2) (ikeep k s) := by
 cases k with
 | none => exact h
 | some l => exact ⟨h.t.keep, h.h⟩
theorem pw_ops {l : List IOpG} {keep : Option (List Nat)} (h : PO E l (fun s => pkeeps keep s fun s => Q .normal s) s) : PW E (.ops l keep) Q s :=
 ⟨iops_mono (fun s ⟨s2, h2, h3⟩ => by simp only [pkeeps_eq] at h2; exact ⟨_, h2, ikeep_sub h3⟩) h.out⟩
theorem pw_draw {t : DT} {keep : Option (List Nat)} (h : pdraw E t [] (fun s => pkeeps keep s fun s => Q .normal s) s) : PW E (.draw t keep) Q s :=
 ⟨pstmt_sound (c := .draw t keep) (fun _ s h => ⟨s, h, .refl⟩) h⟩
theorem pw_seqR (h : PW E a (qseqR E s.h.next b Q) s) : PW E (.seq a b) Q s :=
  ⟨by
    refine iwp_mono (c := a) (fun e s' H => ?_) h.out
    obtain ⟨s2, h2, h3⟩ := H
    cases e with
    | normal =>
      obtain ⟨s4, h5, h6⟩ := h2
      rcases h5 with rfl | h5
      · exact ⟨s', .refl, (h6.sub h3).out⟩
      · exact ⟨s4, .inr (h5.pre h3), h6.out⟩
    | exit id => exact ⟨s2, h2, h3⟩
    | ret => exact ⟨s2, h2, h3⟩⟩
theorem PW.mono {Q' : IExit → St → Prop} (hq : ∀ e s, Q e s → Q' e s) (H : PW E a Q s) : PW E a Q' s := ⟨iwp_mono (fun e s ⟨s2, h, h'⟩ => ⟨s2, hq _ _ h, h'⟩) H.out⟩
theorem pw_seq (h : PW E a (qseq E b Q) s) : PW E (.seq a b) Q s :=
 pw_seqR (h.mono fun e s' H => by cases e <;> first | exact ⟨_, .refl, H⟩ | exact H)
theorem pw_so {l : List IOpG} {keep : Option (List Nat)} (h : PO E l (fun s => pkeeps keep s fun s => PW E b Q s) s) : PW E (.seq (.ops l keep) b) Q s := pw_seq (pw_ops h)
theorem pw_sd {t : DT} {keep : Option (List Nat)} (h : pdraw E t [] (fun s => pkeeps keep s fun s => PW E b Q s) s) : PW E (.seq (.draw t keep) b) Q s := pw_seq (pw_draw h)
theorem pw_cond {c : Opd} (h : obind (s.ev E c) fun v => obind (vbool v) fun t => pbr t (PW E a Q s) (PW E b Q s)) : PW E (.cond c a b) Q s := by
 obtain ⟨v, h1, H⟩ := obind_iff.1 h
 obtain ⟨t, h2, H⟩ := obind_iff.1 H
 refine ⟨obind_iff.2 ⟨t, by rw [h1]; exact h2, ?_⟩⟩
 cases t with
 | true => exact (show PW E a Q s from H).out
 | false => exact (show PW E b Q s from H).out
theorem pw_block {id : Nat} (h : PW E a (qblk id Q) s) : PW E (.block id a) Q s :=
  ⟨iwp_mono (c := a) (fun e s H => by
    obtain ⟨s2, h2, h3⟩ := H
    cases e with
    | normal => exact ⟨s2, h2, h3⟩
    | exit id' =>
      unfold iblk
      simp only [qblk] at h2 ⊢
      cases hb : Nat.beq id' id with
      | true => rw [hb] at h2; rw [if_pos (Nat.eq_of_beq_eq_true hb)]; exact ⟨s2, h2, h3⟩
      | false => rw [hb] at h2; rw [if_neg (Nat.ne_of_beq_eq_false hb)]; exact ⟨s2, h2, h3⟩
    | ret => exact ⟨s2, h2, h3⟩) h.out⟩
theorem pw_join {ρ : Type} (S : ρ → St) (r : ρ) (ha : PW E a (qjoin S r Q) s) (hb : PW E b Q (S r)) : PW E (.seq a b) Q s :=
 pw_seq (ha.mono fun e s' H => by cases e with | normal => exact hb.sub H | exit id => exact H | ret => exact H)
theorem pw_joinS {ρ α : Type} (S : ρ → St) (r : ρ ⊕ α) (ha : PW E a (qjoinS S r Q) s)
  (hb : ∀ r', r = .inl r' → PW E b Q (S r')) : PW E (.seq a b) Q s :=
 pw_seq (ha.mono fun e s' H => by cases e with | normal => exact let ⟨r', h1, h2⟩ := H; (hb r' h1).sub h2 | exit id => exact H | ret => exact H)
theorem pw_joinR {ρ : Type} (S : ρ → St) (r : ρ) (ha : PW E a (qjoinR s.h.next S r Q) s) (hb : PW E b Q (S r)) : PW E (.seq a b) Q s :=
 pw_seqR (ha.mono fun e s' H => by cases e with | normal => exact ⟨_, H, hb⟩ | exit id => exact H | ret => exact H)
theorem pw_joinSR {ρ α : Type} (S : ρ → St) (r : ρ ⊕ α) (ha : PW E a (qjoinSR s.h.next S r Q) s)
  (hb : ∀ r', r = .inl r' → PW E b Q (S r')) : PW E (.seq a b) Q s :=
 pw_seqR (ha.mono fun e s' H => by cases e with | normal => exact let ⟨r', h1, h2⟩ := H; ⟨_, h2, hb r' h1⟩ | exit id => exact H | ret => exact H)
theorem Recast.pre {K : Nat} {s s2 s3 : St} (h : SubU s2 s) (hK : K ≤ s3.h.next) (c : Recast K s2 s3) : Recast K s s3 := by
 rcases c with rfl | c
 · exact .sub h (by rw [← h.h]; exact hK)
 · refine .inr ⟨hK, fun ι w rt R T => ?_⟩
   obtain ⟨t2, h2⟩ := s2
   obtain ⟨t, h0⟩ := s
   have hh := h.h
   simp only at hh
   subst hh
   exact c.2 ι w rt R (fun k v hv => T k v (h.t k v hv))
theorem pw_loop [LO] {τ ρ : Type} (S : τ → St) {g : τ → Option (τ ⊕ ρ)} {e0 : τ} {r : ρ} (H : oloop g e0 = some r) (h0 : Recast s.h.next s (S e0)) (hK : ∀ e, s.h.next ≤ (S e).h.next)
    (step : ∀ e x, g e = some x → PW E a (qloop s.h.next S r x Q) (S e)) : PW E (.loop a) Q s := by
  obtain ⟨n, hn⟩ := oloop_some H
  refine ⟨⟨fun m s1 => ∃ e, s1 = S e ∧ oloopN g m e = some r, n, S e0, h0, ⟨e0, rfl, hn⟩, ?_⟩⟩
  rintro m s1 ⟨e, rfl, he⟩
  cases m with
  | zero => cases he
  | succ m =>
    simp only [oloopN] at he
    cases hg : g e with
    | none => rw [hg] at he; cases he
    | some x =>
      refine iwp_mono (c := a) (fun ex s' HH => ?_) (step e x hg).out
      obtain ⟨s2, h2, h3⟩ := HH
      rw [hg] at he
      cases ex with
      | normal =>
        obtain ⟨e', rfl, h4⟩ := h2
        exact ⟨m, S e', by omega, Recast.pre h3 (hK e') h4, e', rfl, he⟩
      | exit id =>
        obtain ⟨r', rfl, h4⟩ := h2
        simp only at he
        injection he with he
        exact ⟨s2, h4 he, h3⟩
      | ret =>
        obtain ⟨r', rfl, h4⟩ := h2
        simp only at he
        injection he with he
        exact ⟨s2, h4 he, h3⟩
def qunr (K : Nat) (P : St → Prop) (Q : IExit → St → Prop) : IExit → St → Prop := fun ex s' => match ex with
 | .normal => ∃ s2, Recast K s' s2 ∧ K ≤ s2.h.next ∧ P s2
 | .exit id => Q (.exit id) s'
 | .ret => Q .ret s'
def PLW (E : Env) (a : ICode) (Q : IExit → St → Prop) (K : Nat) : Nat → St → Prop
 | 0, _ => False
 | m + 1, s => PW E a (qunr K (PLW E a Q K m) Q) s
theorem pw_unroll (m : Nat) (h : PLW E a Q s.h.next m s) : PW E (.loop a) Q s := by
  refine ⟨⟨fun m s1 => PLW E a Q s.h.next m s1, m, s, .refl, h, ?_⟩⟩
  intro m s1 hI
  cases m with
  | zero => exact hI.elim
  | succ m =>
    refine iwp_mono (c := a) (fun ex s' HH => ?_) (show PW E a _ s1 from hI).out
    obtain ⟨s2, h2, h3⟩ := HH
    cases ex with
    | normal =>
      obtain ⟨s3, h4, hK, h5⟩ := h2
      exact ⟨m, s3, by omega, Recast.pre h3 hK h4, h5⟩
    | exit id => exact ⟨s2, h2, h3⟩
    | ret => exact ⟨s2, h2, h3⟩
end
end Go.Proofs.Ytjnpdnlgkepmcaa.AM
