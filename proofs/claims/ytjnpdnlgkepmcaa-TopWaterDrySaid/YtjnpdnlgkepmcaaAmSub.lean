/- More slots than are looked at do no harm. Conditions: none. -/
import Derived.Test.YtjnpdnlgkepmcaaAmTrunc
namespace Go.Proofs.Ytjnpdnlgkepmcaa.AM
set_option linter.unusedSimpArgs false
set_option linter.unusedVariables false
open Go Go.RowKit
variable {E : Env}
structure SubU (s2 s : St) : Prop where
 t : SubT s2.t s.t
 h : s2.h = s.h
theorem SubU.refl {s : St} : SubU s s := ⟨.refl, rfl⟩
theorem SubU.trans {a b c : St} (h1 : SubU a b) (h2 : SubU b c) : SubU a c := ⟨h1.t.trans h2.t, h1.h.trans h2.h⟩
theorem SubT.put {t2 t : List (Nat × Value)} {n : Nat} {v : Value} (h : SubT t2 t) : SubT ((n, v) :: t2) ((n, v) :: t) := fun k u hk => by
 simp only [look] at hk ⊢
 by_cases e : k = n
 · rw [if_pos e] at hk ⊢; exact hk
 · rw [if_neg e] at hk ⊢; exact h k u hk
theorem SubT.putO {t2 t : List (Nat × Value)} {d : Option Nat} {v : Option Value} (h : SubT t2 t) : SubT (aputO t2 d v) (aputO t d v) := by
  cases d with
  | none => exact h
  | some n => cases v with
    | some v => exact h.put
    | none =>
      intro k u hk
      simp only [aputO, look_adel] at hk ⊢
      by_cases e : k = n
      · rw [if_pos e] at hk; cases hk
      · rw [if_neg e] at hk ⊢; exact h k u hk
theorem SubT.keep {t2 t : List (Nat × Value)} (h : SubT t2 t) {l : List Nat} : SubT (akeep t2 l) (akeep t l) := by
  intro k v hk
  have h1 := look_akeep _ _ _ _ hk
  have hm : k ∈ l := by
    clear h1 h
    induction l with
    | nil => simp [akeep, look] at hk
    | cons a r ih =>
      simp only [akeep] at hk
      split at hk
      · simp only [look] at hk
        split at hk
        · rename_i e; subst e; exact List.mem_cons_self
        · exact List.mem_cons_of_mem _ (ih hk)
      · exact List.mem_cons_of_mem _ (ih hk)
  have h2 := h k v h1
  clear hk h1
  induction l with
  | nil => cases hm
  | cons a r ih =>
    simp only [akeep]
    by_cases e : k = a
    · subst e; rw [h2]; simp [look]
    · have hr : k ∈ r := by rcases List.mem_cons.1 hm with h | h; exact absurd h e; exact h
      split
      · simp only [look, if_neg e]; exact ih hr
      · exact ih hr
theorem bmono {α β : Type} {o o' : Option α} {f g : α → Option β} {r : β} (H : o.bind f = some r) (h1 : ∀ a, o = some a → o' = some a) (h2 : ∀ a, f a = some r → g a = some r) : o'.bind g = some r := by
 obtain ⟨a, ha, hf⟩ := bind_some H
 rw [h1 a ha]; exact h2 a hf
theorem ev_sub {s2 s : St} (h : SubU s2 s) {x : Opd} {v : Value} (H : s2.ev E x = some v) : s.ev E x = some v := by
 cases x with
 | t n => exact h.t n v H
 | _ => exact H
theorem evs_sub {s2 s : St} (h : SubU s2 s) : ∀ {l : List Opd} {vs : List Value}, evs E s2 l = some vs → evs E s l = some vs
  | [], _, H => H
  | x :: r, vs, H => by
    simp only [evs] at H ⊢
    split at H
    · rename_i v l h1 h2
      rw [ev_sub h h1, evs_sub h h2]; exact H
    · cases H
theorem evp_sub {s2 s : St} (h : SubU s2 s) : ∀ {l : List (Nat × Nat × Opd)} {vs : List (Nat × Nat × Value)}, evp E s2 l = some vs → evp E s l = some vs
  | [], _, H => H
  | (a, b, x) :: r, vs, H => by
    simp only [evp] at H ⊢
    split at H
    · rename_i v l h1 h2
      rw [ev_sub h h1, evp_sub h h2]; exact H
    · cases H
theorem bnd_sub {s2 s : St} (h : SubU s2 s) {d : Nat} {x : Option Opd} {n : Nat} (H : bnd E s2 d x = some n) : bnd E s d x = some n := by
  cases x with
  | none => exact H
  | some x =>
    simp only [bnd] at H ⊢
    split at H
    · rename_i k m h1; rw [ev_sub h h1]; exact H
    · cases H
theorem pev_sub {s2 s : St} (h : SubU s2 s) {op : IOp} {v : Value} (H : pev E s2 op = some v) : pev E s op = some v := by
 cases op <;> simp only [pev] at H ⊢ <;> first
  | exact ev_sub h H
  | (cases H; done)
  | exact H
  | (refine bmono H (fun a ha => ?_) (fun a ha => ha) <;> first | exact bmono ha (fun _ => ev_sub h) (fun _ h => h) | exact ev_sub h ha)
  | (refine bmono H (fun a ha => bmono ha (fun _ => ev_sub h) (fun _ h => h)) (fun a ha => ?_); refine bmono ha (fun a ha => bmono ha (fun _ => ev_sub h) (fun _ h => h)) (fun a ha => ha))
  | (refine bmono H (fun _ => ev_sub h) (fun a ha => ?_); refine bmono ha (fun _ => ev_sub h) (fun a ha => ha))
  | (refine bmono H (fun _ => evp_sub h) (fun a ha => ha))
  | (refine bmono H (fun _ => ev_sub h) (fun a ha => ?_); refine bmono ha (fun a ha => bmono ha (fun _ => ev_sub h) (fun _ h => h)) (fun a ha => ha))
  | (refine bmono H (fun _ => ev_sub h) (fun a ha => ?_); refine bmono ha (fun _ => evs_sub h) (fun a ha => ha))
  | (refine bmono H (fun _ => evs_sub h) (fun a ha => ?_); refine bmono ha (fun _ => evs_sub h) (fun a ha => ha))
  | (refine bmono H (fun a ha => bmono ha (fun _ => ev_sub h) (fun _ h => h)) (fun a ha => ?_); refine bmono ha (fun _ => bnd_sub h) (fun a ha => ?_); refine bmono ha (fun _ => bnd_sub h) (fun a ha => ?_); first | exact ha | refine bmono ha (fun _ => bnd_sub h) (fun a ha => ha))
  | (refine bmono H (fun _ => ev_sub h) (fun a ha => ?_); refine bmono ha (fun _ => bnd_sub h) (fun a ha => ?_); refine bmono ha (fun _ => bnd_sub h) (fun a ha => ?_); refine bmono ha (fun _ => bnd_sub h) (fun a ha => ha))
  | skip
 case pick c a b =>
  refine bmono H (fun a ha => bmono ha (fun _ => ev_sub h) (fun _ h => h)) (fun t ht => ?_)
  cases t with
  | true => exact ev_sub h ht
  | false => exact ev_sub h ht
theorem lev_sub {s2 s : St} (h : SubU s2 s) {n : Nat} {g : Bool} {x : Opd} {v : Value} (H : lev E s2 n g x = some v) : lev E s n g x = some v := by
 unfold lev at H ⊢
 refine bmono H (fun _ => ev_sub h) (fun a ha => ?_)
 rw [← h.h]; exact ha
theorem wev_sub {s2 s : St} (h : SubU s2 s) {op : IOp} {r : Option Value × AHeap} (H : wev E s2 op = some r) : wev E s op = some r := by
 have hh := h.h
 obtain ⟨t2, h2⟩ := s2
 obtain ⟨t, h0⟩ := s
 simp only at hh
 subst hh
 cases op <;> simp only [wev] at H ⊢ <;> first
  | (cases H; done)
  | exact H
  | (refine bmono H (fun a ha => ?_) (fun a ha => ha) <;> first | exact bmono ha (fun _ => ev_sub h) (fun _ h => h) | exact ev_sub h ha)
  | exact bmono H (fun _ => evp_sub h) (fun a ha => ha)
  | skip
 case mslice e b z l c =>
  refine bmono H (fun a ha => bmono ha (fun _ => ev_sub h) (fun _ h => h)) (fun cn hc => ?_)
  cases ho : opd0 l with
  | true => rw [ho] at hc; exact hc
  | false => rw [ho] at hc; exact bmono hc (fun a ha => bmono ha (fun _ => ev_sub h) (fun _ h => h)) (fun _ h => h)
 case store n a x =>
  refine bmono H (fun a ha => bmono ha (fun _ => ev_sub h) (fun _ h => h)) (fun p hp => ?_)
  exact bmono hp (fun _ => ev_sub h) (fun _ h => h)
 case append e b s0 x =>
  refine bmono H (fun _ => ev_sub h) (fun v hv => ?_)
  exact bmono hv (fun _ => ev_sub h) (fun _ h => h)
 case appz e b z d x =>
  refine bmono H (fun a ha => bmono ha (fun _ => ev_sub h) (fun _ h => h)) (fun p hp => ?_)
  exact bmono hp (fun _ => ev_sub h) (fun _ h => h)
 case copy e d x =>
  refine bmono H (fun a ha => bmono ha (fun _ => ev_sub h) (fun _ h => h)) (fun p hp => ?_)
  exact bmono hp (fun a ha => bmono ha (fun _ => ev_sub h) (fun _ h => h)) (fun _ h => h)
 case mp n x y =>
  rcases n with _ | _ | n
  · exact H
  all_goals
    simp only at H ⊢
    refine bmono H (fun a ha => bmono ha (fun _ => ev_sub h) (fun _ h => h)) (fun p hp => ?_)
    exact bmono hp (fun a ha => bmono ha (fun _ => ev_sub h) (fun _ h => h)) (fun _ h => h)
theorem xev_sub {s2 s : St} (h : SubU s2 s) {op : IOp} {r : Option Value × AHeap} (H : xev E s2 op = some r) : xev E s op = some r := by
 have key : ∀ op, (pev E s2 op).bind (fun v => some (some v, s2.h)) = some r → (pev E s op).bind (fun v => some (some v, s.h)) = some r := fun op H => by
  rw [← h.h]; exact bmono H (fun _ => pev_sub h) (fun _ h => h)
 cases op
 case load n g x => simp only [xev] at H ⊢; rw [← h.h]; exact bmono H (fun _ => lev_sub h) (fun _ h => h)
 case alloc z => exact wev_sub (E := E) (op := .alloc z) h H
 case box x => exact wev_sub (E := E) (op := .box x) h H
 case s2b x => exact wev_sub (E := E) (op := .s2b x) h H
 case bslice a b c d => exact wev_sub (E := E) (op := .bslice a b c d) h H
 case mslice a b c d e => exact wev_sub (E := E) (op := .mslice a b c d e) h H
 case store a b c => exact wev_sub (E := E) (op := .store a b c) h H
 case append a b c d => exact wev_sub (E := E) (op := .append a b c d) h H
 case copy a b c => exact wev_sub (E := E) (op := .copy a b c) h H
 case appz a b c d e => exact wev_sub (E := E) (op := .appz a b c d e) h H
 case clr a b c => exact wev_sub (E := E) (op := .clr a b c) h H
 case mp a b c => exact wev_sub (E := E) (op := .mp a b c) h H
 case nope => exact key .nope H
 case lenA n => exact key (.lenA n) H
 case call k a => exact key (.call k a) H
 case callv k a => exact key (.callv k a) H
 all_goals exact key _ H
def ks (K : St → Prop) : St → Prop := fun s => ∃ s2, K s2 ∧ SubU s2 s
theorem obind_sub {α : Type} {o o' : Option α} {f g : α → Prop} (H : obind o f) (h1 : ∀ a, o = some a → o' = some a) (h2 : ∀ a, f a → g a) : obind o' g := by
 obtain ⟨a, ha, hf⟩ := obind_iff.1 H
 exact obind_iff.2 ⟨a, h1 a ha, h2 a hf⟩
theorem istep_sub {s2 s : St} (h : SubU s2 s) {op : IOp} {k : Option Value → AHeap → Prop} (H : istep E op s2 k) : istep E op s k := by
  have key : ∀ o, (obind (xev E s2 o) fun r => k r.1 r.2) → obind (xev E s o) fun r => k r.1 r.2 := fun o H => obind_sub H (fun _ => xev_sub h) (fun _ h => h)
  cases op
  case call key args =>
    simp only [istep] at H ⊢; rw [← h.h]; exact obind_sub H (fun _ => evs_sub h) (fun _ h => h)
  case callv f args =>
    simp only [istep] at H ⊢; rw [← h.h]; exact obind_sub H (fun _ => ev_sub h) (fun _ H => obind_sub H (fun _ => evs_sub h) (fun _ h => h))
  case sliceV e x lo hi mx =>
    rcases H with H | H
    · exact .inl (key _ H)
    · right
      refine obind_sub H (fun v hv => ?_) (fun v hv => hv)
      unfold sev at hv ⊢
      cases hi with
      | none => exact hv
      | some hi => cases mx with
        | some mx =>
          simp only at hv ⊢
          rw [← h.h]
          refine bmono hv (fun a ha => bmono ha (fun _ => ev_sub h) (fun _ h => h)) (fun a ha => ?_)
          split at ha
          · exact bmono ha (fun _ => bnd_sub h) (fun l hl => bmono hl (fun _ => bnd_sub h) (fun l hl => bmono hl (fun _ => bnd_sub h) (fun _ h => h)))
          · cases ha
        | none =>
          simp only at hv ⊢
          rw [← h.h]
          refine bmono hv (fun a ha => bmono ha (fun _ => ev_sub h) (fun _ h => h)) (fun a ha => ?_)
          split at ha
          · split at ha
            · exact bmono ha (fun _ => bnd_sub h) (fun l hl => bmono hl (fun _ => bnd_sub h) (fun _ h => h))
            · cases ha
          · cases ha
  case alloc z => exact key (.alloc z) H
  case lenA n => exact key (.lenA n) H
  case nope => exact key .nope H
  all_goals exact key _ H
theorem igrd_sub {s2 s : St} (h : SubU s2 s) {g : Option (Nat × Bool)} {p q p' q' : Prop} (H : igrd g s2 p q) (hp : p → p') (hq : q → q') : igrd g s p' q' := by
  unfold igrd at H ⊢
  cases g with
  | none => exact hp H
  | some tw =>
    obtain ⟨t, w⟩ := tw
    simp only at H ⊢
    refine obind_sub H (fun a ha => bmono ha (fun v hv => h.t t v hv) (fun _ h => h)) (fun b hb => ?_)
    cases b with
    | true => exact hp hb
    | false => exact hq hb
theorem iops_sub {K : St → Prop} : ∀ {l : List IOpG} {s2 s : St}, SubU s2 s → iops E l K s2 → iops E l (ks K) s
  | [], s2, s, h, H => ⟨s2, H, h⟩
  | g :: r, s2, s, h, H => by
    refine igrd_sub h H (fun H => ?_) (fun H => ?_)
    · refine istep_sub h (istep_mono H fun v h' hh => ?_)
      exact iops_sub (s2 := ⟨aputO s2.t g.dst v, h'⟩) ⟨h.t.putO, rfl⟩ hh
    · exact iops_sub (s2 := ⟨aputO s2.t g.dst skipV, s2.h⟩) ⟨h.t.putO, h.h⟩ H
theorem rstep_sub {s2 s : St} (h : SubU s2 s) {i : Nat} {op : IOp} {W : List Watch} {q : Value × List Watch} (H : rstep E i op s2 W = some q) : rstep E i op s W = some q := by
 have key : ∀ op, (pev E s2 op).bind (fun v => some (v, W)) = some q → (pev E s op).bind (fun v => some (v, W)) = some q := fun op H => bmono H (fun _ => pev_sub h) (fun _ h => h)
 cases op
 case load n g x =>
  simp only [rstep] at H ⊢; rw [← h.h]; exact bmono H (fun _ => ev_sub h) (fun _ h => h)
 case lenA n => exact key (.lenA n) H
 case mp n x y =>
  rcases n with _ | _ | n
  · simp [rstep, pev] at H
  · simp only [rstep] at H ⊢; rw [← h.h]
    refine bmono H (fun a ha => bmono ha (fun _ => ev_sub h) (fun _ h => h)) (fun p hp => ?_)
    exact bmono hp (fun a ha => bmono ha (fun _ => ev_sub h) (fun _ h => h)) (fun _ h => h)
  · simp [rstep, pev] at H
 all_goals first | exact key _ H | (simp [rstep, pev] at H; done)
theorem idraw_sub {K : St → Prop} : ∀ {t : DT} {W : List Watch} {s2 s : St}, SubU s2 s → idraw E t W K s2 → idraw E t W (ks K) s
  | .fin, W, s2, s, h, H => ⟨s2, H, h⟩
  | .no, W, s2, s, h, H => trivial
  | .rd i g r, W, s2, s, h, H => by
    refine igrd_sub h H (fun H => ?_) (fun H => ?_)
    · refine obind_sub H (fun _ => rstep_sub h) (fun q hq => ?_)
      exact idraw_sub (s2 := ⟨aputO s2.t g.dst (some q.1), s2.h⟩) ⟨h.t.putO, h.h⟩ hq
    · exact idraw_sub (s2 := ⟨aputO s2.t g.dst skipV, s2.h⟩) ⟨h.t.putO, h.h⟩ H
  | .wr i g af r alt, W, s2, s, h, H => by
    refine ⟨igrd_sub h H.1 (fun H => ?_) (fun H => ?_), idraw_sub h H.2⟩
    · refine istep_sub h (istep_mono H fun v h' hh => ⟨hh.1, ?_⟩)
      exact idraw_sub (s2 := ⟨aputO s2.t g.dst v, h'⟩) ⟨h.t.putO, rfl⟩ hh.2
    · exact idraw_sub (s2 := ⟨aputO s2.t g.dst skipV, s2.h⟩) ⟨h.t.putO, h.h⟩ H
def Sc (Q : IExit → St → Prop) : IExit → St → Prop := fun e s => ∃ s2, Q e s2 ∧ SubU s2 s
theorem Recast.sub {K : Nat} {s2 s : St} (h : SubU s2 s) (hK : K ≤ s.h.next) : Recast K s s2 := by
 obtain ⟨t2, h2⟩ := s2
 obtain ⟨t, h0⟩ := s
 have hh := h.h
 simp only at hh
 subst hh
 exact .inr ⟨hK, fun ι w rt R T => ⟨ι, R, fun k v hv => T k v (h.t k v hv), .refl, fun _ h => h, fun _ _ _ => rfl⟩⟩
theorem RC.pre {K : Nat} {s s2 s3 : St} (c : RC K s2 s3) (h : SubU s2 s) : RC K s s3 := by
 refine ⟨c.1, fun ι w rt R T => ?_⟩
 obtain ⟨t2, h2⟩ := s2
 obtain ⟨t, h0⟩ := s
 have hh := h.h
 simp only at hh
 subst hh
 exact c.2 ι w rt R (fun k v hv => T k v (h.t k v hv))
theorem iwp_sub : ∀ {c : ICode} {Q : IExit → St → Prop} {s2 s : St}, SubU s2 s → iwp E c Q s2 → iwp E c (Sc Q) s := by
  intro c
  induction c with
  | skip => exact fun h H => ⟨_, H, h⟩
  | ops l k =>
    intro Q s2 s h H
    have H := iops_sub h H
    refine iops_mono (fun s ⟨s2, hs, hh⟩ => ?_) H
    refine ⟨_, hs, ?_⟩
    cases k with
    | none => exact hh
    | some l => exact ⟨hh.t.keep, hh.h⟩
  | draw t k =>
    intro Q s2 s h H
    have H := idraw_sub h H
    refine idraw_mono (fun s ⟨s2, hs, hh⟩ => ?_) H
    refine ⟨_, hs, ?_⟩
    cases k with
    | none => exact hh
    | some l => exact ⟨hh.t.keep, hh.h⟩
  | range n g ps ca cb =>
    intro Q s2 s h H
    obtain ⟨fv, h1, h2, t2, h3, h4⟩ := obind_iff.1 H
    refine obind_iff.2 ⟨fv, ev_sub h h1, h2, t2, h3.trans h.t, ?_⟩
    rw [← h.h]
    exact h4.mono fun _ _ => ijump_mono fun _ s hq => ⟨s, hq, .refl⟩
  | seq a b iha ihb =>
    intro Q s2 s h H
    refine iwp_mono (c := a) (fun e s' H => ?_) (iha h H)
    obtain ⟨s3, h3, h4⟩ := H
    cases e with
    | normal =>
      obtain ⟨s4, h5, h6⟩ := h3
      rw [show s2.h.next = s.h.next by rw [h.h]] at h5
      rcases h5 with rfl | h5
      · exact ⟨s', .refl, ihb h4 h6⟩
      · exact ⟨s4, .inr (h5.pre h4), iwp_mono (fun e s h => ⟨s, h, .refl⟩) h6⟩
    | exit id => exact ⟨s3, h3, h4⟩
    | ret => exact ⟨s3, h3, h4⟩
  | cond c a b iha ihb =>
    intro Q s2 s h H
    refine obind_sub H (fun a ha => bmono ha (fun _ => ev_sub h) (fun _ h => h)) (fun t ht => ?_)
    cases t with
    | true => exact iha h ht
    | false => exact ihb h ht
  | block id a ih =>
    intro Q s2 s h H
    refine iwp_mono (c := a) (fun e s' H => ?_) (ih h H)
    obtain ⟨s3, h3, h4⟩ := H
    cases e with
    | normal => exact ⟨s3, h3, h4⟩
    | exit id' =>
      unfold iblk at h3 ⊢
      simp only at h3 ⊢
      split
      · rename_i e; rw [if_pos e] at h3; exact ⟨s3, h3, h4⟩
      · rename_i e; rw [if_neg e] at h3; exact ⟨s3, h3, h4⟩
    | ret => exact ⟨s3, h3, h4⟩
  | loop a ih =>
    intro Q s2 s h ⟨I, m, s0, h1, h2, h3⟩
    refine ⟨I, m, s0, ?_, h2, fun m s1 hI => ?_⟩
    · have := Recast.sub (K := s.h.next) h (Nat.le_refl _)
      rw [show s2.h.next = s.h.next by rw [h.h]] at h1
      exact this.trans h1
    · refine iwp_mono (c := a) (fun e s' H => ?_) (h3 m s1 hI)
      cases e with
      | normal =>
        obtain ⟨m', s3, h4, h5, h6⟩ := H
        exact ⟨m', s3, h4, by rw [show s.h.next = s2.h.next by rw [h.h]]; exact h5, h6⟩
      | exit id => exact ⟨s', H, .refl⟩
      | ret => exact ⟨s', H, .refl⟩
  | exit id => exact fun h H => ⟨_, H, h⟩
  | ret => exact fun h H => ⟨_, H, h⟩
end Go.Proofs.Ytjnpdnlgkepmcaa.AM
