/- Calls, and one operation of a region. Conditions: none. -/
import Derived.Test.YtjnpdnlgkepmcaaAmXev
import Derived.OrdersIn
namespace Go.Proofs.Ytjnpdnlgkepmcaa.AM
set_option linter.unusedSimpArgs false
set_option linter.unusedVariables false
open Go Go.RowKit
def FR (r : Option Nat) : Fence := { Fence.wide with round := r }
theorem FR_depth (r : Option Nat) : (FR r).depth.isSome = true → 1 ≤ 0 := by intro h; simp [FR, Fence.wide] at h
theorem FR_calls {r : Option Nat} {P : Program} {f : FuncId} {args : Array Value} {w : World} {R : Ending → World → Prop} (h : CallsIn Fence.wide 0 P f args w R) : CallsIn (FR r) 0 P f args w R := h
theorem FR_round {r : Option Nat} {P : Program} {l : Nat} {f : FuncId} {tmps : Array Value} {as bd : Code} {w : World} {R : Ending → World → Prop} (h : RoundIn Fence.wide 0 P l f tmps as bd w R) : RoundIn (FR r) 0 P l f tmps as bd w R := h
def DefOK (nb : Nat) (ι : Iota) (h : AHeap) (ds : List Deferred) (w : World) : Prop :=
 ∃ Ds : List Nat, ds = Ds.map (fun D => { target := .collected D, args := #[] }) ∧ Ds.Nodup ∧ ∀ D ∈ Ds, nb ≤ D ∧ w.heap[D]? = some (.deferred (some [])) ∧ ¬ MutAt ι h D
theorem DefOK.nil {nb : Nat} {ι : Iota} {h : AHeap} {w : World} : DefOK nb ι h [] w := ⟨[], rfl, List.nodup_nil, by simp⟩
theorem DefOK.ext {nb : Nat} {ι ι' : Iota} {h h' : AHeap} {ds : List Deferred} {w w' : World} (D : DefOK nb ι h ds w) (X : Ext ι h w ι' h' w') : DefOK nb ι' h' ds w' := by
 obtain ⟨Ds, h1, h2, h3⟩ := D
 refine ⟨Ds, h1, h2, fun d hd => ?_⟩
 obtain ⟨h0, h4, h5⟩ := h3 d hd
 obtain ⟨h6, h7⟩ := X.frame d (Array.getElem?_eq_some_iff.1 h4).1 h5
 exact ⟨h0, h6.trans h4, h7⟩
structure SRel (nt nb : Nat) (ι : Iota) (s : St) (a : Act) (w : World) : Prop where
 rel : Rel ι s.h w
 tm : TR ι s.h.next s.t a.tmps
 sz : a.tmps.size = nt
 df : DefOK nb ι s.h a.defers w
theorem look_aput (t : List (Nat × Value)) (n k : Nat) (v : Value) : look (aput t n v) k = if k = n then some v else look t k := rfl
theorem look_adel : ∀ (t : List (Nat × Value)) (n k : Nat), look (adel t n) k = if k = n then none else look t k
  | [], n, k => by simp [adel, look]
  | (j, u) :: t, n, k => by
    simp only [adel]
    split
    · rename_i h; subst h
      rw [look_adel t n k]
      simp only [look]
      split
      · rfl
      · rfl
    · rename_i h
      simp only [look]
      split
      · rename_i hk; subst hk; rw [if_neg (fun e => h e.symm)]
      · exact look_adel t n k
theorem look_akeep : ∀ (t : List (Nat × Value)) (l : List Nat) (k : Nat) (v : Value), look (akeep t l) k = some v → look t k = some v
  | t, [], k, v, h => by simp [akeep, look] at h
  | t, j :: l, k, v, h => by
    simp only [akeep] at h
    split at h
    · rename_i u hu
      simp only [look] at h
      split at h
      · rename_i hk; subst hk; injection h with h; subst h; exact hu
      · exact look_akeep t l k v h
    · exact look_akeep t l k v h
theorem TR.put {ι : Iota} {N d : Nat} {ts : List (Nat × Value)} {rs : Array Value} {u v : Value} (T : TR ι N ts rs) (hd : d < rs.size) (hv : VR ι N u v) : TR ι N (aput ts d u) (rs.setIfInBounds d v) := by
 intro t x hx
 rw [look_aput] at hx
 split at hx
 · rename_i h; subst h; injection hx with hx; subst hx
   exact ⟨v, by simp [hd], hv⟩
 · rename_i h
   obtain ⟨y, h1, h2⟩ := T t x hx
   exact ⟨y, by rw [Array.getElem?_setIfInBounds_ne (fun e => h e.symm)]; exact h1, h2⟩
theorem TR.del {ι : Iota} {N d : Nat} {ts : List (Nat × Value)} {rs : Array Value} (v : Value) (T : TR ι N ts rs) : TR ι N (adel ts d) (rs.setIfInBounds d v) := by
 intro t x hx
 rw [look_adel] at hx
 split at hx
 · simp at hx
 · rename_i h
   obtain ⟨y, h1, h2⟩ := T t x hx
   exact ⟨y, by rw [Array.getElem?_setIfInBounds_ne (fun e => h e.symm)]; exact h1, h2⟩
theorem TR.putO {ι : Iota} {N : Nat} {ts : List (Nat × Value)} {a : Act} {dst : Option Tmp} {u : Option Value} {v : Value} (T : TR ι N ts a.tmps) (hd : ∀ d, dst = some d → d < a.tmps.size)
    (hv : ∀ x, u = some x → VR ι N x v) : TR ι N (aputO ts dst u) (a.put dst v).tmps := by
  cases dst with
  | none => exact T
  | some d =>
    cases u with
    | none => exact T.del v
    | some u => exact T.put (hd d rfl) (hv u rfl)
def Lift (Q : Value → AHeap → Prop) (ι : Iota) (h : AHeap) (w : World) (e : Ending) (w' : World) : Prop :=
 ∃ ι' u v h', e = .returned v ∧ Q u h' ∧ VR ι' h'.next u v ∧ Rel ι' h' w' ∧ Ext ι h w ι' h' w'
def ICallV (E : Env) (fv : Value) (us : List Value) (h : AHeap) (Q : Value → AHeap → Prop) : Prop :=
  ∀ ι w fv' vs, Rel ι h w → VR ι h.next fv fv' → VRL ι h.next us vs → ∃ nx w1, ((do let d ← Deferred.ofValue fv' vs.toArray; invoke d.target d.args) : Sem Next).run E.P w = .ok nx w1 ∧ Rel ι h w1 ∧ Ext ι h w ι h w1 ∧
    (match nx with
     | .enter f args => CallsIn Fence.wide 0 E.P f args w1 (Lift Q ι h w1)
     | .round l f tmps as bd => (∃ k, fv = .func (.yield k) #[] #[]) ∧ RoundIn Fence.wide 0 E.P l f tmps as bd w1 (Lift Q ι h w1)
     | _ => False)
def ICalls (E : Env) (k : Nat) (us : List Value) (h : AHeap) (Q : Value → AHeap → Prop) : Prop := ICallV E (.func (.func (E.id k)) #[] #[]) us h Q
theorem Lift.mono {Q Q' : Value → AHeap → Prop} {ι : Iota} {h : AHeap} {w w' : World} {e : Ending} (hq : ∀ u h', Q u h' → Q' u h') (H : Lift Q ι h w e w') : Lift Q' ι h w e w' := by
 obtain ⟨ι', u, v, h', h1, h2, h3⟩ := H
 exact ⟨ι', u, v, h', h1, hq _ _ h2, h3⟩
theorem ICallV.mono {E : Env} {fv : Value} {us : List Value} {h : AHeap} {Q Q' : Value → AHeap → Prop} (H : ICallV E fv us h Q) (hq : ∀ u h', Q u h' → Q' u h') : ICallV E fv us h Q' := by
 intro ι w fv' vs R hf hl
 obtain ⟨nx, w1, h1, h2, h3, h4⟩ := H ι w fv' vs R hf hl
 refine ⟨nx, w1, h1, h2, h3, ?_⟩
 cases nx with
 | enter f args => exact h4.mono fun e w' => Lift.mono hq
 | round l f tmps as bd => exact ⟨h4.1, h4.2.mono fun e w' => Lift.mono hq⟩
 | _ => exact h4
theorem ICalls.mono {E : Env} {k : Nat} {us : List Value} {h : AHeap} {Q Q' : Value → AHeap → Prop} (H : ICalls E k us h Q) (hq : ∀ u h', Q u h' → Q' u h') : ICalls E k us h Q' := ICallV.mono H hq
structure IOpG where
 dst : Option Nat
 guard : Option (Nat × Bool)
 op : IOp
def istep (E : Env) (op : IOp) (s : St) (k : Option Value → AHeap → Prop) : Prop :=
 match op with
 | .call key args => obind (evs E s args) fun us => ICalls E key us s.h fun v h' => k (some v) h'
 | .callv f args => obind (s.ev E f) fun fv => obind (evs E s args) fun us => ICallV E fv us s.h fun v h' => k (some v) h'
 | .sliceV e x lo hi mx => (obind (xev E s (.sliceV e x lo hi mx)) fun r => k r.1 r.2) ∨ obind (sev E s e x lo hi mx) fun q => k (some q.1) q.2
 | op => obind (xev E s op) fun r => k r.1 r.2
def gwant (want : Bool) : Value → Option Bool
 | .bool b => some (b == want)
 | .tuple _ => some false
 | _ => none
def skipV : Option Value := some (.tuple #[])
def igrd (g : Option (Nat × Bool)) (s : St) (p q : Prop) : Prop :=
 match g with
 | none => p
 | some (t, want) => obind ((look s.t t).bind (gwant want)) fun b => if b then p else q
def iop1 (E : Env) (g : IOpG) (s : St) (K : St → Prop) : Prop :=
 igrd g.guard s (istep E g.op s fun v h' => K ⟨aputO s.t g.dst v, h'⟩) (K ⟨aputO s.t g.dst skipV, s.h⟩)
theorem obind_mono {α : Type} {o : Option α} {f g : α → Prop} (h : obind o f) (hfg : ∀ a, f a → g a) : obind o g := by
 cases o with
 | none => exact h
 | some a => exact hfg a h
theorem istep_mono {E : Env} {op : IOp} {s : St} {k k' : Option Value → AHeap → Prop} (H : istep E op s k) (hk : ∀ v h, k v h → k' v h) : istep E op s k' := by
 have key : ∀ o, (obind (xev E s o) fun r => k r.1 r.2) → obind (xev E s o) fun r => k' r.1 r.2 := fun o H => obind_mono H fun r h => hk r.1 r.2 h
 cases op
 case call => exact obind_mono H fun _ h => h.mono fun v h' => hk (some v) h'
 case callv => exact obind_mono H fun _ h => obind_mono h fun _ h => h.mono fun v h' => hk (some v) h'
 case sliceV => exact H.imp (key _) fun H => obind_mono H fun v h => hk (some v.1) _ h
 case alloc z => exact key (.alloc z) H
 case lenA n => exact key (.lenA n) H
 case nope => exact key .nope H
 all_goals exact key _ H
theorem igrd_mono {g : Option (Nat × Bool)} {s : St} {p p' q q' : Prop} (H : igrd g s p q) (hp : p → p') (hq : q → q') : igrd g s p' q' := by
 unfold igrd at H ⊢
 split at H
 · exact hp H
 · refine obind_mono H fun b h => ?_
   split
   · rename_i hb; rw [if_pos hb] at h; exact hp h
   · rename_i hb; rw [if_neg hb] at h; exact hq h
theorem iop1_mono {E : Env} {g : IOpG} {s : St} {K K' : St → Prop} (H : iop1 E g s K) (hk : ∀ s, K s → K' s) : iop1 E g s K' :=
 igrd_mono H (fun h => istep_mono h fun _ _ => hk _) (hk _)
theorem obind_iff {α : Type} {o : Option α} {f : α → Prop} : obind o f ↔ ∃ a, o = some a ∧ f a := by
 cases o <;> simp [obind]
def cguard (ops : Array Oper) : Option (Nat × Bool) → Option (Option (Nat × Bool))
  | none => some none
  | some (j, want) => match ops[j]? with
    | some o => match o.dst with
      | some d => some (some (d, want))
      | none => none
    | none => none
def cog (E : Env) (nt : Nat) (ops : Array Oper) (o : Oper) : Option IOpG :=
  match cop E o, cguard ops o.guard with
  | some i, some g => match o.dst with
    | none => some ⟨none, g, i⟩
    | some d => if d < nt then some ⟨some d, g, i⟩ else none
  | _, _ => none
theorem cog_spec {E : Env} {nt : Nat} {ops : Array Oper} {o : Oper} {g : IOpG} (h : cog E nt ops o = some g) :
   cop E o = some g.op ∧ cguard ops o.guard = some g.guard ∧ g.dst = o.dst ∧ ∀ d, o.dst = some d → d < nt := by
 unfold cog at h
 split at h
 · rename_i i gd h1 h2
   split at h
   · rename_i hd; injection h with h; subst h; exact ⟨h1, h2, hd.symm, fun d hd' => by rw [hd] at hd'; cases hd'⟩
   · rename_i d hd
     split at h
     · rename_i hlt; injection h with h; subst h; exact ⟨h1, h2, hd.symm, fun d' hd' => by rw [hd] at hd'; injection hd' with hd'; rw [← hd']; exact hlt⟩
     · simp at h
 · simp at h
theorem put_size {a : Act} {d : Option Tmp} {v : Value} : (a.put d v).tmps.size = a.tmps.size := by cases d <;> simp [Act.put]
theorem put_defers {a : Act} {d : Option Tmp} {v : Value} : (a.put d v).defers = a.defers := by cases d <;> rfl
section
variable {E : Env} {nt nb : Nat} {r : Option Nat} {ι : Iota} {s : St} {a : Act} {w : World} {ops : Array Oper} {Q : Exit → Act → World → Prop}
theorem SRel.after {ι' : Iota} {h' : AHeap} {w' : World} {dst : Option Tmp} {u : Option Value} {v : Value} (S : SRel nt nb ι s a w) (R : Rel ι' h' w') (X : Ext ι s.h w ι' h' w') (hd : ∀ d, dst = some d → d < nt)
  (hv : ∀ x, u = some x → VR ι' h'.next x v) : SRel nt nb ι' ⟨aputO s.t dst u, h'⟩ (a.put dst v) w' :=
 ⟨R, (S.tm.more X.next X.up).putO (by rw [S.sz]; exact hd) hv, by rw [put_size]; exact S.sz, by rw [put_defers]; exact S.df.ext X⟩
theorem not_defer {o : Oper} {i : IOp} (h : cop E o = some i) : ∀ c, o.op ≠ .defer c := by
 intro c hc
 unfold cop at h
 rw [hc] at h
 simp at h
theorem step_sound {o : Oper} {i : IOp} {dst : Option Tmp} {K : Option Value → AHeap → Prop} {K' : Act → World → Prop} (hc : cop E o = some i) (hdst : dst = o.dst) (hd : ∀ d, o.dst = some d → d < nt) (S : SRel nt nb ι s a w)
    (H : istep E i s K) (hK : ∀ ι' u h' a' w', K u h' → SRel nt nb ι' ⟨aputO s.t dst u, h'⟩ a' w' → Ext ι s.h w ι' h' w' → K' a' w') : o.wpIn (FR r) 0 E.P a w K' Q := by
  subst hdst
  refine ⟨fun f _ => trivial, ?_⟩
  rw [Oper.semAt_eq _ _ _ (not_defer hc)]
  have hsh := cop_shape hc
  have hx : isCall i = false → o.uponIn (FR r) 0 E.P a K' Q ((execOp a.eval o).run E.P w) := by
    intro hi
    have H' : ∃ r, Done E ι s a w o r ∧ K r.1 r.2 := by
      cases i
      case sliceV e x lo hi mx =>
        rcases H with H | H
        · obtain ⟨r, h1, h2⟩ := obind_iff.1 H
          exact ⟨r, xev_sim hc S.rel S.tm h1, h2⟩
        · obtain ⟨v, h1, h2⟩ := obind_iff.1 H
          exact ⟨(some v.1, v.2), sev_sim hc S.rel S.tm h1, h2⟩
      case alloc z =>
        obtain ⟨r, h1, h2⟩ := obind_iff.1 (show obind (xev E s (.alloc z)) fun r => K r.1 r.2 from H)
        exact ⟨r, xev_sim hc S.rel S.tm h1, h2⟩
      case lenA n =>
        obtain ⟨r, h1, h2⟩ := obind_iff.1 (show obind (xev E s (.lenA n)) fun r => K r.1 r.2 from H)
        exact ⟨r, xev_sim hc S.rel S.tm h1, h2⟩
      case nope =>
        obtain ⟨r, h1, h2⟩ := obind_iff.1 (show obind (xev E s .nope) fun r => K r.1 r.2 from H)
        exact ⟨r, xev_sim hc S.rel S.tm h1, h2⟩
      all_goals first
        | (simp [isCall] at hi; done)
        | (have H0 : obind (xev E s _) fun r => K r.1 r.2 := H
           obtain ⟨r, h1, h2⟩ := obind_iff.1 H0
           exact ⟨r, xev_sim hc S.rel S.tm h1, h2⟩)
    obtain ⟨r, ⟨ι', w', nx, h3, h4, h5, h6⟩, h2⟩ := H'
    rw [h3]
    cases hr : r.1 with
    | some u =>
      rw [hr] at h4 h2
      obtain ⟨rv, rfl, hv⟩ := h4
      exact hK ι' (some u) r.2 _ w' h2 (S.after h5 h6 hd (fun x hx => by injection hx with hx; subst hx; exact hv)) h6
    | none =>
      rw [hr] at h4 h2
      simp only at h4
      subst h4
      exact hK ι' none r.2 _ w' h2 (S.after h5 h6 hd (fun x hx => by cases hx)) h6
  have hcall : ∀ (fv fv' : Value) (us vs : List Value), VR ι s.h.next fv fv' → VRL ι s.h.next us vs → (execOp a.eval o = (do let d ← Deferred.ofValue fv' vs.toArray; invoke d.target d.args)) → ICallV E fv us s.h (fun v h' => K (some v) h') →
      o.uponIn (FR r) 0 E.P a K' Q ((execOp a.eval o).run E.P w) := by
    intro fv fv' us vs hf hl he H
    obtain ⟨nx, w1, h1, h2, h3, h4⟩ := H ι w fv' vs S.rel hf hl
    rw [he, h1]
    have fin : ∀ (e : Ending) (w' : World), Lift (fun v h' => K (some v) h') ι s.h w1 e w' → (match e with | .returned v => K' (a.put o.dst v) w' | .panicked chain => Q (.panic chain) a w' | .outgrown => LetsOut Q) := by
      rintro e w' ⟨ι', u, v, h', rfl, hq, hv, R', X'⟩
      exact hK ι' (some u) h' _ w' hq (S.after R' (h3.trans X') hd (fun x hx => by injection hx with hx; subst hx; exact hv)) (h3.trans X')
    cases nx with
    | enter f args => exact ⟨FR_depth r, FR_calls (h4.mono fun e w' hh => by have := fin e w' hh; cases e <;> exact this)⟩
    | round l f tmps as bd => exact ⟨FR_depth r, FR_round (h4.2.mono fun e w' hh => by have := fin e w' hh; cases e <;> exact this)⟩
    | _ => exact h4.elim
  cases i
  case call k l =>
    obtain ⟨f, args, ty, hop, hk, hl⟩ := hsh
    obtain ⟨us, h1, h2⟩ := obind_iff.1 H
    refine hcall (.func (.func (E.id k)) #[] #[]) (.func (.func f) #[] #[]) us (args.toList.map a.eval) (by rw [hk]; exact .func f _ _ _ _ rfl (by simp) rfl (by simp)) (evs_sim hl S.tm h1) ?_ h2
    unfold execOp
    simp only [hop, resolve, Act.eval]
    congr 2
    rw [← Array.toList_inj]; simp
  case callv g l =>
    obtain ⟨g', args, ty, hop, hg, hl⟩ := hsh
    obtain ⟨fv, h0, h1⟩ := obind_iff.1 H
    obtain ⟨us, h1, h2⟩ := obind_iff.1 h1
    refine hcall fv (a.eval g') us (args.toList.map a.eval) (ev_sim hg S.tm h0) (evs_sim hl S.tm h1) ?_ h2
    unfold execOp
    simp only [hop, resolve]
    congr 2
    rw [← Array.toList_inj]; simp
  all_goals exact hx rfl
theorem op_sound {j : Nat} {o : Oper} {g : IOpG} {K : St → Prop} {K' : Act → World → Prop} (hj : ops[j]? = some o) (hc : cog E nt ops o = some g) (S : SRel nt nb ι s a w) (H : iop1 E g s K)
    (hK : ∀ ι' s' a' w', K s' → SRel nt nb ι' s' a' w' → Ext ι s.h w ι' s'.h w' → K' a' w') : wpOpIn (FR r) 0 E.P ops Q j K' a w := by
  obtain ⟨h1, h2, h3, h4⟩ := cog_spec hc
  unfold wpOpIn
  simp only [hj]
  have wanted : ∀ (b : Bool), (∀ t want, g.guard = some (t, want) → (look s.t t).bind (gwant want) = some b) → (g.guard = none → b = true) → (Region.wanted o (yielded ops a.tmps) = b) := by
    intro b hb hn
    unfold Region.wanted
    cases hg : o.guard with
    | none =>
      rw [hg] at h2
      simp only [cguard, Option.some.injEq] at h2
      exact (hn h2.symm).symm
    | some jw =>
      obtain ⟨jj, want⟩ := jw
      rw [hg] at h2
      simp only [cguard] at h2
      split at h2
      · rename_i o' ho'
        split at h2
        · rename_i d hd
          injection h2 with h2
          obtain ⟨u, hu, hub⟩ := bind_some (hb d want h2.symm)
          obtain ⟨v, hv1, hv2⟩ := S.tm d _ hu
          unfold gwant at hub
          split at hub
          · rename_i b'
            cases hv2
            injection hub with hub
            subst hub
            simp only [yielded, ho', Option.bind_some, hd, hv1]
            cases b' <;> cases want <;> rfl
          · cases hv2
            injection hub with hub
            subst hub
            simp only [yielded, ho', Option.bind_some, hd, hv1]
            rfl
          · cases hub
        · simp at h2
      · simp at h2
  unfold iop1 igrd at H
  split at H
  · rename_i hg
    rw [if_pos (wanted true (by rw [hg]; simp) (fun _ => rfl))]
    exact step_sound h1 h3 h4 S H (fun ι' u h' a' w' hk S' X' => hK ι' _ a' w' hk S' X')
  · rename_i t want hg
    obtain ⟨b, hb, H⟩ := obind_iff.1 H
    have hw := wanted b (fun t' want' h => by rw [hg] at h; injection h with h; injection h with e1 e2; subst e1; subst e2; exact hb) (fun h => by rw [hg] at h; cases h)
    cases b with
    | true =>
      rw [if_pos hw]
      simp only [if_true] at H
      exact step_sound h1 h3 h4 S H (fun ι' u h' a' w' hk S' X' => hK ι' _ a' w' hk S' X')
    | false =>
      rw [if_neg (by rw [hw]; simp)]
      simp only [Bool.false_eq_true, if_false] at H
      refine ⟨fun f _ => trivial, hK ι _ _ w H ?_ (Ext.refl _ _ _)⟩
      have := S.after (u := skipV) (v := undef) (dst := o.dst) S.rel (Ext.refl _ _ _) h4 (fun x hx => by
        injection hx with hx; subst hx
        exact .tuple #[] #[] rfl (by simp))
      rw [h3]; exact this
end
end Go.Proofs.Ytjnpdnlgkepmcaa.AM
