/- Runs on closed data: the interpreter, and that what it finds holds. Conditions: none. -/
import Derived.Test.YtgfglinlmnbjbaaGreatAmGc
namespace Go.Proofs.YtgfglinlmnbjbaaGreat.AM
set_option linter.unusedSimpArgs false
set_option linter.unusedVariables false
open Go Go.RowKit
structure XT where
 E : Env
 fns : List (Nat × IFn)
 hints : List (ICode × ICode)
abbrev XRec := ICode → St → (IExit → St → Bool) → Bool
def xloops (E : Env) (n : Nat) (ca cb : Code) : List (ICode × ICode) → Option (ICode × ICode)
  | [] => none
  | (a, b) :: r => match ccode E n a ca, ccode E n b cb with
    | some ia, some ib => some (ia, ib)
    | _, _ => xloops E n ca cb r
def fTm : List (Nat × Value) → (List (Nat × Value) → Bool) → Bool
 | [], k => k []
 | (n, v) :: r, k => fTm r fun r => k ((n, v) :: r)
theorem fTm_eq : ∀ (t : List (Nat × Value)) (k : List (Nat × Value) → Bool), fTm t k = k t
 | [], _ => rfl
 | (n, v) :: r, k => by simp only [fTm]; rw [fTm_eq r]
def xcall (X : XT) (rec : XRec) (fv : Value) (us : List Value) (h : AHeap) (k : Value → AHeap → Bool) : Bool :=
  match fv with
  | .func (.func f) xs cs => match rlook X.E.tbl f with
    | some key => (X.E.id key == f) && ocont (look X.fns key) fun F => decide ((xs.toList ++ us ++ cs.toList).length ≤ F.nt) && paramsF 0 (xs.toList ++ us ++ cs.toList) fun ts => rec F.code ⟨ts, h⟩ fun e s => match e with
      | .exit _ => false
      | _ => ocont (resL X.E s F.res) fun l => fV (resV l) fun v => gcF h.next v s.h fun h' => k v h'
    | none => false
  | .func (.yield l) xs cs => (xs.size == 0) && (cs.size == 0) && match h.get l with
    | some (.loop ⟨_, _, ts, sz, ps, ca, cb⟩) => (us.length == ps.size) && ps.toList.all (fun p => decide (p < sz)) && ocont (xloops X.E sz ca cb X.hints) fun q => q.1.plain && q.2.plain &&
      fTm (putL ts ps.toList us) fun ts1 => rec q.1 ⟨ts1, h⟩ fun e s1 => match e with
        | .normal => match s1.h.get l with
          | some (.loop ⟨st1, pe1, ts1, sz1, ps1, ca1, cb1⟩) => (st1 == .ready) && xwPut s1.h l (.loop ⟨.busy, pe1, ts1, sz1, ps1, ca1, cb1⟩) fun h1 => rec q.2 ⟨s1.t, h1⟩ fun e s2 => match s2.h.get l with
            | some (.loop ⟨_, _, ts2, sz2, ps2, ca2, cb2⟩) => match e.jump with
              | none => xwPut s2.h l (.loop ⟨.ready, none, ts2, sz2, ps2, ca2, cb2⟩) fun h2 => k (.bool true) h2
              | some j => xwPut s2.h l (.loop ⟨.done, some j, ts2, sz2, ps2, ca2, cb2⟩) fun h2 => k (.bool false) h2
            | _ => false
          | _ => false
        | _ => false
    | _ => false
  | _ => false
def xgrd (g : Option (Nat × Bool)) (s : St) (p q : Unit → Bool) : Bool :=
 match g with
 | none => p ()
 | some (t, want) => ocont ((look s.t t).bind (gwant want)) fun b => if b then p () else q ()
def xput (t : List (Nat × Value)) : Option Nat → Option Value → (List (Nat × Value) → Bool) → Bool
 | some n, some v, k => k ((n, v) :: t)
 | some n, none, k => k (adel t n)
 | none, _, k => k t
def xstep (X : XT) (rec : XRec) (op : IOp) (s : St) (k : Option Value → AHeap → Bool) : Bool :=
 match op with
 | .call key args => ocont (evs X.E s args) fun us => xcall X rec (.func (.func (X.E.id key)) #[] #[]) us s.h fun v h' => k (some v) h'
 | .callv f args => ocont (s.ev X.E f) fun fv => ocont (evs X.E s args) fun us => xcall X rec fv us s.h fun v h' => k (some v) h'
 | .sliceV e x lo hi mx => xx X.E s (.sliceV e x lo hi mx) k || ocont (sev X.E s e x lo hi mx) fun v => fV v fun v => k (some v) s.h
 | op => xx X.E s op k
def xop (X : XT) (rec : XRec) (g : IOpG) (s : St) (k : St → Bool) : Bool :=
 xgrd g.guard s (fun _ => xstep X rec g.op s fun v h => xput s.t g.dst v fun t => k ⟨t, h⟩) (fun _ => xput s.t g.dst skipV fun t => k ⟨t, s.h⟩)
def xops (X : XT) (rec : XRec) : List IOpG → (St → Bool) → St → Bool
 | [], k, s => k s
 | g :: r, k, s => xop X rec g s fun s => xops X rec r k s
def xdraw (X : XT) (rec : XRec) : DT → List Watch → (St → Bool) → St → Bool
 | .fin, _, k, s => k s
 | .no, _, _, _ => true
 | .rd i g r, W, k, s => xgrd g.guard s (fun _ => ocont (rstep X.E i g.op s W) fun q => fV q.1 fun v => xput s.t g.dst (some v) fun t => xdraw X rec r q.2 k ⟨t, s.h⟩) (fun _ => xput s.t g.dst skipV fun t => xdraw X rec r W k ⟨t, s.h⟩)
 | .wr _ g af r alt, W, k, s => xgrd g.guard s (fun _ => xstep X rec g.op s fun v h' => wokB (unwatch af W) h' && xput s.t g.dst v fun t => xdraw X rec r (unwatch af W) k ⟨t, h'⟩) (fun _ => xput s.t g.dst skipV fun t => xdraw X rec r (unwatch af W) k ⟨t, s.h⟩) && xdraw X rec alt W k s
def xkeep : Option (List Nat) → St → (St → Bool) → Bool
 | none, s, k => k s
 | some l, s, k => akeepF s.t l fun t => k ⟨t, s.h⟩
def xjump (l : Nat) (k : IExit → St → Bool) (t : List (Nat × Value)) (h : AHeap) : Bool :=
  match h.get l with
  | some (.loop L) => !(L.state == .busy) && xwPut h l .dead fun h' => match L.pending with
    | none => k .normal ⟨t, h'⟩
    | some .ret => k .ret ⟨t, h'⟩
    | some (.exit id) => k (.exit id) ⟨t, h'⟩
    | _ => false
  | _ => false
def xstmt (X : XT) (rec : XRec) : ICode → (IExit → St → Bool) → St → Bool
  | .skip, k, s => k .normal s
  | .ops l keep, k, s => xops X rec l (fun s => xkeep keep s fun s => k .normal s) s
  | .draw t keep, k, s => xdraw X rec t [] (fun s => xkeep keep s fun s => k .normal s) s
  | .range n g ps ca cb, k, s => ocont (s.ev X.E g) fun fv => vfn fv && fNat s.h.next fun l => xcall X rec fv [.func (.yield l) #[] #[]] ⟨l + 1, (l, .loop ⟨.ready, none, s.t, n, ps, ca, cb⟩) :: s.h.objs, s.h.m⟩ fun _ h' => xjump l k s.t h'
  | .seq a b, k, s => xstmt X rec a (fun e s => match e with | .normal => xstmt X rec b k s | e => k e s) s
  | .cond c a b, k, s => match (s.ev X.E c).bind vbool with
    | some true => xstmt X rec a k s
    | some false => xstmt X rec b k s
    | none => false
  | .block id a, k, s => xstmt X rec a (fun e s => match e with | .exit id' => if id' = id then k .normal s else k (.exit id') s | e => k e s) s
  | .loop a, k, s => xstmt X rec a (fun e s => match e with | .normal => rec (.loop a) s k | e => k e s) s
  | .exit id, k, s => k (.exit id) s
  | .ret, k, s => k .ret s
def xcode (X : XT) : Nat → XRec
 | 0 => fun _ _ _ => false
 | n + 1 => fun c s k => xstmt X (xcode X n) c k s
section
variable {E : Env}
theorem iops_mono {K K' : St → Prop} (h : ∀ s, K s → K' s) : ∀ {l : List IOpG} {s : St}, iops E l K s → iops E l K' s
 | [], _, H => h _ H
 | _ :: _, _, H => iop1_mono H fun _ H => iops_mono h H
theorem idraw_mono {K K' : St → Prop} (h : ∀ s, K s → K' s) : ∀ {t : DT} {W : List Watch} {s : St}, idraw E t W K s → idraw E t W K' s
 | .fin, _, _, H => h _ H
 | .no, _, _, _ => trivial
 | .rd _ _ _, _, _, H => igrd_mono H (fun H => obind_mono H fun _ H => idraw_mono h H) (fun H => idraw_mono h H)
 | .wr _ _ _ _ _, _, _, H => ⟨igrd_mono H.1 (fun H => istep_mono H fun _ _ H => ⟨H.1, idraw_mono h H.2⟩) (fun H => idraw_mono h H), idraw_mono h H.2⟩
theorem ijump_mono {Q Q' : IExit → St → Prop} (h : ∀ e s, Q e s → Q' e s) {l : Nat} {t : List (Nat × Value)} {hp : AHeap} (H : ijump l Q t hp) : ijump l Q' t hp := by
 obtain ⟨L, h1, h2, h3⟩ := H
 refine ⟨L, h1, h2, ?_⟩
 split at h3
 · exact h _ _ h3
 · exact h _ _ h3
 · exact h _ _ h3
 · exact h3.elim
theorem iwp_mono : ∀ {c : ICode} {Q Q' : IExit → St → Prop} {s : St}, (∀ e s, Q e s → Q' e s) → iwp E c Q s → iwp E c Q' s := by
  intro c
  induction c with
  | skip => exact fun h H => h _ _ H
  | ops l k => exact fun h H => iops_mono (fun _ => h _ _) H
  | draw t k => exact fun h H => idraw_mono (fun _ => h _ _) H
  | range n g ps ca cb => exact fun h H => obind_mono H fun _ H => ⟨H.1, H.2.imp fun _ H => ⟨H.1, H.2.mono fun _ _ => ijump_mono h⟩⟩
  | seq a b ih1 ih2 =>
    intro Q Q' s h H
    refine ih1 (Q := ithen (fun s' => ∃ s2, Recast s.h.next s' s2 ∧ iwp E b Q s2) Q) (fun e s H => ?_) H
    cases e with
    | normal =>
      obtain ⟨s2, h1, h2⟩ := H
      exact ⟨s2, h1, ih2 h h2⟩
    | exit => exact h _ _ H
    | ret => exact h _ _ H
  | cond c a b ih1 ih2 =>
    intro Q Q' s h H
    refine obind_mono H fun t H => ?_
    cases t with
    | true => exact ih1 h H
    | false => exact ih2 h H
  | block id a ih =>
    intro Q Q' s h H
    refine ih (Q := iblk id Q) (fun e s H => ?_) H
    cases e with
    | normal => exact h _ _ H
    | exit id' =>
      unfold iblk at H ⊢
      simp only at H ⊢
      split at H
      · rename_i e; rw [if_pos e]; exact h _ _ H
      · rename_i e; rw [if_neg e]; exact h _ _ H
    | ret => exact h _ _ H
  | loop a ih =>
    rintro Q Q' s h ⟨I, m, s0, h0, h1, h2⟩
    refine ⟨I, m, s0, h0, h1, fun m s hI => ih (fun e s H => ?_) (h2 m s hI)⟩
    cases e with
    | normal => exact H
    | exit => exact h _ _ H
    | ret => exact h _ _ H
  | exit id => exact fun h H => h _ _ H
  | ret => exact fun h H => h _ _ H
end
theorem ocont_true {β : Type} {o : Option β} {k : β → Bool} (h : ocont o k = true) : ∃ b, o = some b ∧ k b = true := by
 cases o with
 | none => cases h
 | some b => exact ⟨b, rfl, h⟩
theorem xput_eq {t : List (Nat × Value)} {d : Option Nat} {v : Option Value} {k : List (Nat × Value) → Bool} : xput t d v k = k (aputO t d v) := by
 cases d <;> cases v <;> rfl
theorem xkeep_eq {l : Option (List Nat)} {s : St} {k : St → Bool} : xkeep l s k = k (ikeep l s) := by
 cases l with
 | none => rfl
 | some l => simp only [xkeep, akeepF_eq]; rfl
section
variable {X : XT} {rec : XRec}
def XT.OK (X : XT) : Prop := ∀ key F, look X.fns key = some F → Has X.E key F
def Sound (X : XT) (rec : XRec) : Prop := ∀ c s k, rec c s k = true → iwp X.E c (fun e s => k e s = true) s
theorem ccode_idem {E : Env} {nt : Nat} : ∀ {h c : _} {r : ICode}, ccode E nt h c = some r → ccode E nt r c = some r := by
  have fill : ∀ {ops : Array Oper} {gs : List IOpG} {t t' : DT}, fillT ops gs t = some t' → fillT ops gs t' = some t' := by
    intro ops gs t
    induction t with
    | fin => intro t' h; simp [fillT] at h; subst h; rfl
    | no => intro t' h; simp [fillT] at h; subst h; rfl
    | rd i g t ih =>
      intro t' h
      simp only [fillT] at h
      split at h
      · rename_i g' t2 h1 h2
        injection h with h; subst h
        simp only [fillT, h1, ih h2]
      · cases h
    | wr i g af t a ih1 ih2 =>
      intro t' h
      simp only [fillT] at h
      split at h
      · rename_i g' t2 a2 h1 h2 h3
        injection h with h; subst h
        simp only [fillT, h1, ih1 h2, ih2 h3]
      · cases h
  intro h
  induction h with
  | skip => intro c r hc; cases c <;> simp [ccode] at hc; subst hc; rfl
  | ret => intro c r hc; cases c <;> simp [ccode] at hc; subst hc; rfl
  | exit id =>
    intro c r hc
    cases c <;> simp [ccode] at hc
    obtain ⟨h1, h2⟩ := hc; subst h1; subst h2; simp [ccode]
  | ops l k =>
    intro c r hc
    cases c with
    | region id ops d =>
      cases d with
      | true => simp [ccode] at hc
      | false =>
        simp only [ccode, Option.map_eq_some_iff] at hc
        obtain ⟨l', h1, rfl⟩ := hc
        simp [ccode, h1]
    | _ => simp [ccode] at hc
  | draw t k =>
    intro c r hc
    cases c with
    | region id ops d =>
      cases d with
      | false => simp [ccode] at hc
      | true =>
        simp only [ccode] at hc
        obtain ⟨gs, h1, hc⟩ := bind_some hc
        obtain ⟨t', h2, hc⟩ := bind_some hc
        split at hc
        · rename_i hd
          injection hc with hc; subst hc
          simp only [ccode, h1, Option.bind_some, fill h2, hd, if_true]
        · cases hc
    | _ => simp [ccode] at hc
  | range n g ps ca cb =>
    intro c r hc
    cases c with
    | rangeFunc g' ps' ca' cb' =>
      simp only [ccode, Option.map_eq_some_iff] at hc
      obtain ⟨g0, h1, rfl⟩ := hc
      simp [ccode, h1]
    | _ => simp [ccode] at hc
  | seq a b ih1 ih2 =>
    intro c r hc
    cases c with
    | seq x y =>
      simp only [ccode] at hc
      obtain ⟨a', h1, hc⟩ := bind_some hc
      rw [Option.map_eq_some_iff] at hc
      obtain ⟨b', h2, rfl⟩ := hc
      simp [ccode, ih1 h1, ih2 h2]
    | _ => simp [ccode] at hc
  | cond o a b ih1 ih2 =>
    intro c r hc
    cases c with
    | cond o' x y =>
      simp only [ccode] at hc
      obtain ⟨o2, h0, hc⟩ := bind_some hc
      obtain ⟨a', h1, hc⟩ := bind_some hc
      rw [Option.map_eq_some_iff] at hc
      obtain ⟨b', h2, rfl⟩ := hc
      simp [ccode, h0, ih1 h1, ih2 h2]
    | _ => simp [ccode] at hc
  | block id a ih =>
    intro c r hc
    cases c with
    | block id' x =>
      simp only [ccode] at hc
      split at hc
      · rename_i hid
        rw [Option.map_eq_some_iff] at hc
        obtain ⟨a', h1, rfl⟩ := hc
        simp [ccode, hid, ih h1]
      · cases hc
    | _ => simp [ccode] at hc
  | loop a ih =>
    intro c r hc
    cases c with
    | loop x =>
      simp only [ccode, Option.map_eq_some_iff] at hc
      obtain ⟨a', h1, rfl⟩ := hc
      simp [ccode, ih h1]
    | _ => simp [ccode] at hc
theorem xloops_spec {E : Env} {n : Nat} {ca cb : Code} {q : ICode × ICode} : ∀ {l : List (ICode × ICode)}, xloops E n ca cb l = some q → ccode E n q.1 ca = some q.1 ∧ ccode E n q.2 cb = some q.2
  | [], h => by cases h
  | (a, b) :: r, h => by
    simp only [xloops] at h
    split at h
    · rename_i ia ib h1 h2
      injection h with h; subst h
      exact ⟨ccode_idem h1, ccode_idem h2⟩
    · exact xloops_spec h
theorem xcall_sound [Mixed X.E] (hX : X.OK) (hr : Sound X rec) {fv : Value} {us : List Value} {h : AHeap} {k : Value → AHeap → Bool} (H : xcall X rec fv us h k = true) : ICallV X.E fv us h (fun v h' => k v h' = true) := by
  unfold xcall at H
  split at H
  · rename_i f xs cs
    split at H
    · rename_i key hkey
      simp only [Bool.and_eq_true, beq_iff_eq] at H
      obtain ⟨hid, H⟩ := H
      obtain ⟨F, hF, H⟩ := ocont_true H
      simp only [Bool.and_eq_true, decide_eq_true_eq, paramsF_eq] at H
      have := hX key F hF
      rw [← hid]
      refine ICallV.gc (Q := fun v h' => (gcF h.next v h' fun h2 => k v h2) = true) (icallv_fn ⟨H.1, iwp_mono (fun e s he => ?_) (hr _ _ _ H.2)⟩) fun v h' hq => gcF_sound hq
      cases e with
      | exit id => cases he
      | normal =>
        obtain ⟨l, h1, h2⟩ := ocont_true he
        rw [fV_eq] at h2
        exact obind_iff.2 ⟨l, h1, h2⟩
      | ret =>
        obtain ⟨l, h1, h2⟩ := ocont_true he
        rw [fV_eq] at h2
        exact obind_iff.2 ⟨l, h1, h2⟩
    · cases H
  · rename_i l xs cs
    simp only [Bool.and_eq_true, beq_iff_eq] at H
    obtain ⟨⟨hx, hc⟩, H⟩ := H
    have hx : xs = #[] := Array.eq_empty_of_size_eq_zero hx
    have hc : cs = #[] := Array.eq_empty_of_size_eq_zero hc
    subst hx; subst hc
    split at H
    · rename_i st0 pe0 ts sz ps ca cb hL
      simp only [Bool.and_eq_true, beq_iff_eq, List.all_eq_true, decide_eq_true_eq] at H
      obtain ⟨⟨hlen, hps⟩, H⟩ := H
      obtain ⟨q, hq, H⟩ := ocont_true H
      simp only [Bool.and_eq_true, fTm_eq] at H
      obtain ⟨⟨hp1, hp2⟩, H⟩ := H
      obtain ⟨hc1, hc2⟩ := xloops_spec hq
      refine icallv_yield (L := ⟨st0, pe0, ts, sz, ps, ca, cb⟩) hL hlen hps hc1 hc2 hp1 hp2 (iwp_mono (fun e s1 he => ?_) (hr _ _ _ H))
      cases e with
      | exit id => cases he
      | ret => cases he
      | normal =>
        simp only at he
        split at he
        · rename_i st1 pe1 ts1 sz1 ps1 ca1 cb1 hL1
          simp only [Bool.and_eq_true, beq_iff_eq, xwPut_eq] at he
          refine ⟨⟨st1, pe1, ts1, sz1, ps1, ca1, cb1⟩, hL1, he.1, iwp_mono (fun e s2 h2 => ?_) (hr _ _ _ he.2)⟩
          split at h2
          · rename_i ts2 sz2 ps2 ca2 cb2 hL2
            refine ⟨_, hL2, ?_⟩
            cases hj : e.jump with
            | none => rw [hj] at h2; exact h2
            | some j => rw [hj] at h2; exact h2
          · cases h2
        · cases he
    · cases H
  · cases H
theorem xgrd_sound {g : Option (Nat × Bool)} {s : St} {p q : Unit → Bool} {P Q : Prop} (H : xgrd g s p q = true) (hp : p () = true → P) (hq : q () = true → Q) : igrd g s P Q := by
 unfold xgrd at H
 unfold igrd
 split at H
 · exact hp H
 · obtain ⟨b, h1, h2⟩ := ocont_true H
   refine obind_iff.2 ⟨b, h1, ?_⟩
   split at h2
   · rename_i e; rw [if_pos e]; exact hp h2
   · rename_i e; rw [if_neg e]; exact hq h2
theorem xstep_sound [Mixed X.E] (hX : X.OK) (hr : Sound X rec) {op : IOp} {s : St} {k : Option Value → AHeap → Bool} (H : xstep X rec op s k = true) : istep X.E op s (fun v h => k v h = true) := by
 have key : ∀ op, xx X.E s op k = true → obind (xev X.E s op) fun r => k r.1 r.2 = true := fun op H => by
  rw [xx_eq] at H
  obtain ⟨r, h1, h2⟩ := ocont_true H
  exact obind_iff.2 ⟨r, h1, h2⟩
 cases op
 case call key args =>
  obtain ⟨us, h1, h2⟩ := ocont_true H
  exact obind_iff.2 ⟨us, h1, xcall_sound hX hr h2⟩
 case callv f args =>
  obtain ⟨fv, h1, h2⟩ := ocont_true H
  obtain ⟨us, h3, h4⟩ := ocont_true h2
  exact obind_iff.2 ⟨fv, h1, obind_iff.2 ⟨us, h3, xcall_sound hX hr h4⟩⟩
 case sliceV e x lo hi mx =>
  have H : (xx X.E s (.sliceV e x lo hi mx) k || ocont (sev X.E s e x lo hi mx) fun v => fV v fun v => k (some v) s.h) = true := H
  rw [Bool.or_eq_true] at H
  rcases H with H | H
  · exact .inl (key _ H)
  · obtain ⟨v, h1, h2⟩ := ocont_true H
    rw [fV_eq] at h2
    exact .inr (obind_iff.2 ⟨v, h1, h2⟩)
 case alloc z => exact key (.alloc z) H
 case lenA n => exact key (.lenA n) H
 case nope => exact key .nope H
 all_goals exact key _ H
theorem xop_sound [Mixed X.E] (hX : X.OK) (hr : Sound X rec) {g : IOpG} {s : St} {k : St → Bool} (H : xop X rec g s k = true) : iop1 X.E g s (fun s => k s = true) :=
 xgrd_sound H (fun h => istep_mono (xstep_sound hX hr h) fun v h' hh => by rw [xput_eq] at hh; exact hh) (fun h => by rw [xput_eq] at h; exact h)
theorem xops_sound [Mixed X.E] (hX : X.OK) (hr : Sound X rec) {k : St → Bool} : ∀ {l : List IOpG} {s : St}, xops X rec l k s = true → iops X.E l (fun s => k s = true) s
 | [], _, H => H
 | _ :: _, _, H => iop1_mono (xop_sound hX hr H) fun _ H => xops_sound hX hr H
theorem xdraw_sound [Mixed X.E] (hX : X.OK) (hr : Sound X rec) {k : St → Bool} : ∀ {t : DT} {W : List Watch} {s : St}, xdraw X rec t W k s = true → idraw X.E t W (fun s => k s = true) s
  | .fin, _, _, H => H
  | .no, _, _, _ => trivial
  | .rd _ g r, W, s, H => xgrd_sound H (fun h => by
      obtain ⟨q, h1, h2⟩ := ocont_true h
      rw [fV_eq, xput_eq] at h2
      exact obind_iff.2 ⟨q, h1, xdraw_sound hX hr h2⟩) (fun h => by rw [xput_eq] at h; exact xdraw_sound hX hr h)
  | .wr _ g _ r alt, W, s, H => by
    simp only [xdraw, Bool.and_eq_true] at H
    refine ⟨xgrd_sound H.1 (fun h => istep_mono (xstep_sound hX hr h) fun v h' hh => ?_) (fun h => by rw [xput_eq] at h; exact xdraw_sound hX hr h), xdraw_sound hX hr H.2⟩
    simp only [Bool.and_eq_true, xput_eq] at hh
    exact ⟨wokB_sound hh.1, xdraw_sound hX hr hh.2⟩
theorem xstmt_sound [Mixed X.E] (hX : X.OK) : ∀ (c : ICode) (n : Nat), (∀ m, m ≤ n → Sound X (xcode X m)) → ∀ {k : IExit → St → Bool} {s : St}, xstmt X (xcode X n) c k s = true → iwp X.E c (fun e s => k e s = true) s := by
  intro c
  induction c with
  | skip => exact fun n hr k s H => H
  | ret => exact fun n hr k s H => H
  | exit id => exact fun n hr k s H => H
  | ops l keep => exact fun n hr k s H => iops_mono (fun s h => by rw [xkeep_eq] at h; exact h) (xops_sound hX (hr n (Nat.le_refl _)) H)
  | draw t keep => exact fun n hr k s H => idraw_mono (fun s h => by rw [xkeep_eq] at h; exact h) (xdraw_sound hX (hr n (Nat.le_refl _)) H)
  | range m g ps ca cb =>
    intro n hr k s H
    obtain ⟨fv, h1, h2⟩ := ocont_true H
    rw [fNat_eq] at h2
    simp only [Bool.and_eq_true] at h2
    refine obind_iff.2 ⟨fv, h1, h2.1, s.t, .refl, (xcall_sound hX (hr n (Nat.le_refl _)) h2.2).mono fun v h' hh => ?_⟩
    unfold xjump at hh
    split at hh
    · rename_i L hL
      simp only [Bool.and_eq_true, Bool.not_eq_true', beq_eq_false_iff_ne, xwPut_eq] at hh
      refine ⟨L, hL, hh.1, ?_⟩
      have h3 := hh.2
      cases hp : L.pending with
      | none => rw [hp] at h3; exact h3
      | some c =>
        rw [hp] at h3
        cases c <;> first | exact h3 | cases h3
    · cases hh
  | seq a b ih1 ih2 =>
    intro n hr k s H
    show iwp X.E a _ s
    refine iwp_mono (fun e s h => ?_) (ih1 n hr H)
    cases e with
    | normal => exact ⟨_, .refl, ih2 n hr h⟩
    | exit => exact h
    | ret => exact h
  | cond c a b ih1 ih2 =>
    intro n hr k s H
    simp only [xstmt] at H
    split at H
    · rename_i h1; exact obind_iff.2 ⟨true, h1, ih1 n hr H⟩
    · rename_i h1; exact obind_iff.2 ⟨false, h1, ih2 n hr H⟩
    · cases H
  | block id a ih =>
    intro n hr k s H
    show iwp X.E a _ s
    refine iwp_mono (fun e s h => ?_) (ih n hr H)
    cases e with
    | normal => exact h
    | exit id' =>
      simp only [iblk]
      simp only at h
      split at h
      · rename_i e; rw [if_pos e]; exact h
      · rename_i e; rw [if_neg e]; exact h
    | ret => exact h
  | loop a ih =>
    intro n hr k s H
    refine ⟨fun m s => m ≤ n + 1 ∧ xcode X m (.loop a) s k = true, n + 1, s, .refl, ⟨Nat.le_refl _, H⟩, fun m s ⟨hm, hI⟩ => ?_⟩
    cases m with
    | zero => cases hI
    | succ m =>
      refine iwp_mono (fun e s h => ?_) (ih m (fun j hj => hr j (by omega)) hI)
      cases e with
      | normal => exact ⟨m, _, by omega, .refl, by omega, h⟩
      | exit => exact h
      | ret => exact h
theorem xcode_sound [Mixed X.E] (hX : X.OK) (n : Nat) : Sound X (xcode X n) := by
  induction n using Nat.strongRecOn with
  | _ n ih =>
    intro c s k H
    cases n with
    | zero => cases H
    | succ n => exact xstmt_sound hX c n (fun m hm => ih m (by omega)) H
theorem icalls_run [Mixed X.E] (hX : X.OK) {n key : Nat} {us : List Value} {h : AHeap} {k : Value → AHeap → Bool} (H : xcall X (xcode X n) (.func (.func (X.E.id key)) #[] #[]) us h k = true) : ICalls X.E key us h (fun v h' => k v h' = true) :=
 xcall_sound hX (xcode_sound hX n) H
end
end Go.Proofs.YtgfglinlmnbjbaaGreat.AM
