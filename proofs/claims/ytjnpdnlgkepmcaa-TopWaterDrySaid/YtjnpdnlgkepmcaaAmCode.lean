/- Control: the small language's statements, what they ask, and that the translated code then does it. Conditions: none. -/
import Derived.Test.YtjnpdnlgkepmcaaAmLoop
import Derived.Test.YtjnpdnlgkepmcaaAmDraw3
namespace Go.Proofs.Ytjnpdnlgkepmcaa.AM
set_option linter.unusedSimpArgs false
set_option linter.unusedVariables false
open Go Go.RowKit
inductive ICode
 | skip
 | ops (l : List IOpG) (keep : Option (List Nat))
 | draw (t : DT) (keep : Option (List Nat))
 | range (n : Nat) (g : Opd) (ps : Array Tmp) (ca cb : Code)
 | seq (a b : ICode)
 | cond (c : Opd) (a b : ICode)
 | block (id : Nat) (a : ICode)
 | loop (a : ICode)
 | exit (id : Nat)
 | ret
inductive IExit
 | normal
 | exit (id : Nat)
 | ret
def IExit.up : IExit → Exit
 | .normal => .normal
 | .exit id => .exit id
 | .ret => .ret
def mapO {α β : Type} (f : α → Option β) : List α → Option (List β)
  | [] => some []
  | x :: r => match f x, mapO f r with
    | some y, some l => some (y :: l)
    | _, _ => none
theorem mapO_spec {α β : Type} {f : α → Option β} : ∀ {l : List α} {m : List β}, mapO f l = some m → m.length = l.length ∧ ∀ (i : Nat) (x : α), l[i]? = some x → ∃ y, m[i]? = some y ∧ f x = some y
  | [], m, h => by simp [mapO] at h; subst h; simp
  | x :: l, m, h => by
    simp only [mapO] at h
    split at h
    · rename_i y l' h1 h2
      injection h with h; subst h
      obtain ⟨h3, h4⟩ := mapO_spec h2
      refine ⟨by simp [h3], fun i z hz => ?_⟩
      cases i with
      | zero => simp at hz; subst hz; exact ⟨y, by simp, h1⟩
      | succ i => simp at hz; simpa using h4 i z hz
    · simp at h
def ccode (E : Env) (nt : Nat) : ICode → Code → Option ICode
 | .skip, .skip => some .skip
 | .ops _ keep, .region _ ops false => (mapO (cog E nt ops) ops.toList).map (.ops · keep)
 | .draw t keep, .region _ ops true => (mapO (cog E nt ops) ops.toList).bind fun gs => (fillT ops gs t).bind fun t => if chkT ops gs true [] t then some (.draw t keep) else none
 | .range _ _ _ _ _, .rangeFunc g ps ca cb => (copd E g).map fun g => .range nt g ps ca cb
 | .seq a b, .seq x y => (ccode E nt a x).bind fun a => (ccode E nt b y).map fun b => .seq a b
 | .cond _ a b, .cond c x y => (copd E c).bind fun c => (ccode E nt a x).bind fun a => (ccode E nt b y).map fun b => .cond c a b
 | .block id a, .block id' x => if id = id' then (ccode E nt a x).map (.block id) else none
 | .loop a, .loop x => (ccode E nt a x).map .loop
 | .exit id, .exit id' => if id = id' then some (.exit id) else none
 | .ret, .ret => some .ret
 | _, _ => none
def ikeep : Option (List Nat) → St → St
 | none, s => s
 | some l, s => ⟨akeep s.t l, s.h⟩
def iops (E : Env) : List IOpG → (St → Prop) → St → Prop
 | [], K, s => K s
 | g :: r, K, s => iop1 E g s (iops E r K)
def ithen (next : St → Prop) (Q : IExit → St → Prop) : IExit → St → Prop
 | .normal, s => next s
 | .exit id, s => Q (.exit id) s
 | .ret, s => Q .ret s
def iblk (id : Nat) (Q : IExit → St → Prop) : IExit → St → Prop
 | .normal, s => Q .normal s
 | .exit id', s => if id' = id then Q .normal s else Q (.exit id') s
 | .ret, s => Q .ret s
def vfn : Value → Bool
 | .func (.func _) _ _ => true
 | _ => false
def ijump (l : Nat) (Q : IExit → St → Prop) (t : List (Nat × Value)) (h : AHeap) : Prop :=
 ∃ L, h.get l = some (.loop L) ∧ L.state ≠ .busy ∧ match L.pending with
  | none => Q .normal ⟨t, h.put l .dead⟩
  | some .ret => Q .ret ⟨t, h.put l .dead⟩
  | some (.exit id) => Q (.exit id) ⟨t, h.put l .dead⟩
  | _ => False
def RC (K : Nat) (s s' : St) : Prop := K ≤ s'.h.next ∧ ∀ (ι : Iota) (w : World) (rt : Array Value), Rel ι s.h w → TR ι s.h.next s.t rt →
 ∃ ι', Rel ι' s'.h w ∧ TR ι' s'.h.next s'.t rt ∧ Up K ι ι' ∧ (∀ r, MutAt ι' s'.h r → MutAt ι s.h r) ∧ ∀ r i, ¬ MutAt ι s.h r → ι'.im r i = ι.im r i
def Recast (K : Nat) (s s' : St) : Prop := s' = s ∨ RC K s s'
theorem Recast.refl {K : Nat} {s : St} : Recast K s s := .inl rfl
theorem RC.trans {K : Nat} {s s' s'' : St} (a : RC K s s') (b : RC K s' s'') : RC K s s'' := ⟨b.1, fun ι w rt R T => by
 obtain ⟨ι', R', T', U', M', I'⟩ := a.2 ι w rt R T
 obtain ⟨ι'', R'', T'', U'', M'', I''⟩ := b.2 ι' w rt R' T'
 exact ⟨ι'', R'', T'', U'.trans U'' (Nat.le_refl _), fun r h => M' r (M'' r h), fun r i h => (I'' r i (fun hm => h (M' r hm))).trans (I' r i h)⟩⟩
theorem Recast.trans {K : Nat} {s s' s'' : St} (a : Recast K s s') (b : Recast K s' s'') : Recast K s s'' := by
 rcases a with rfl | a
 · exact b
 · rcases b with rfl | b
   · exact .inr a
   · exact .inr (a.trans b)
theorem Recast.apply {K nt nb : Nat} {s s' : St} (c : Recast K s s') {ι ι0 : Iota} {h0 : AHeap} {w0 w : World} {a : Act} (hK : h0.next ≤ K) (S : SRel nt nb ι s a w) (X : Ext ι0 h0 w0 ι s.h w) : ∃ ι', SRel nt nb ι' s' a w ∧ Ext ι0 h0 w0 ι' s'.h w := by
 rcases c with rfl | c
 · exact ⟨ι, S, X⟩
 obtain ⟨ι', R, T, U, M, I⟩ := c.2 ι w a.tmps S.rel S.tm
 refine ⟨ι', ⟨R, T, S.sz, ?_⟩, ⟨Nat.le_trans hK c.1, X.up.trans U hK, X.size, fun r hr hn => ⟨(X.frame r hr hn).1, fun hm => (X.frame r hr hn).2 (M r hm)⟩, fun r i hr hn => (I r i (X.frame r hr hn).2).trans (X.imf r i hr hn), X.os, X.tape, X.output⟩⟩
 obtain ⟨Ds, h1, h2, h3⟩ := S.df
 exact ⟨Ds, h1, h2, fun d hd => let ⟨h4, h5, h6⟩ := h3 d hd; ⟨h4, h5, fun hm => h6 (M d hm)⟩⟩
def SubT (t2 t : List (Nat × Value)) : Prop := ∀ k v, look t2 k = some v → look t k = some v
theorem SubT.refl {t : List (Nat × Value)} : SubT t t := fun _ _ h => h
theorem SubT.trans {a b c : List (Nat × Value)} (h1 : SubT a b) (h2 : SubT b c) : SubT a c := fun k v h => h2 k v (h1 k v h)
def iwp (E : Env) : ICode → (IExit → St → Prop) → St → Prop
 | .skip, Q, s => Q .normal s
 | .ops l keep, Q, s => iops E l (fun s => Q .normal (ikeep keep s)) s
 | .draw t keep, Q, s => idraw E t [] (fun s => Q .normal (ikeep keep s)) s
 | .range n g ps ca cb, Q, s => obind (s.ev E g) fun fv => vfn fv = true ∧ ∃ t2, SubT t2 s.t ∧ ICallV E fv [.func (.yield s.h.next) #[] #[]] (s.h.alloc (.loop ⟨.ready, none, t2, n, ps, ca, cb⟩)) fun _ h' => ijump s.h.next Q t2 h'
 | .seq a b, Q, s => iwp E a (ithen (fun s' => ∃ s2, Recast s.h.next s' s2 ∧ iwp E b Q s2) Q) s
 | .cond c a b, Q, s => obind ((s.ev E c).bind vbool) fun t => if t then iwp E a Q s else iwp E b Q s
 | .block id a, Q, s => iwp E a (iblk id Q) s
 | .loop a, Q, s => ∃ (I : Nat → St → Prop) (m : Nat) (s0 : St), Recast s.h.next s s0 ∧ I m s0 ∧ ∀ m s1, I m s1 → iwp E a (ithen (fun s' => ∃ m' s2, m' < m ∧ Recast s.h.next s' s2 ∧ I m' s2) Q) s1
 | .exit id, Q, s => Q (.exit id) s
 | .ret, Q, s => Q .ret s
def ICode.plain : ICode → Bool
 | .range .. => false
 | .seq a b | .cond _ a b => a.plain && b.plain
 | .block _ a | .loop a => a.plain
 | _ => true
theorem exists_least {p : Nat → Prop} (h : ∃ m, p m) : ∃ m, p m ∧ ∀ k, p k → m ≤ k := by
  obtain ⟨m, hm⟩ := h
  induction m using Nat.strongRecOn with
  | _ m ih =>
    by_cases hk : ∃ k, k < m ∧ p k
    · obtain ⟨k, h1, h2⟩ := hk; exact ih k h1 h2
    · exact ⟨m, hm, fun k hp => by
        rcases Nat.lt_or_ge k m with h | h
        · exact absurd ⟨k, h, hp⟩ hk
        · exact h⟩
open Classical in
noncomputable def least (p : Nat → Prop) : Nat := if h : ∃ m, p m then (exists_least h).choose else 0
theorem least_spec {p : Nat → Prop} (h : ∃ m, p m) : p (least p) ∧ ∀ k, p k → least p ≤ k := by
 unfold least; rw [dif_pos h]; exact (exists_least h).choose_spec
section
variable {E : Env} {nt nb : Nat} {r : Option Nat}
theorem SRel.keep {ι : Iota} {s : St} {a : Act} {w : World} (k : Option (List Nat)) (S : SRel nt nb ι s a w) : SRel nt nb ι (ikeep k s) a w := by
 cases k with
 | none => exact S
 | some l => exact ⟨S.rel, fun t u hu => S.tm t u (look_akeep _ _ _ _ hu), S.sz, S.df⟩
theorem ikeep_h (k : Option (List Nat)) (s : St) : (ikeep k s).h = s.h := by cases k <;> rfl
theorem ops_sound {ops : Array Oper} {l : List IOpG} (hc : mapO (cog E nt ops) ops.toList = some l) {K : St → Prop} {Q : Exit → Act → World → Prop} {ι0 : Iota} {h0 : AHeap} {w0 : World}
    (hQ : ∀ ι s a w, K s → SRel nt nb ι s a w → Ext ι0 h0 w0 ι s.h w → Q .normal a w) : ∀ (rest : List IOpG) (k : Nat), l.drop k = rest → ∀ (ι : Iota) (s : St) (a : Act) (w : World), SRel nt nb ι s a w → Ext ι0 h0 w0 ι s.h w →
      iops E rest K s → wpOpsIn (FR r) 0 E.P ops Q ((List.range ops.size).drop k) a w := by
  obtain ⟨hlen, hget⟩ := mapO_spec hc
  intro rest
  induction rest with
  | nil =>
    intro k hk ι s a w S X H
    have : ops.size ≤ k := by
      have := congrArg List.length hk
      simp at this hlen; omega
    rw [List.drop_eq_nil_of_le (by simpa using this)]
    exact hQ ι s a w H S X
  | cons g rest ih =>
    intro k hk ι s a w S X H
    have hk' : k < l.length := by
      rcases Nat.lt_or_ge k l.length with h | h
      · exact h
      · rw [List.drop_eq_nil_of_le h] at hk; cases hk
    have hks : k < ops.size := by simpa [hlen] using hk'
    rw [List.drop_eq_getElem_cons hk'] at hk
    injection hk with hg hrest
    have ho : ops[k]? = some ops[k] := Array.getElem?_eq_getElem hks
    obtain ⟨g', hg', hcog⟩ := hget k ops[k] (by simp)
    rw [List.getElem?_eq_getElem hk', hg] at hg'
    injection hg' with hg'; subst hg'
    rw [List.drop_eq_getElem_cons (by simpa using hks), wpOpsIn_cons]
    simp only [List.getElem_range]
    exact op_sound ho hcog S H (fun ι' s' a' w' hK S' X' => ih (k + 1) hrest ι' s' a' w' S' (X.trans X') hK)
theorem Rel.drawn {ι : Iota} {h : AHeap} {w : World} (R : Rel ι h w) (n : Nat) : Rel ι h { w with drawn := n } := ⟨R.lt, R.real, R.rw, fun b n z hb => let t := R.tail b n z hb; ⟨t.hn, t.hz, t.nil, t.z0, t.room⟩, R.loop, R.sep, R.im, R.gb⟩
theorem Ext.drawn {ι : Iota} {h : AHeap} {w : World} (n : Nat) : Ext ι h w ι h { w with drawn := n } := ⟨Nat.le_refl _, .refl, Nat.le_refl _, fun _ _ hn => ⟨rfl, hn⟩, fun _ _ _ _ => rfl, rfl, rfl, rfl⟩
theorem code_sound (hP : E.P.follows .mixedOrders = true) : ∀ (c : ICode) (code : Code), (r = none ∨ c.plain = true) → ccode E nt c code = some c → ∀ (Q : IExit → St → Prop) (Q' : Exit → Act → World → Prop) (ι0 : Iota) (h0 : AHeap) (w0 : World)
    (_ : nb ≤ w0.heap.size) (_ : ∀ e ι s a w, Q e s → SRel nt nb ι s a w → Ext ι0 h0 w0 ι s.h w → Q' e.up a w) (ι : Iota) (s : St) (a : Act) (w : World), SRel nt nb ι s a w → Ext ι0 h0 w0 ι s.h w → iwp E c Q s → code.wpIn (FR r) 0 E.P Q' a w := by
  intro c
  induction c with
  | skip =>
    intro code hr hc Q Q' ι0 h0 w0 hnb hQ ι s a w S X H
    cases code <;> simp [ccode] at hc
    exact wpIn_skip (hQ .normal ι s a w H S X)
  | ret =>
    intro code hr hc Q Q' ι0 h0 w0 hnb hQ ι s a w S X H
    cases code <;> simp [ccode] at hc
    exact wpIn_ret (hQ .ret ι s a w H S X)
  | exit id =>
    intro code hr hc Q Q' ι0 h0 w0 hnb hQ ι s a w S X H
    cases code <;> simp [ccode] at hc
    subst hc
    exact wpIn_exit (hQ (.exit _) ι s a w H S X)
  | ops l keep =>
    intro code hr hc Q Q' ι0 h0 w0 hnb hQ ι s a w S X H
    cases code with
    | region id ops draw =>
      cases draw with
      | true => simp [ccode] at hc
      | false =>
        simp only [ccode, Option.map_eq_some_iff] at hc
        obtain ⟨l', h1, h2⟩ := hc
        injection h2 with h2 _; subst h2
        refine wpIn_region ?_
        have := ops_sound (r := r) h1 (K := fun s => Q .normal (ikeep keep s)) (Q := Q') (fun ι s a w hK S X => hQ .normal ι _ a w hK (S.keep keep) (by rw [ikeep_h]; exact X)) _ 0 rfl ι s a w S X H
        simpa using this
    | _ => simp [ccode] at hc
  | draw t keep =>
    intro code hr hc Q Q' ι0 h0 w0 hnb hQ ι s a w S X H
    cases code with
    | region id ops draw =>
      cases draw with
      | false => simp [ccode] at hc
      | true =>
        simp only [ccode] at hc
        obtain ⟨gs, h1, hc⟩ := bind_some hc
        obtain ⟨t', h2, hc⟩ := bind_some hc
        split at hc
        · rename_i hd
          injection hc with hc
          injection hc with hc _; subst hc
          obtain ⟨hlen, hget⟩ := mapO_spec h1
          have hgs : gs.length = ops.size := by simpa using hlen
          have tok := TOK.of_chk h2 hd
          refine wpIn_region_any hP ?_
          have hJ : DJ E nt nb ops gs [] t' (Array.replicate ops.size false) [] ι s a { w with drawn := w.drawn + 1 } := by
            refine ⟨tok, by simp, fun i hi => absurd hi (by simp), fun i hi => ?_, trivial, fun i hi => absurd hi (by simp), fun t u hu => .inl (S.tm t u hu), S.rel.drawn _, S.sz, S.df.ext (Ext.drawn _), trivial⟩
            exfalso
            simp only [Array.getD_eq_getD_getElem?, Array.getElem?_replicate] at hi
            split at hi <;> simp at hi
          refine draw_any (r := r) hgs (fun i o ho => hget i o (by simpa using ho)) (K := fun s => Q .normal (ikeep keep s)) (fun ι s a w hK S X => hQ .normal ι _ a w hK (S.keep keep) (by rw [ikeep_h]; exact X)) ops.size _ [] t' [] ι s a _ hJ H (X.trans (Ext.drawn _)) ?_
          exact Nat.le_trans (List.length_filter_le _ _) (by simp)
        · cases hc
    | _ => simp [ccode] at hc
  | range n g ps ca cb =>
    intro code hr hc Q Q' ι0 h0 w0 hnb hQ ι s a w S X H
    have hr : r = none := hr.resolve_right (by simp [ICode.plain])
    subst hr
    cases code with
    | rangeFunc g' ps' ca' cb' =>
      simp only [ccode, Option.map_eq_some_iff] at hc
      obtain ⟨g0, hg, hc⟩ := hc
      injection hc with e1 e2 e3 e4 e5
      subst e1; subst e2; subst e3; subst e4; subst e5
      obtain ⟨fv, hfv, hvf, t2, ht2, H⟩ := obind_iff.1 H
      have T2 : TR ι s.h.next t2 a.tmps := fun k u hu => S.tm k u (ht2 k u hu)
      have hvr := ev_sim hg S.tm hfv
      generalize hfe : a.eval g' = fv' at hvr
      cases hvr <;> simp [vfn, VS, VT, VP, VZ, VE] at hvf
      case func gf xs ys us vs hs hx hs' hx' =>
      refine wpIn_rangeFunc (F := FR none) (n := 0) fun fn _ => ?_
      obtain ⟨R1, X1⟩ := S.rel.junk (.deferred (some []))
      have hL : LR ι s.h.next ⟨.ready, none, t2, nt, ps', ca', cb'⟩ (.loop { state := .ready, pending := none, fn, tmps := a.tmps, params := ps', assign := ca', body := cb', defers := w.heap.size }) :=
        ⟨.inl ⟨fun e => (by cases e), a.tmps, w.heap.size, fn, rfl, T2, S.sz⟩⟩
      obtain ⟨R2, X2⟩ := R1.newLoop hL
      have hnx : (upd ι s.h.next ⟨(w.alloc (.deferred (some []))).heap.size, 0, 0⟩ s.h.next).r = w.heap.size + 1 := by rw [upd_same]; simp
      have hvr' : VR (upd ι s.h.next ⟨(w.alloc (.deferred (some []))).heap.size, 0, 0⟩) (s.h.alloc (.loop ⟨.ready, none, t2, nt, ps', ca', cb'⟩)).next (.func (.func gf) xs us) (.func (.func gf) ys vs) :=
        (VR.func gf xs ys us vs hs hx hs' hx').more X2.next X2.up
      obtain ⟨nx, w2, h1, h2, h3, h4⟩ := H _ _ _ [.func (.yield (w.heap.size + 1)) #[] #[]] R2 hvr' ⟨rfl, fun i u v hu hv => by
        cases i with
        | zero =>
          simp at hu hv; subst hu; subst hv
          have := VR.yield (ι := upd ι s.h.next ⟨(w.alloc (.deferred (some []))).heap.size, 0, 0⟩) (N := (s.h.alloc (.loop ⟨.ready, none, t2, nt, ps', ca', cb'⟩)).next) s.h.next (by simp)
          rw [hnx] at this; exact this
        | succ i => simp at hu⟩
      cases nx with
      | enter f args =>
        simp only [Deferred.ofValue, Sem.run_bind, Sem.run_pure, Result.andThen] at h1
        refine ⟨w.heap.size + 1, _, _, { target := .fn (.func gf) vs, args := ys ++ #[.func (.yield (w.heap.size + 1)) #[] #[]] }, _, f, args, w2, run_enterLoop_outer _ _ _ _ _, ?_, fun _ _ => trivial, h1, FR_depth none, FR_calls (h4.mono ?_)⟩
        · have he : resolve a.eval (rangeCall g' (w.heap.size + 1)) 0 = Deferred.ofValue (a.eval g') #[.func (.yield (w.heap.size + 1)) #[] #[]] := by
            simp [resolve, Act.eval]
          rw [he, hfe]; rfl
        · rintro e w3 ⟨ι', u, v, h', rfl, ⟨L, hLg, hLs, hLq⟩, hv, R', X'⟩
          obtain ⟨o, ho, hLR⟩ := R'.loop _ _ hLg
          obtain ⟨rt, d, fn', rfl, hT, hz⟩ := hLR.loop fun e => by rw [e] at hLq; exact hLq
          have hι' : (ι' s.h.next).r = w.heap.size + 1 := by rw [X'.up.loc s.h.next (by simp)]; exact hnx
          obtain ⟨R4, X4⟩ := R'.putObj hLg .dead (.loop { state := .exhausted, pending := L.pending, fn := fn', tmps := rt, params := L.params, assign := L.assign, body := L.body, defers := d }) (.inl rfl)
          rw [hι'] at ho R4 X4
          refine ⟨_, _, run_endLoop ho hLs, ?_⟩
          have XX := X1.trans (X2.trans (h3.trans (X'.trans X4)))
          have hD : ∀ r o, w.heap.size = r → ¬ MutAt (upd ι s.h.next ⟨(w.alloc (.deferred (some []))).heap.size, 0, 0⟩) (s.h.alloc (.loop ⟨.ready, none, t2, nt, ps', ca', cb'⟩)) r ∧ (w.alloc o).heap[r]? = some o := by
            rintro r o rfl
            refine ⟨?_, World.alloc_heap_new w o⟩
            rintro ⟨b, y, hb, hbr⟩
            rw [AHeap.get_alloc] at hb
            split at hb
            · rename_i e; subst e
              simp only [AObj.live, Option.some.injEq] at hb; subst hb
              simp only [Iota.at, hnx, Option.some.injEq] at hbr; omega
            · rename_i hne; rw [at_upd hne] at hbr; have := S.rel.real b y _ hb hbr; omega
          have SS : SRel nt nb ι' ⟨t2, h'.put s.h.next .dead⟩ { a with defers := { target := .collected w.heap.size, args := #[] } :: a.defers } (w3.putObj (w.heap.size + 1) (.loop { state := .exhausted, pending := L.pending, fn := fn', tmps := rt, params := L.params, assign := L.assign, body := L.body, defers := d })) := by
            refine ⟨R4, T2.more XX.next XX.up, S.sz, ?_⟩
            obtain ⟨Ds, hds, hnd, hall⟩ := S.df
            refine ⟨w.heap.size :: Ds, by simp [hds], List.nodup_cons.2 ⟨fun hm => ?_, hnd⟩, fun D hm => ?_⟩
            · have := (Array.getElem?_eq_some_iff.1 (hall _ hm).2.1).1; omega
            · rcases List.mem_cons.1 hm with rfl | hm
              · have hsz : nb ≤ w.heap.size := Nat.le_trans hnb X.size
                obtain ⟨hm1, hh1⟩ := hD w.heap.size (.deferred (some [])) rfl
                have hlt : w.heap.size < (w.alloc (.deferred (some []))).heap.size := by simp
                have hw1 : ((w.alloc (.deferred (some []))).alloc (.loop { state := .ready, pending := none, fn, tmps := a.tmps, params := ps', assign := ca', body := cb', defers := w.heap.size })).heap[w.heap.size]? = some (.deferred (some [])) := by
                  show ((w.alloc (.deferred (some []))).heap.push _)[w.heap.size]? = _
                  rw [Array.getElem?_push, if_neg (Nat.ne_of_lt hlt)]; exact hh1
                obtain ⟨f1, f2⟩ := (h3.trans (X'.trans X4)).frame w.heap.size (by simp only [World.size_alloc]; omega) hm1
                exact ⟨hsz, f1.trans hw1, f2⟩
              · obtain ⟨h5, h6, h7⟩ := hall D hm
                obtain ⟨f1, f2⟩ := XX.frame D (Array.getElem?_eq_some_iff.1 h6).1 h7
                exact ⟨h5, f1.trans h6, f2⟩
          have XA := X.trans XX
          cases hp : L.pending with
          | none => rw [hp] at hLq SS; exact hQ .normal ι' _ _ _ hLq SS (by rw [hp] at XA; exact XA)
          | some c =>
            rw [hp] at hLq SS XA
            cases c with
            | ret => exact wpIn_ret (hQ .ret ι' _ _ _ hLq SS XA)
            | exit id => exact wpIn_exit (hQ (.exit id) ι' _ _ _ hLq SS XA)
            | _ => exact hLq.elim
      | round l f tmps as bd => obtain ⟨⟨k, hk⟩, _⟩ := h4; cases hk
      | _ => exact h4.elim
    | _ => simp [ccode] at hc
  | seq c1 c2 ih1 ih2 =>
    intro code hr hc Q Q' ι0 h0 w0 hnb hQ ι s a w S X H
    cases code with
    | seq x y =>
      simp only [ccode] at hc
      obtain ⟨c1', h1, hc⟩ := bind_some hc
      rw [Option.map_eq_some_iff] at hc
      obtain ⟨c2', h2, hc⟩ := hc
      injection hc with e1 e2; subst e1; subst e2
      have hr1 : r = none ∨ c1'.plain = true := hr.imp id fun h => (by simp only [ICode.plain, Bool.and_eq_true] at h; exact h.1)
      have hr2 : r = none ∨ c2'.plain = true := hr.imp id fun h => (by simp only [ICode.plain, Bool.and_eq_true] at h; exact h.2)
      have hK := X.next
      refine wpIn_seq (ih1 x hr1 h1 _ _ ι0 h0 w0 hnb ?_ ι s a w S X H)
      intro e ι s a w hq S X
      cases e with
      | normal =>
        obtain ⟨s2, hRC, hq⟩ := hq
        obtain ⟨ι2, S, X⟩ := hRC.apply hK S X
        exact ih2 y hr2 h2 Q Q' ι0 h0 w0 hnb hQ ι2 s2 a w S X hq
      | exit id => exact hQ _ ι s a w hq S X
      | ret => exact hQ _ ι s a w hq S X
    | _ => simp [ccode] at hc
  | cond c c1 c2 ih1 ih2 =>
    intro code hr hc Q Q' ι0 h0 w0 hnb hQ ι s a w S X H
    cases code with
    | cond c' x y =>
      simp only [ccode] at hc
      obtain ⟨c0, hc0, hc⟩ := bind_some hc
      obtain ⟨c1', h1, hc⟩ := bind_some hc
      rw [Option.map_eq_some_iff] at hc
      obtain ⟨c2', h2, hc⟩ := hc
      injection hc with e0 e1 e2; subst e0; subst e1; subst e2
      obtain ⟨t, ht, H⟩ := obind_iff.1 H
      obtain ⟨v, hv, hvb⟩ := bind_some ht
      have hb := (ev_sim hc0 S.tm hv).bool_of hvb
      have hr1 : r = none ∨ c1'.plain = true := hr.imp id fun h => (by simp only [ICode.plain, Bool.and_eq_true] at h; exact h.1)
      have hr2 : r = none ∨ c2'.plain = true := hr.imp id fun h => (by simp only [ICode.plain, Bool.and_eq_true] at h; exact h.2)
      refine wpIn_cond hb.2 ?_
      cases t with
      | true => exact ih1 x hr1 h1 Q Q' ι0 h0 w0 hnb hQ ι s a w S X H
      | false => exact ih2 y hr2 h2 Q Q' ι0 h0 w0 hnb hQ ι s a w S X H
    | _ => simp [ccode] at hc
  | block id c1 ih =>
    intro code hr hc Q Q' ι0 h0 w0 hnb hQ ι s a w S X H
    cases code with
    | block id' x =>
      simp only [ccode] at hc
      split at hc
      · rename_i hid; subst hid
        rw [Option.map_eq_some_iff] at hc
        obtain ⟨c1', h1, hc⟩ := hc
        injection hc with _ e1; subst e1
        refine wpIn_block (ih x hr h1 _ _ ι0 h0 w0 hnb ?_ ι s a w S X H)
        intro e ι s a w hq S X
        cases e with
        | normal => exact hQ .normal ι s a w hq S X
        | exit id' =>
          simp only [iblk] at hq
          simp only [IExit.up, Exit.inBlock]
          split at hq
          · rename_i he; rw [if_pos he]; exact hQ .normal ι s a w hq S X
          · rename_i he; rw [if_neg he]; exact hQ (.exit id') ι s a w hq S X
        | ret => exact hQ _ ι s a w hq S X
      · simp at hc
    | _ => simp [ccode] at hc
  | loop c1 ih =>
    intro code hr hc Q Q' ι0 h0 w0 hnb hQ ι s a w S X H
    cases code with
    | loop x =>
      simp only [ccode, Option.map_eq_some_iff] at hc
      obtain ⟨c1', h1, hc⟩ := hc
      injection hc with e1; subst e1
      obtain ⟨I, m, s0, hRC, hI, hstep⟩ := H
      have hK := X.next
      generalize s.h.next = K at hRC hstep hK
      obtain ⟨ι, S, X⟩ := hRC.apply hK S X
      let J : Nat → Act → World → Prop := fun m a w => ∃ ι s, I m s ∧ SRel nt nb ι s a w ∧ Ext ι0 h0 w0 ι s.h w
      refine wpIn_loop (fun a w => ∃ m, J m a w) (fun a w => least fun m => J m a w) ⟨m, ι, s0, hI, S, X⟩ ?_
      intro a w hJ
      obtain ⟨⟨ι, s, hI, S, X⟩, _⟩ := least_spec hJ
      refine ih x hr h1 _ _ ι0 h0 w0 hnb ?_ ι s a w S X (hstep _ s hI)
      intro e ι' s' a' w' hq S' X'
      cases e with
      | normal =>
        obtain ⟨m', s2, hm', hRC2, hI'⟩ := hq
        obtain ⟨ι', S', X'⟩ := hRC2.apply hK S' X'
        have hJ' : ∃ m, J m a' w' := ⟨m', ι', s2, hI', S', X'⟩
        exact ⟨hJ', Nat.lt_of_le_of_lt ((least_spec hJ').2 m' ⟨ι', s2, hI', S', X'⟩) hm'⟩
      | exit id => exact hQ _ ι' s' a' w' hq S' X'
      | ret => exact hQ _ ι' s' a' w' hq S' X'
    | _ => simp [ccode] at hc
end
end Go.Proofs.Ytjnpdnlgkepmcaa.AM
