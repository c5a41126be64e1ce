/- Functions: a contract of the small language's function is one of the translated function. Conditions: none. -/
import Derived.Test.YtjnpdnlgkepmcaaAmCode
namespace Go.Proofs.Ytjnpdnlgkepmcaa.AM
set_option linter.unusedSimpArgs false
set_option linter.unusedVariables false
open Go Go.RowKit
inductive IRes
 | t (n : Nat)
 | cell (a n : Nat) (agg : Bool)
structure IFn where
 nt : Nat
 res : List IRes
 code : ICode
def res1 (E : Env) (s : St) : IRes → Option Value
 | .t n => look s.t n
 | .cell a n g => lev E s n g (.t a)
def resL (E : Env) (s : St) : List IRes → Option (List Value)
  | [] => some []
  | x :: r => match res1 E s x, resL E s r with
    | some v, some l => some (v :: l)
    | _, _ => none
def resV : List Value → Value
 | [v] => v
 | l => .tuple l.toArray
def params : Nat → List Value → List (Nat × Value)
 | _, [] => []
 | i, v :: r => (i, v) :: params (i + 1) r
def ifn (E : Env) (F : IFn) (us : List Value) (h : AHeap) (Q : Value → AHeap → Prop) : Prop :=
 us.length ≤ F.nt ∧ iwp E F.code (fun e s => match e with
  | .exit _ => False
  | _ => obind (resL E s F.res) fun l => Q (resV l) s.h) ⟨params 0 us, h⟩
def cres (E : Env) : ResultVar → Option IRes
  | .tmp t => some (.t t)
  | .cell a t => match tsz E t, tagg E t with
    | some n, some g => some (.cell a n g)
    | _, _ => none
def cfn (E : Env) (F : IFn) (f : FuncId) : Option IFn :=
  match E.P.funcs[f]? with
  | some fn => match fn.body with
    | some code => if fn.name == "runtime.NumGoroutine" then none else match mapO (cres E) fn.results.toList, ccode E fn.ntmps F.code code with
      | some rs, some c => some ⟨fn.ntmps, rs, c⟩
      | _, _ => none
    | none => none
  | none => none
class Has (E : Env) (k : Nat) (F : outParam IFn) : Prop where
 is : cfn E F (E.id k) = some F
class Mixed (E : Env) : Prop where
 is : E.P.follows .mixedOrders = true
theorem look_params : ∀ (us : List Value) (i k : Nat) (u : Value), look (params i us) k = some u → i ≤ k ∧ us[k - i]? = some u
  | [], i, k, u, h => by simp [params, look] at h
  | v :: us, i, k, u, h => by
    simp only [params, look] at h
    split at h
    · rename_i hk; subst hk; injection h with h; subst h; simp
    · rename_i hk
      obtain ⟨h1, h2⟩ := look_params us (i + 1) k u h
      refine ⟨by omega, ?_⟩
      rw [show k - i = (k - (i + 1)) + 1 by omega, List.getElem?_cons_succ]; exact h2
section
variable {E : Env} {ι : Iota} {h : AHeap} {w : World} {a : Act} {s : St}
theorem res1_sim {x : ResultVar} {y : IRes} {u : Value} (hc : cres E x = some y) (R : Rel ι s.h w) (T : TR ι s.h.next s.t a.tmps) (he : res1 E s y = some u) :
    ∃ v, (match x with
      | .tmp t => (pure (a.tmps.getD t undef) : Sem Value)
      | .cell b t => do loadVar t (← asAddr (a.tmps.getD b undef))).run E.P w = .ok v w ∧ VR ι s.h.next u v := by
  cases x with
  | tmp t =>
    simp [cres] at hc; subst hc
    obtain ⟨v, h1, h2⟩ := T t u he
    exact ⟨v, by simp [Array.getD_eq_getD_getElem?, h1, Sem.run_pure], h2⟩
  | cell b t =>
    simp only [cres] at hc
    split at hc
    · rename_i n g hn hg
      injection hc with hc; subst hc
      simp only [res1] at he
      let o : Oper := { dst := none, op := .load t (.tmp b), type := 0, pos := default, after := #[], guard := none }
      have ho : cop E o = some (.load n g (.t b)) := by simp only [o, cop, hn, hg, copd]
      obtain ⟨rv, h1, h2⟩ := lev_sim ho R T he
      refine ⟨rv, ?_, h2⟩
      unfold lev at he
      obtain ⟨v, h4, he⟩ := bind_some he
      obtain ⟨v', h6, h7⟩ := T b v h4
      have : ∃ rr ff, v' = .pointer (some ⟨rr, ff, none⟩) := by
        split at he
        · rename_i q hq
          obtain ⟨r, f, hx, _⟩ := h7.vp_of hq
          exact ⟨_, _, hx⟩
        · obtain ⟨p, h5, _⟩ := bind_some he
          exact ⟨_, _, (h7.ptr_of h5).2.2⟩
      obtain ⟨rr, ff, h8⟩ := this
      have hev : a.tmps.getD b undef = .pointer (some ⟨rr, ff, none⟩) := by rw [← h8]; simp [Array.getD_eq_getD_getElem?, h6]
      have h9 : (execOp a.eval o) = (do pure (Next.value (← Instr.loadAt t (a.tmps.getD b undef)))) := rfl
      rw [h9, hev] at h1
      simp only [Instr.loadAt, Instr.sureAddr, Sem.run_bind, Sem.run_pure, Result.andThen] at h1
      simp only [hev, asAddr, Sem.run_bind, Sem.run_pure, Result.andThen]
      cases hl : (loadVar t { block := rr, off := ff, spot := none }).run E.P w with
      | ok v2 w2 =>
        rw [hl] at h1
        simp only at h1
        injection h1 with h1 h10
        injection h1 with h1
        rw [h1, h10]
      | halt x w2 => rw [hl] at h1; simp at h1
    · simp at hc
theorem resL_sim : ∀ {xs : List ResultVar} {ys : List IRes} {us : List Value}, mapO (cres E) xs = some ys → Rel ι s.h w → TR ι s.h.next s.t a.tmps → resL E s ys = some us →
    ∃ vs, (xs.mapM fun x : ResultVar => (match x with
      | .tmp t => (pure (a.tmps.getD t undef) : Sem Value)
      | .cell b t => do loadVar t (← asAddr (a.tmps.getD b undef)))).run E.P w = .ok vs w ∧ VRL ι s.h.next us vs
  | [], ys, us, hc, R, T, he => by
    simp [mapO] at hc; subst hc
    simp [resL] at he; subst he
    exact ⟨[], by simp [Sem.run_pure], rfl, by simp⟩
  | x :: xs, ys, us, hc, R, T, he => by
    simp only [mapO] at hc
    split at hc
    · rename_i y l h1 h2
      injection hc with hc; subst hc
      simp only [resL] at he
      split at he
      · rename_i u us' h3 h4
        injection he with he; subst he
        obtain ⟨v, h5, h6⟩ := res1_sim h1 R T h3
        obtain ⟨vs, h7, h8, h9⟩ := resL_sim h2 R T h4
        refine ⟨v :: vs, ?_, by simp [h8], fun i a b ha hb => ?_⟩
        · rw [List.mapM_cons]
          simp only [Sem.run_bind, Sem.run_pure, Result.andThen]
          rw [h5]
          simp only
          rw [h7]
        · cases i with
          | zero => simp at ha hb; subst ha; subst hb; exact h6
          | succ i => simp at ha hb; exact h9 i a b ha hb
      · simp at he
    · simp at hc
theorem resV_sim {us vs : List Value} {N : Nat} (h : VRL ι N us vs) : VR ι N (resV us) (if h : vs.toArray.size = 1 then vs.toArray[0] else .tuple vs.toArray) := by
  match us, vs, h with
  | [], [], h => exact .tuple _ _ rfl (by simp)
  | [u], [v], h => exact h.2 0 u v rfl rfl
  | u :: u' :: us, v :: v' :: vs, h =>
    have : ¬ (v :: v' :: vs).toArray.size = 1 := by simp
    rw [dif_neg this]
    exact .tuple _ _ (by simpa using h.1) (fun i a b ha hb => h.2 i a b (by simpa using ha) (by simpa using hb))
  | [], _ :: _, h => exact absurd h.1 (by simp)
  | _ :: _, [], h => exact absurd h.1 (by simp)
  | [_], _ :: _ :: _, h => exact absurd h.1 (by simp)
  | _ :: _ :: _, [_], h => exact absurd h.1 (by simp)
theorem unwind_marks {F : Fence} {P : Program} {fn : Func} {tmps : Array Value} {R : Ending → World → Prop} {ι0 : Iota} {h0 : AHeap} {w0 : World}
    (fin : ∀ w, Rel ι h w → Ext ι0 h0 w0 ι h w → ∃ v, (results fn tmps).run P w = .ok v w ∧ R (.returned v) w) : ∀ (Ds : List Nat) (w : World), Ds.Nodup → (∀ D ∈ Ds, w0.heap.size ≤ D ∧ w.heap[D]? = some (.deferred (some [])) ∧ ¬ MutAt ι h D) →
      Rel ι h w → Ext ι0 h0 w0 ι h w → LeavesInM F 0 P fn tmps R (Ds.map fun D => { target := .collected D, args := #[] }) .returning w
  | [], w, _, _, R, X => by simp only [List.map_nil, LeavesInM, LeavesIn]; exact fin w R X
  | D :: Ds, w, hnd, hall, R, X => by
    obtain ⟨h1, h2, h3⟩ := hall D (by simp)
    rw [List.nodup_cons] at hnd
    simp only [List.map_cons, LeavesInM]
    refine ⟨by simp, .inl ⟨D, _, rfl, run_takeDeferred h2, ?_⟩⟩
    refine unwind_marks fin Ds _ hnd.2 (fun d hd => ?_) (R.unseen h2 _) ⟨X.next, X.up, by rw [World.putObj_size]; exact X.size, fun r hr hn => ?_, X.imf, X.os, X.tape, X.output⟩
    · obtain ⟨h4, h5, h6⟩ := hall d (List.mem_cons_of_mem _ hd)
      refine ⟨h4, ?_, h6⟩
      rw [World.putObj_heap_other (fun e => hnd.1 (by rw [← e]; exact hd))]; exact h5
    · obtain ⟨h4, h5⟩ := X.frame r hr hn
      refine ⟨?_, h5⟩
      rw [World.putObj_heap_other (by omega)]; exact h4
theorem icallv_fn {k : Nat} {F : IFn} [H : Has E k F] [M : Mixed E] {xs cs : Array Value} {us : List Value} {Q : Value → AHeap → Prop}
    (hb : ifn E F (xs.toList ++ us ++ cs.toList) h Q) : ICallV E (.func (.func (E.id k)) xs cs) us h Q := by
  intro ι w fv' vs R hf hl
  cases hf with
  | func g _ ys _ ds hs hx hs' hx' =>
    have hfn := H.is
    unfold cfn at hfn
    split at hfn
    · rename_i fn hfu
      split at hfn
      · rename_i code hbd
        split at hfn
        · simp at hfn
        · rename_i hname
          split at hfn
          · rename_i rs c hrs hcc
            injection hfn with hfn
            have e1 : fn.ntmps = F.nt := congrArg IFn.nt hfn
            have e2 : rs = F.res := congrArg IFn.res hfn
            have e3 : c = F.code := congrArg IFn.code hfn
            subst e2; subst e3
            obtain ⟨hlen, hw⟩ := hb
            have hname' : (fn.name == "runtime.NumGoroutine") = false := by simpa using hname
            refine ⟨.enter (E.id k) (ys ++ vs.toArray ++ ds), w, ?_, R, Ext.refl _ _ _, ?_⟩
            · simp only [Deferred.ofValue, Sem.run_bind, Sem.run_pure, Result.andThen, invoke, callFunc, run_program, hfu, hname', hbd, Bool.false_eq_true, if_false, Option.isNone_some]
            · have hsz : (ys ++ vs.toArray ++ ds).size = (xs.toList ++ us ++ cs.toList).length := by
                simp [← hs, ← hs', hl.1]
              refine callsIn_of_wp_marks hfu hbd trivial ?_ rfl
              have hT : TR ι h.next (params 0 (xs.toList ++ us ++ cs.toList)) ((ys ++ vs.toArray ++ ds) ++ Array.replicate (fn.ntmps - (ys ++ vs.toArray ++ ds).size) undef) := by
                intro t u hu
                obtain ⟨_, h2⟩ := look_params _ _ _ _ hu
                simp only [Nat.sub_zero] at h2
                have ht : t < (ys ++ vs.toArray ++ ds).size := by rw [hsz]; exact (List.getElem?_eq_some_iff.1 h2).1
                refine ⟨(ys ++ vs.toArray ++ ds)[t], by rw [Array.getElem?_append_left ht]; exact Array.getElem?_eq_getElem ht, ?_⟩
                have h3 : (ys ++ vs.toArray ++ ds)[t]? = some (ys ++ vs.toArray ++ ds)[t] := Array.getElem?_eq_getElem ht
                generalize (ys ++ vs.toArray ++ ds)[t] = v at h3
                have hly : ys.size = xs.toList.length := by simp [hs]
                rw [Array.getElem?_append] at h3
                rw [List.getElem?_append] at h2
                have e4 : (ys ++ vs.toArray).size = (xs.toList ++ us).length := by simp [hs, hl.1]
                rw [e4] at h3
                split at h3
                · rename_i hlt
                  rw [if_pos hlt] at h2
                  rw [Array.getElem?_append] at h3
                  rw [List.getElem?_append] at h2
                  rw [hly] at h3
                  split at h3
                  · rename_i hlt2
                    rw [if_pos hlt2] at h2
                    exact hx t u v (by simpa using h2) h3
                  · rename_i hlt2
                    rw [if_neg hlt2] at h2
                    exact hl.2 _ u v h2 (by simpa using h3)
                · rename_i hlt
                  rw [if_neg hlt] at h2
                  exact hx' _ u v (by simpa using h2) h3
              have S : SRel fn.ntmps w.heap.size ι ⟨params 0 (xs.toList ++ us ++ cs.toList), h⟩ { tmps := (ys ++ vs.toArray ++ ds) ++ Array.replicate (fn.ntmps - (ys ++ vs.toArray ++ ds).size) undef, defers := [] } w :=
                ⟨R, hT, by simp only [Array.size_append, Array.size_replicate] at hsz ⊢; omega, DefOK.nil⟩
              refine code_sound (r := none) M.is F.code code (.inl rfl) hcc _ _ ι h w (Nat.le_refl _) ?_ ι _ _ w S (Ext.refl _ _ _) hw
              intro e ι' s' a' w' hq S' X'
              have fin : (obind (resL E s' F.res) fun l => Q (resV l) s'.h) → LeavesInM (FR none) 0 E.P fn a'.tmps (Lift Q ι h w) a'.defers .returning w' := by
                intro hq
                obtain ⟨l, h1, h2⟩ := obind_iff.1 hq
                obtain ⟨Ds, hds, hnd, hall⟩ := S'.df
                rw [hds]
                refine unwind_marks (fun w2 R2 X2 => ?_) Ds w' hnd hall S'.rel X'
                obtain ⟨vs', h3, h4⟩ := resL_sim hrs R2 S'.tm h1
                refine ⟨_, ?_, ι', resV l, _, s'.h, rfl, h2, resV_sim h4, R2, X2⟩
                unfold results
                rw [Array.mapM_eq_mapM_toList]
                simp only [Sem.run_bind, Sem.run_pure, Sem.run_map]
                exact congrArg (fun r : Result (List Value) => (r.andThen fun a w' => Result.ok a.toArray w').andThen fun a w' => Result.ok (if h : a.size = 1 then a[0] else Value.tuple a) w') h3
              cases e with
              | exit id => exact hq.elim
              | normal => exact fin hq
              | ret => exact fin hq
          · simp at hfn
      · simp at hfn
    · simp at hfn
theorem icalls_fn {k : Nat} {F : IFn} [H : Has E k F] [M : Mixed E] {us : List Value} {Q : Value → AHeap → Prop} (hb : ifn E F us h Q) : ICalls E k us h Q := icallv_fn (by simpa using hb)
def putL : List (Nat × Value) → List Nat → List Value → List (Nat × Value)
 | t, p :: ps, u :: us => putL (aput t p u) ps us
 | t, _, _ => t
def IExit.jump : IExit → Option Code
 | .normal => none
 | .exit id => some (.exit id)
 | .ret => some .ret
def iround (l : Nat) (Q : Value → AHeap → Prop) (e : IExit) (s : St) : Prop :=
 ∃ L, s.h.get l = some (.loop L) ∧ L.pending ≠ some mapC ∧ Q (.bool e.jump.isNone) (s.h.put l (.loop { L with state := if e.jump.isNone then .ready else .done, pending := e.jump }))
theorem putL_sim {N : Nat} : ∀ {ps : List Nat} {us vs : List Value} {t : List (Nat × Value)} {rt : Array Value}, VRL ι N us vs → us.length = ps.length → (∀ p ∈ ps, p < rt.size) → TR ι N t rt →
    TR ι N (putL t ps us) ((ps.zip vs).foldl (fun tmps (x : Nat × Value) => tmps.setIfInBounds x.1 x.2) rt) ∧ ((ps.zip vs).foldl (fun tmps (x : Nat × Value) => tmps.setIfInBounds x.1 x.2) rt).size = rt.size
  | [], us, vs, t, rt, _, hl, _, T => by
    cases us with
    | nil => exact ⟨T, rfl⟩
    | cons => simp at hl
  | p :: ps, us, vs, t, rt, hv, hl, hp, T => by
    cases us with
    | nil => simp at hl
    | cons u us =>
      cases vs with
      | nil => exact absurd hv.1 (by simp)
      | cons v vs =>
        have h1 := putL_sim (ps := ps) (us := us) (vs := vs) (t := aput t p u) (rt := rt.setIfInBounds p v) ⟨by simpa using hv.1, fun i a b ha hb => hv.2 (i + 1) a b (by simpa using ha) (by simpa using hb)⟩ (by simpa using hl)
          (fun q hq => by rw [Array.size_setIfInBounds]; exact hp q (List.mem_cons_of_mem _ hq)) (T.put (hp p (by simp)) (hv.2 0 u v rfl rfl))
        refine ⟨h1.1, ?_⟩
        have := h1.2
        rw [Array.size_setIfInBounds] at this
        exact this
theorem icallv_yield [M : Mixed E] {l : Nat} {L : ALoop} {us : List Value} {Q : Value → AHeap → Prop} {ia ib : ICode} (hl : h.get l = some (.loop L)) (hlen : us.length = L.params.size) (hp : ∀ p ∈ L.params.toList, p < L.size)
    (ha : ccode E L.size ia L.assign = some ia) (hb : ccode E L.size ib L.body = some ib) (hpa : ia.plain = true) (hpb : ib.plain = true)
    (H : iwp E ia (ithen (fun s1 => ∃ L1, s1.h.get l = some (.loop L1) ∧ L1.state = .ready ∧ iwp E ib (iround l Q) ⟨s1.t, s1.h.put l (.loop { L1 with state := .busy })⟩) (fun _ _ => False)) ⟨putL L.tmps L.params.toList us, h⟩) :
    ICallV E (.func (.yield l) #[] #[]) us h Q := by
  intro ι w fv' vs R hf hvl
  cases hf with
  | yield _ hlt =>
    obtain ⟨o, ho, ⟨hpe, rt, d, fn, rfl, hT, hz⟩ | ⟨ks, rfl, _⟩⟩ := R.loop _ _ hl
    case inr => exact absurd (show ccode E 0 ia mapA = some ia from ha) (by cases ia <;> simp [ccode])
    have hsz : vs.toArray.size = L.params.size := by simp [← hvl.1, hlen]
    have hy : ((do let d ← Deferred.ofValue (.func (.yield (ι l).r) #[] #[]) vs.toArray; invoke d.target d.args) : Sem Next).run E.P w =
        .ok (.round (ι l).r fn ((L.params.zip vs.toArray).foldl (fun tmps (t, a) => tmps.setIfInBounds t a) rt) L.assign L.body) w := by
      simp only [Deferred.ofValue, Sem.run_bind, Sem.run_pure, Result.andThen, invoke]
      rw [run_yield (args := #[] ++ vs.toArray) ho (by simpa using hsz)]
      simp
    refine ⟨_, w, hy, R, Ext.refl _ _ _, ⟨l, rfl⟩, roundIn_of_wpIn trivial ?_⟩
    have hfold : (L.params.zip vs.toArray).foldl (fun tmps (t, a) => tmps.setIfInBounds t a) rt = (L.params.toList.zip vs).foldl (fun tmps (x : Nat × Value) => tmps.setIfInBounds x.1 x.2) rt := by
      rw [← Array.foldl_toList]
      simp
    rw [hfold]
    obtain ⟨hT', hz'⟩ := putL_sim (ι := ι) (N := h.next) hvl (by rw [Array.length_toList]; exact hlen) (fun p hp' => by rw [hz]; exact hp p hp') hT
    have S : SRel L.size w.heap.size ι ⟨putL L.tmps L.params.toList us, h⟩ { tmps := (L.params.toList.zip vs).foldl (fun tmps (x : Nat × Value) => tmps.setIfInBounds x.1 x.2) rt, defers := [] } w := ⟨R, hT', by rw [hz', hz], DefOK.nil⟩
    refine code_sound (r := some (ι l).r) M.is ia L.assign (.inr hpa) ha _ _ ι h w (Nat.le_refl _) ?_ ι _ _ w S (Ext.refl _ _ _) H
    intro e ι1 s1 a1 w1 hq S1 X1
    cases e with
    | exit id => exact hq.elim
    | ret => exact hq.elim
    | normal =>
      obtain ⟨L1, hg1, hs1, H1⟩ := hq
      obtain ⟨o1, ho1, ⟨hpe1, rt1, d1, fn1, rfl, hT1, hz1⟩ | ⟨ks, rfl, _⟩⟩ := S1.rel.loop _ _ hg1
      case inr => cases hs1
      have hι1 : ι1 l = ι l := X1.up.loc l hlt
      obtain ⟨R2, X2⟩ := S1.rel.putObj hg1 (.loop { L1 with state := .busy }) (.loop { state := .busy, pending := L1.pending, fn := fn1, tmps := rt1, params := L1.params, assign := L1.assign, body := L1.body, defers := d1 }) (.inr ⟨_, rfl, ⟨.inl ⟨hpe1, rt1, d1, fn1, rfl, hT1, hz1⟩⟩⟩)
      have hbr := run_beginRound (P := E.P) ho1 hs1
      rw [hι1] at hbr R2 X2
      refine ⟨_, hbr, ?_⟩
      have S2 : SRel L.size w.heap.size ι1 ⟨s1.t, s1.h.put l (.loop { L1 with state := .busy })⟩ a1 _ := ⟨R2, S1.tm, S1.sz, S1.df.ext X2⟩
      refine code_sound (r := some (ι l).r) M.is ib L.body (.inr hpb) hb _ _ ι h w (Nat.le_refl _) ?_ ι1 _ _ _ S2 (X1.trans X2) H1
      intro e ι2 s2 a2 w2 hq S3 X3
      obtain ⟨L2, hg2, hpe2, hQ⟩ := hq
      obtain ⟨o2, ho2, hLR2⟩ := S3.rel.loop _ _ hg2
      obtain ⟨rt2, d2, fn2, rfl, hT2, hz2⟩ := hLR2.loop hpe2
      have hι2 : ι2 l = ι l := X3.up.loc l hlt
      obtain ⟨R4, X4⟩ := S3.rel.putObj hg2 (.loop { L2 with state := if e.jump.isNone then .ready else .done, pending := e.jump }) (.loop { state := if e.jump.isNone then .ready else .done, pending := e.jump, fn := fn2, tmps := rt2, params := L2.params, assign := L2.assign, body := L2.body, defers := d2 }) (.inr ⟨_, rfl, ⟨.inl ⟨(by cases e <;> (intro e; cases e)), rt2, d2, fn2, rfl, hT2, hz2⟩⟩⟩)
      have her := run_endRound (P := E.P) e.jump ho2
      rw [hι2] at her R4 X4
      have fin : ∃ v w', (Instr.endRound (ι l).r e.jump).run E.P w2 = .ok v w' ∧ Lift Q ι h w (.returned v) w' := ⟨_, _, her, ι2, _, _, _, rfl, hQ, .bool _, R4, X3.trans X4⟩
      cases e <;> exact fin
end
end Go.Proofs.Ytjnpdnlgkepmcaa.AM
