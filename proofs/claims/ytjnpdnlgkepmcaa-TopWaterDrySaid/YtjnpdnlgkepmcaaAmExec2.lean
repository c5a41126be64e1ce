/- Runs on closed data: the interpreter, and that what it finds holds. Conditions: none. -/
import Derived.Test.YtjnpdnlgkepmcaaAmFn
namespace Go.Proofs.Ytjnpdnlgkepmcaa.AM
section
set_option linter.unusedSimpArgs false
set_option linter.unusedVariables false
open Go Go.RowKit
section
variable {α : Type}
def fNat (n : Nat) (k : Nat → α) : α := match n with
 | .zero => k .zero
 | .succ n => k (.succ n)
def fInt (n : Int) (k : Int → α) : α := match n with
 | .ofNat n => fNat n fun n => k (.ofNat n)
 | .negSucc n => fNat n fun n => k (.negSucc n)
def fBytes (l : List UInt8) (k : List UInt8 → α) : α := match l with
 | [] => k []
 | b :: r => fBytes r fun r => k (b :: r)
def f1 (v : Value) (k : Value → α) : α := match v with
 | .int t n => fInt n fun n => k (.int t n)
 | .bool true => k (.bool true)
 | .bool false => k (.bool false)
 | .string ⟨⟨l⟩⟩ => fBytes l fun l => k (.string ⟨⟨l⟩⟩)
 | .pointer (some ⟨b, o, none⟩) => fNat b fun b => fNat o fun o => k (.pointer (some ⟨b, o, none⟩))
 | .slice (some ⟨b, o, none⟩) n m => fNat b fun b => fNat o fun o => fNat n fun n => fNat m fun m => k (.slice (some ⟨b, o, none⟩) n m)
 | v => k v
def fL (l : List Value) (k : List Value → α) : α := match l with
 | [] => k []
 | v :: r => f1 v fun v => fL r fun r => k (v :: r)
def fA (v : Value) (k : Value → α) : α := match v with
 | .agg ⟨l⟩ => fL l fun l => k (.agg ⟨l⟩)
 | v => f1 v k
def fAL (l : List Value) (k : List Value → α) : α := match l with
 | [] => k []
 | v :: r => fA v fun v => fAL r fun r => k (v :: r)
def fV (v : Value) (k : Value → α) : α := match v with
 | .tuple ⟨l⟩ => fAL l fun l => k (.tuple ⟨l⟩)
 | .func g ⟨xs⟩ ⟨us⟩ => fAL xs fun xs => fAL us fun us => k (.func g ⟨xs⟩ ⟨us⟩)
 | .iface t x => fA x fun x => k (.iface t x)
 | v => fA v k
def hputF (t : List (Nat × AObj)) (n : Nat) (o : AObj) (k : List (Nat × AObj) → α) : α := match t with
 | [] => k [(n, o)]
 | (j, u) :: r => if n = j then k ((j, o) :: r) else hputF r n o fun r => k ((j, u) :: r)
def akeepF (t : List (Nat × Value)) (l : List Nat) (k : List (Nat × Value) → α) : α := match l with
  | [] => k []
  | j :: r => match look t j with
    | some v => akeepF t r fun r => k ((j, v) :: r)
    | none => akeepF t r k
def paramsF (i : Nat) (l : List Value) (k : List (Nat × Value) → α) : α := match l with
 | [] => k []
 | v :: r => paramsF (i + 1) r fun r => k ((i, v) :: r)
@[simp] theorem fNat_eq (n : Nat) (k : Nat → α) : fNat n k = k n := by cases n <;> rfl
@[simp] theorem fInt_eq (n : Int) (k : Int → α) : fInt n k = k n := by cases n <;> simp [fInt]
@[simp] theorem fBytes_eq : ∀ (l : List UInt8) (k : List UInt8 → α), fBytes l k = k l
 | [], k => rfl
 | b :: r, k => by simp only [fBytes]; rw [fBytes_eq r]
@[simp] theorem f1_eq (v : Value) (k : Value → α) : f1 v k = k v := by
 unfold f1; split <;> simp
@[simp] theorem fL_eq : ∀ (l : List Value) (k : List Value → α), fL l k = k l
 | [], k => rfl
 | b :: r, k => by simp only [fL, f1_eq]; rw [fL_eq r]
@[simp] theorem fA_eq (v : Value) (k : Value → α) : fA v k = k v := by
 unfold fA; split <;> simp
@[simp] theorem fAL_eq : ∀ (l : List Value) (k : List Value → α), fAL l k = k l
 | [], k => rfl
 | b :: r, k => by simp only [fAL, fA_eq]; rw [fAL_eq r]
@[simp] theorem fV_eq (v : Value) (k : Value → α) : fV v k = k v := by
 unfold fV; split <;> simp
@[simp] theorem hputF_eq : ∀ (t : List (Nat × AObj)) (n : Nat) (o : AObj) (k : List (Nat × AObj) → α), hputF t n o k = k (hput t n o)
  | [], n, o, k => rfl
  | (j, u) :: r, n, o, k => by
    simp only [hputF, hput]
    split
    · rfl
    · rw [hputF_eq r]
@[simp] theorem akeepF_eq (t : List (Nat × Value)) : ∀ (l : List Nat) (k : List (Nat × Value) → α), akeepF t l k = k (akeep t l)
  | [], k => rfl
  | j :: r, k => by
    simp only [akeepF, akeep]
    cases look t j with
    | some v => simp only; rw [akeepF_eq t r]
    | none => simp only; rw [akeepF_eq t r]
@[simp] theorem paramsF_eq : ∀ (l : List Value) (i : Nat) (k : List (Nat × Value) → α), paramsF i l k = k (params i l)
 | [], i, k => rfl
 | v :: r, i, k => by simp only [paramsF, params]; rw [paramsF_eq r]
end
def v1eq : Value → Value → Bool
 | .int k n, .int k' n' => k == k' && n == n'
 | .bool b, .bool b' => b == b'
 | .pointer none, .pointer none => true
 | .pointer (some ⟨b, o, none⟩), .pointer (some ⟨b', o', none⟩) => b == b' && o == o'
 | .slice none 0 0, .slice none 0 0 => true
 | .slice (some ⟨b, o, none⟩) n m, .slice (some ⟨b', o', none⟩) n' m' => b == b' && o == o' && n == n' && m == m'
 | .string ⟨⟨l⟩⟩, .string ⟨⟨l'⟩⟩ => l == l'
 | .nilFunc, .nilFunc => true
 | .nilIface, .nilIface => true
 | .map none, .map none => true
 | _, _ => false
def vLeq : List Value → List Value → Bool
 | [], [] => true
 | x :: r, y :: s => v1eq x y && vLeq r s
 | _, _ => false
def all2 (f : Value → Value → Bool) : List Value → List Value → Bool
 | [], [] => true
 | x :: r, y :: s => f x y && all2 f r s
 | _, _ => false
def veqN : Nat → Value → Value → Bool
  | 0, _, _ => false
  | n + 1, x, y => match x, y with
    | .agg ⟨l⟩, .agg ⟨m⟩ => all2 (veqN n) l m
    | .func (.func f) ⟨xs⟩ ⟨us⟩, .func (.func g) ⟨ys⟩ ⟨vs⟩ => f == g && all2 (veqN n) xs ys && all2 (veqN n) us vs
    | .func (.via z p b t) ⟨xs⟩ ⟨us⟩, .func (.via z' p' b' t') ⟨ys⟩ ⟨vs⟩ => z == z' && p == p' && b == b' && t == t' && all2 (veqN n) xs ys && all2 (veqN n) us vs
    | x, y => v1eq x y
def veq : Value → Value → Bool := veqN 8
theorem v1eq_sound {x y : Value} (h : v1eq x y = true) : x = y := by
 unfold v1eq at h
 split at h <;> simp_all
theorem all2_sound {f : Value → Value → Bool} (hf : ∀ x y, f x y = true → x = y) : ∀ {l m : List Value}, all2 f l m = true → l = m
  | [], [], _ => rfl
  | x :: r, y :: s, h => by
    simp only [all2, Bool.and_eq_true] at h
    rw [hf _ _ h.1, all2_sound hf h.2]
  | [], _ :: _, h => by simp [all2] at h
  | _ :: _, [], h => by simp [all2] at h
theorem veqN_sound : ∀ (n : Nat) (x y : Value), veqN n x y = true → x = y
  | 0, _, _, h => by cases h
  | n + 1, x, y, h => by
    have ih := veqN_sound n
    unfold veqN at h
    split at h
    · rw [all2_sound ih h]
    · simp only [Bool.and_eq_true, beq_iff_eq] at h
      rw [h.1.1, all2_sound ih h.1.2, all2_sound ih h.2]
    · simp only [Bool.and_eq_true, beq_iff_eq] at h
      obtain ⟨⟨⟨⟨⟨h1, h2⟩, h3⟩, h4⟩, h5⟩, h6⟩ := h
      rw [h1, h2, h3, h4, all2_sound ih h5, all2_sound ih h6]
    · exact v1eq_sound h
theorem veq_sound {x y : Value} (h : veq x y = true) : x = y := veqN_sound 8 x y h
def wokB : List Watch → AHeap → Bool
 | [], _ => true
 | x :: r, h => (match wat h x with | some v => veq v x.v | none => false) && wokB r h
theorem wokB_sound : ∀ {W : List Watch} {h : AHeap}, wokB W h = true → WOK W h
  | [], _, _ => trivial
  | x :: r, h, H => by
    simp only [wokB, Bool.and_eq_true] at H
    refine ⟨?_, wokB_sound H.2⟩
    have := H.1
    split at this
    · rename_i v hv; rw [hv, veq_sound this]
    · cases this
def xwNew (s : St) (o : AObj) (v : Nat → Value) (k : Option Value → AHeap → Bool) : Bool := fNat s.h.next fun n => k (some (v n)) ⟨n + 1, (n, o) :: s.h.objs, s.h.m⟩
@[simp] theorem xwNew_eq (s : St) (o : AObj) (v : Nat → Value) (k : Option Value → AHeap → Bool) : xwNew s o v k = k (some (v s.h.next)) (s.h.alloc o) := by
 unfold xwNew; rw [fNat_eq]; rfl
def xwPut (h : AHeap) (b : Nat) (o : AObj) (k : AHeap → Bool) : Bool := hputF h.objs b o fun t => k ⟨h.next, t, h.m⟩
@[simp] theorem xwPut_eq (h : AHeap) (b : Nat) (o : AObj) (k : AHeap → Bool) : xwPut h b o k = k (h.put b o) := by
 unfold xwPut; rw [hputF_eq]; rfl
def ocont {β : Type} (o : Option β) (k : β → Bool) : Bool := match o with
 | some b => k b
 | none => false
@[simp] theorem ocont_bind {β γ : Type} (o : Option β) (f : β → Option γ) (k : γ → Bool) : ocont (o.bind f) k = ocont o fun b => ocont (f b) k := by cases o <;> rfl
def xw (E : Env) (s : St) (op : IOp) (k : Option Value → AHeap → Bool) : Bool :=
  match op with
  | .alloc z => xwNew s (.rw z) (fun n => .pointer (some ⟨n, 0, none⟩)) k
  | .box x => ocont (s.ev E x) fun v => if oneL v.cells.toList = false then false else fL v.cells.toList fun c => xwNew s (.rw c) (fun n => .pointer (some ⟨n, 0, none⟩)) k
  | .s2b x => ocont (s.ev E x) fun v => ocont (vstr v) fun b => fL (b.data.toList.map fun x => .int .u8 x.toNat) fun c => k (some (VS 1 c)) s.h
  | .bslice len esz z parts => ocont (evp E s parts) fun ps => ocont (fillL (replL len z) ps) fun c => if oneL c = false then false else match s.h.m with
    | true => fL c fun c => xwNew s (.rw c) (fun n => mkSl n 0 len (esz + 1)) k
    | false => fAL (chunk len esz c) fun c => xwNew s (.tail len esz) (fun n => VT esz c n) k
  | .store n a x => ocont (s.ev E a) fun a => ocont (vptr a) fun p => ocont (s.ev E x) fun v =>
    match s.h.get p.1 with
    | some (.rw c) => if v.cells.size = n ∧ p.2 + n ≤ c.length ∧ oneL v.cells.toList = true then fL (setCells c p.2 v.cells.toList) fun c => xwPut s.h p.1 (.rw c) fun h => k none h else false
    | _ => false
  | op => ocont (wev E s op) fun r => match r.1 with
    | some v => fV v fun v => k (some v) r.2
    | none => k none r.2
theorem xw_eq (E : Env) (s : St) (op : IOp) (k : Option Value → AHeap → Bool) : xw E s op k = ocont (wev E s op) fun r => k r.1 r.2 := by
  have dflt : (ocont (wev E s op) fun r => match r.1 with
    | some v => fV v fun v => k (some v) r.2
    | none => k none r.2) = ocont (wev E s op) fun r => k r.1 r.2 := by
    congr 1; funext r
    obtain ⟨v, h⟩ := r
    cases v <;> simp
  cases op <;> first | exact dflt | skip
  all_goals simp only [xw, wev, xwNew_eq, xwPut_eq, ocont_bind, fL_eq, fNat_eq, fAL_eq]
  case alloc z => rfl
  case box x =>
    cases s.ev E x with
    | none => rfl
    | some v => simp only [ocont]; split <;> rfl
  case s2b x =>
    cases s.ev E x with
    | none => rfl
    | some v => simp only [ocont]
  case bslice l e z ps =>
    cases evp E s ps with
    | none => rfl
    | some ps => simp only [ocont]; cases fillL (replL l z) ps with
      | none => rfl
      | some c => simp only; split
                  · rfl
                  · cases s.h.m <;> rfl
  case store n a x =>
    cases s.ev E a with
    | none => rfl
    | some a => simp only [ocont]; cases vptr a with
      | none => rfl
      | some p => simp only; cases s.ev E x with
        | none => rfl
        | some v => simp only; cases s.h.get p.1 with
          | none => rfl
          | some o => cases o <;> first | rfl | (simp only; split <;> rfl)
def xx (E : Env) (s : St) (op : IOp) (k : Option Value → AHeap → Bool) : Bool :=
 match op with
 | .load n agg x => ocont (lev E s n agg x) fun v => fA v fun v => k (some v) s.h
 | .alloc z => xw E s (.alloc z) k
 | .box x => xw E s (.box x) k
 | .s2b x => xw E s (.s2b x) k
 | .bslice l e z p => xw E s (.bslice l e z p) k
 | .mslice e b z l c => xw E s (.mslice e b z l c) k
 | .store n a x => xw E s (.store n a x) k
 | .append e b s0 x => xw E s (.append e b s0 x) k
 | .copy e d x => xw E s (.copy e d x) k
 | .appz e b z d x => xw E s (.appz e b z d x) k
 | .clr e z x => xw E s (.clr e z x) k
 | .mp n x y => xw E s (.mp n x y) k
 | o => ocont (pev E s o) fun v => fV v fun v => k (some v) s.h
theorem xx_eq (E : Env) (s : St) (op : IOp) (k : Option Value → AHeap → Bool) : xx E s op k = ocont (xev E s op) fun r => k r.1 r.2 := by
 cases op <;> simp only [xx, xev, xw_eq, ocont_bind, fA_eq, fV_eq]
 case load n agg x => cases lev E s n agg x <;> rfl
 all_goals first | rfl | (generalize pev E s _ = o; cases o <;> rfl)
end
section
set_option linter.unusedSimpArgs false
set_option linter.unusedVariables false
open Go Go.RowKit
section
variable {ι ι' : Iota} {h h' h2 : AHeap} {w w' : World}
theorem Rel.fewer (hn : h2.next = h.next) (hg : ∀ b o, h2.get b = some o → h.get b = some o) (R : Rel ι h w) : Rel ι h2 w where
 lt b o hb := by rw [hn]; exact R.lt b o (hg b o hb)
 real b o r hb ha := R.real b o r (hg b o hb) ha
 rw b c hb := by have := R.rw b c (hg b _ hb); rw [hn]; exact this
 tail b n z hb := R.tail b n z (hg b _ hb)
 loop b l hb := by have := R.loop b l (hg b _ hb); rw [hn]; exact this
 sep b o b' o' r hb ha hb' hne := R.sep b o b' o' r (hg b o hb) ha (hg b' o' hb') hne
 im := R.im
 gb := R.gb
theorem Ext.fewer (hn : h2.next = h'.next) (hg : ∀ b o, h2.get b = some o → h'.get b = some o) (X : Ext ι h w ι' h' w') : Ext ι h w ι' h2 w' where
 next := by rw [hn]; exact X.next
 up := X.up
 size := X.size
 frame r hr hm := ⟨(X.frame r hr hm).1, fun ⟨b, o, hb, ha⟩ => (X.frame r hr hm).2 ⟨b, o, hg b o hb, ha⟩⟩
 imf := X.imf
 os := X.os
 tape := X.tape
 output := X.output
end
theorem Lift.gc {Q Q' : Value → AHeap → Prop} {ι : Iota} {h : AHeap} {w w' : World} {e : Ending} (hq : ∀ u h', Q u h' → ∃ h2 : AHeap, h2.next = h'.next ∧ (∀ b o, h2.get b = some o → h'.get b = some o) ∧ Q' u h2) (H : Lift Q ι h w e w') : Lift Q' ι h w e w' := by
 obtain ⟨ι', u, v, h', h1, h2, h3, h4, h5⟩ := H
 obtain ⟨h6, hn, hg, h7⟩ := hq u h' h2
 exact ⟨ι', u, v, h6, h1, h7, by rw [hn]; exact h3, h4.fewer hn hg, h5.fewer hn hg⟩
theorem ICallV.gc {E : Env} {fv : Value} {us : List Value} {h : AHeap} {Q Q' : Value → AHeap → Prop} (H : ICallV E fv us h Q) (hq : ∀ u h', Q u h' → ∃ h2 : AHeap, h2.next = h'.next ∧ (∀ b o, h2.get b = some o → h'.get b = some o) ∧ Q' u h2) : ICallV E fv us h Q' := by
 intro ι w fv' vs R hf hl
 obtain ⟨nx, w1, h1, h2, h3, h4⟩ := H ι w fv' vs R hf hl
 refine ⟨nx, w1, h1, h2, h3, ?_⟩
 cases nx with
 | enter f args => exact h4.mono fun e w' => Lift.gc hq
 | round l f tmps as bd => exact ⟨h4.1, h4.2.mono fun e w' => Lift.gc hq⟩
 | _ => exact h4
def vrefs : Nat → Value → List Nat
 | 0, _ => []
 | _ + 1, .pointer (some a) => [a.block]
 | _ + 1, .slice (some a) _ _ => [a.block]
 | n + 1, .agg vs => vs.toList.flatMap (vrefs n)
 | n + 1, .tuple vs => vs.toList.flatMap (vrefs n)
 | n + 1, .func (.yield l) xs cs => l :: (xs.toList.flatMap (vrefs n) ++ cs.toList.flatMap (vrefs n))
 | n + 1, .func _ xs cs => xs.toList.flatMap (vrefs n) ++ cs.toList.flatMap (vrefs n)
 | _ + 1, _ => []
def orefs : AObj → List Nat
 | .rw c => c.flatMap (vrefs 4)
 | .loop L => L.tmps.flatMap fun p => vrefs 4 p.2
 | _ => []
def fRefs (n0 : Nat) : List Nat → (List Nat → Bool) → Bool
 | [], k => k []
 | b :: r, k => bif Nat.blt b n0 then fRefs n0 r k else fNat b fun b => fRefs n0 r fun r => k (b :: r)
def memN (b : Nat) : List Nat → Bool
 | [] => false
 | x :: r => bif Nat.beq b x then true else memN b r
def gcK (n0 : Nat) (refs : List Nat) : List (Nat × AObj) → (List (Nat × AObj) → Bool) → Bool
 | [], k => k []
 | (b, o) :: r, k => bif Nat.blt b n0 || memN b refs then gcK n0 refs r fun r => k ((b, o) :: r) else gcK n0 refs r k
theorem gcK_sound {n0 : Nat} {refs : List Nat} : ∀ {l : List (Nat × AObj)} {k : List (Nat × AObj) → Bool}, gcK n0 refs l k = true → ∃ l2, k l2 = true ∧ ∀ b, look l2 b = if (Nat.blt b n0 || memN b refs) = true then look l b else none
  | [], k, H => ⟨[], H, fun b => by simp [look]⟩
  | (b, o) :: r, k, H => by
    simp only [gcK] at H
    cases hb : Nat.blt b n0 || memN b refs with
    | true =>
      rw [hb] at H
      obtain ⟨l2, h1, h2⟩ := gcK_sound (l := r) H
      refine ⟨(b, o) :: l2, h1, fun c => ?_⟩
      simp only [look]
      by_cases hc : c = b
      · subst hc; simp [hb]
      · simp only [hc, if_false]; rw [h2 c]
    | false =>
      rw [hb] at H
      obtain ⟨l2, h1, h2⟩ := gcK_sound (l := r) H
      refine ⟨l2, h1, fun c => ?_⟩
      rw [h2 c]
      simp only [look]
      by_cases hc : c = b
      · subst hc; simp [hb]
      · simp only [hc, if_false]
def gcF (n0 : Nat) (v : Value) (h : AHeap) (k : AHeap → Bool) : Bool :=
 bif Nat.beq h.next n0 then k h else fRefs n0 (vrefs 4 v ++ h.objs.flatMap fun p => orefs p.2) fun refs => gcK n0 refs h.objs fun l => k ⟨h.next, l, h.m⟩
theorem fRefs_sound {n0 : Nat} : ∀ {l : List Nat} {k : List Nat → Bool}, fRefs n0 l k = true → ∃ l2, k l2 = true
  | [], _, H => ⟨[], H⟩
  | b :: r, k, H => by
    simp only [fRefs, fNat_eq] at H
    cases hb : Nat.blt b n0 with
    | true => rw [hb] at H; exact fRefs_sound (l := r) H
    | false =>
      rw [hb] at H
      obtain ⟨l2, h⟩ := fRefs_sound (l := r) H
      exact ⟨_, h⟩
theorem gcF_sound {n0 : Nat} {v : Value} {h : AHeap} {k : AHeap → Bool} (H : gcF n0 v h k = true) : ∃ h2 : AHeap, h2.next = h.next ∧ (∀ b o, h2.get b = some o → h.get b = some o) ∧ k h2 = true := by
  unfold gcF at H
  cases hb : Nat.beq h.next n0 with
  | true => rw [hb] at H; exact ⟨h, rfl, fun _ _ h => h, H⟩
  | false =>
    rw [hb] at H
    obtain ⟨refs, H⟩ := fRefs_sound H
    obtain ⟨l2, h1, h2⟩ := gcK_sound H
    refine ⟨⟨h.next, l2, h.m⟩, rfl, fun b o hb => ?_, h1⟩
    unfold AHeap.get at hb ⊢
    rw [show look (AHeap.mk h.next l2 h.m).objs b = look l2 b from rfl, h2 b] at hb
    split at hb
    · exact hb
    · cases hb
end
section
set_option linter.unusedSimpArgs false
set_option linter.unusedVariables false
open Go Go.RowKit
structure XT where
 E : Env
 fns : List (Nat × IFn)
 hints : List (ICode × ICode)
abbrev XRec := ICode → St → (IExit → St → Bool) → Bool
def xloops (E : Env) (n : Nat) (ca cb : Code) : List (ICode × ICode) → Option (ICode × ICode)
  | [] => none
  | (a, b) :: r => match ccode E n a ca, ccode E n b cb with
    | some ia, some ib => some (ia, ib)
    | _, _ => xloops E n ca cb r
def fTm : List (Nat × Value) → (List (Nat × Value) → Bool) → Bool
 | [], k => k []
 | (n, v) :: r, k => fTm r fun r => k ((n, v) :: r)
theorem fTm_eq : ∀ (t : List (Nat × Value)) (k : List (Nat × Value) → Bool), fTm t k = k t
 | [], _ => rfl
 | (n, v) :: r, k => by simp only [fTm]; rw [fTm_eq r]
def xcall (X : XT) (rec : XRec) (fv : Value) (us : List Value) (h : AHeap) (k : Value → AHeap → Bool) : Bool :=
  match fv with
  | .func (.func f) xs cs => match rlook X.E.tbl f with
    | some key => (X.E.id key == f) && ocont (look X.fns key) fun F => decide ((xs.toList ++ us ++ cs.toList).length ≤ F.nt) && paramsF 0 (xs.toList ++ us ++ cs.toList) fun ts => rec F.code ⟨ts, h⟩ fun e s => match e with
      | .exit _ => false
      | _ => ocont (resL X.E s F.res) fun l => fV (resV l) fun v => gcF h.next v s.h fun h' => k v h'
    | none => false
  | .func (.yield l) xs cs => (xs.size == 0) && (cs.size == 0) && match h.get l with
    | some (.loop ⟨_, _, ts, sz, ps, ca, cb⟩) => (us.length == ps.size) && ps.toList.all (fun p => decide (p < sz)) && ocont (xloops X.E sz ca cb X.hints) fun q => q.1.plain && q.2.plain &&
      fTm (putL ts ps.toList us) fun ts1 => rec q.1 ⟨ts1, h⟩ fun e s1 => match e with
        | .normal => match s1.h.get l with
          | some (.loop ⟨st1, pe1, ts1, sz1, ps1, ca1, cb1⟩) => (st1 == .ready) && xwPut s1.h l (.loop ⟨.busy, pe1, ts1, sz1, ps1, ca1, cb1⟩) fun h1 => rec q.2 ⟨s1.t, h1⟩ fun e s2 => match s2.h.get l with
            | some (.loop ⟨_, pe2, ts2, sz2, ps2, ca2, cb2⟩) => pe2.isNone && match e.jump with
              | none => xwPut s2.h l (.loop ⟨.ready, none, ts2, sz2, ps2, ca2, cb2⟩) fun h2 => k (.bool true) h2
              | some j => xwPut s2.h l (.loop ⟨.done, some j, ts2, sz2, ps2, ca2, cb2⟩) fun h2 => k (.bool false) h2
            | _ => false
          | _ => false
        | _ => false
    | _ => false
  | _ => false
def xgrd (g : Option (Nat × Bool)) (s : St) (p q : Unit → Bool) : Bool :=
 match g with
 | none => p ()
 | some (t, want) => ocont ((look s.t t).bind (gwant want)) fun b => if b then p () else q ()
def xput (t : List (Nat × Value)) : Option Nat → Option Value → (List (Nat × Value) → Bool) → Bool
 | some n, some v, k => k ((n, v) :: t)
 | some n, none, k => k (adel t n)
 | none, _, k => k t
def xstep (X : XT) (rec : XRec) (op : IOp) (s : St) (k : Option Value → AHeap → Bool) : Bool :=
 match op with
 | .call key args => ocont (evs X.E s args) fun us => xcall X rec (.func (.func (X.E.id key)) #[] #[]) us s.h fun v h' => k (some v) h'
 | .callv f args => ocont (s.ev X.E f) fun fv => ocont (evs X.E s args) fun us => xcall X rec fv us s.h fun v h' => k (some v) h'
 | .sliceV e x lo hi mx => xx X.E s (.sliceV e x lo hi mx) k || ocont (sev X.E s e x lo hi mx) fun q => fV q.1 fun v => k (some v) q.2
 | op => xx X.E s op k
def xop (X : XT) (rec : XRec) (g : IOpG) (s : St) (k : St → Bool) : Bool :=
 xgrd g.guard s (fun _ => xstep X rec g.op s fun v h => xput s.t g.dst v fun t => k ⟨t, h⟩) (fun _ => xput s.t g.dst skipV fun t => k ⟨t, s.h⟩)
def xops (X : XT) (rec : XRec) : List IOpG → (St → Bool) → St → Bool
 | [], k, s => k s
 | g :: r, k, s => xop X rec g s fun s => xops X rec r k s
def xdraw (X : XT) (rec : XRec) : DT → List Watch → (St → Bool) → St → Bool
 | .fin, _, k, s => k s
 | .no, _, _, _ => true
 | .rd i g r, W, k, s => xgrd g.guard s (fun _ => ocont (rstep X.E i g.op s W) fun q => fV q.1 fun v => xput s.t g.dst (some v) fun t => xdraw X rec r q.2 k ⟨t, s.h⟩) (fun _ => xput s.t g.dst skipV fun t => xdraw X rec r W k ⟨t, s.h⟩)
 | .wr _ g af r alt, W, k, s => xgrd g.guard s (fun _ => xstep X rec g.op s fun v h' => wokB (unwatch af W) h' && xput s.t g.dst v fun t => xdraw X rec r (unwatch af W) k ⟨t, h'⟩) (fun _ => xput s.t g.dst skipV fun t => xdraw X rec r (unwatch af W) k ⟨t, s.h⟩) && xdraw X rec alt W k s
def xkeep : Option (List Nat) → St → (St → Bool) → Bool
 | none, s, k => k s
 | some l, s, k => akeepF s.t l fun t => k ⟨t, s.h⟩
def xjump (l : Nat) (k : IExit → St → Bool) (t : List (Nat × Value)) (h : AHeap) : Bool :=
  match h.get l with
  | some (.loop L) => !(L.state == .busy) && xwPut h l .dead fun h' => match L.pending with
    | none => k .normal ⟨t, h'⟩
    | some .ret => k .ret ⟨t, h'⟩
    | some (.exit id) => k (.exit id) ⟨t, h'⟩
    | _ => false
  | _ => false
def xstmt (X : XT) (rec : XRec) : ICode → (IExit → St → Bool) → St → Bool
  | .skip, k, s => k .normal s
  | .ops l keep, k, s => xops X rec l (fun s => xkeep keep s fun s => k .normal s) s
  | .draw t keep, k, s => xdraw X rec t [] (fun s => xkeep keep s fun s => k .normal s) s
  | .range n g ps ca cb, k, s => ocont (s.ev X.E g) fun fv => vfn fv && fNat s.h.next fun l => xcall X rec fv [.func (.yield l) #[] #[]] ⟨l + 1, (l, .loop ⟨.ready, none, s.t, n, ps, ca, cb⟩) :: s.h.objs, s.h.m⟩ fun _ h' => xjump l k s.t h'
  | .seq a b, k, s => xstmt X rec a (fun e s => match e with | .normal => xstmt X rec b k s | e => k e s) s
  | .cond c a b, k, s => match (s.ev X.E c).bind vbool with
    | some true => xstmt X rec a k s
    | some false => xstmt X rec b k s
    | none => false
  | .block id a, k, s => xstmt X rec a (fun e s => match e with | .exit id' => if id' = id then k .normal s else k (.exit id') s | e => k e s) s
  | .loop a, k, s => xstmt X rec a (fun e s => match e with | .normal => rec (.loop a) s k | e => k e s) s
  | .exit id, k, s => k (.exit id) s
  | .ret, k, s => k .ret s
def xcode (X : XT) : Nat → XRec
 | 0 => fun _ _ _ => false
 | n + 1 => fun c s k => xstmt X (xcode X n) c k s
section
variable {E : Env}
theorem iops_mono {K K' : St → Prop} (h : ∀ s, K s → K' s) : ∀ {l : List IOpG} {s : St}, iops E l K s → iops E l K' s
 | [], _, H => h _ H
 | _ :: _, _, H => iop1_mono H fun _ H => iops_mono h H
theorem idraw_mono {K K' : St → Prop} (h : ∀ s, K s → K' s) : ∀ {t : DT} {W : List Watch} {s : St}, idraw E t W K s → idraw E t W K' s
 | .fin, _, _, H => h _ H
 | .no, _, _, _ => trivial
 | .rd _ _ _, _, _, H => igrd_mono H (fun H => obind_mono H fun _ H => idraw_mono h H) (fun H => idraw_mono h H)
 | .wr _ _ _ _ _, _, _, H => ⟨igrd_mono H.1 (fun H => istep_mono H fun _ _ H => ⟨H.1, idraw_mono h H.2⟩) (fun H => idraw_mono h H), idraw_mono h H.2⟩
theorem ijump_mono {Q Q' : IExit → St → Prop} (h : ∀ e s, Q e s → Q' e s) {l : Nat} {t : List (Nat × Value)} {hp : AHeap} (H : ijump l Q t hp) : ijump l Q' t hp := by
 obtain ⟨L, h1, h2, h3⟩ := H
 refine ⟨L, h1, h2, ?_⟩
 split at h3
 · exact h _ _ h3
 · exact h _ _ h3
 · exact h _ _ h3
 · exact h3.elim
theorem iwp_mono : ∀ {c : ICode} {Q Q' : IExit → St → Prop} {s : St}, (∀ e s, Q e s → Q' e s) → iwp E c Q s → iwp E c Q' s := by
  intro c
  induction c with
  | skip => exact fun h H => h _ _ H
  | ops l k => exact fun h H => iops_mono (fun _ => h _ _) H
  | draw t k => exact fun h H => idraw_mono (fun _ => h _ _) H
  | range n g ps ca cb => exact fun h H => obind_mono H fun _ H => ⟨H.1, H.2.imp fun _ H => ⟨H.1, H.2.mono fun _ _ => ijump_mono h⟩⟩
  | seq a b ih1 ih2 =>
    intro Q Q' s h H
    refine ih1 (Q := ithen (fun s' => ∃ s2, Recast s.h.next s' s2 ∧ iwp E b Q s2) Q) (fun e s H => ?_) H
    cases e with
    | normal =>
      obtain ⟨s2, h1, h2⟩ := H
      exact ⟨s2, h1, ih2 h h2⟩
    | exit => exact h _ _ H
    | ret => exact h _ _ H
  | cond c a b ih1 ih2 =>
    intro Q Q' s h H
    refine obind_mono H fun t H => ?_
    cases t with
    | true => exact ih1 h H
    | false => exact ih2 h H
  | block id a ih =>
    intro Q Q' s h H
    refine ih (Q := iblk id Q) (fun e s H => ?_) H
    cases e with
    | normal => exact h _ _ H
    | exit id' =>
      unfold iblk at H ⊢
      simp only at H ⊢
      split at H
      · rename_i e; rw [if_pos e]; exact h _ _ H
      · rename_i e; rw [if_neg e]; exact h _ _ H
    | ret => exact h _ _ H
  | loop a ih =>
    rintro Q Q' s h ⟨I, m, s0, h0, h1, h2⟩
    refine ⟨I, m, s0, h0, h1, fun m s hI => ih (fun e s H => ?_) (h2 m s hI)⟩
    cases e with
    | normal => exact H
    | exit => exact h _ _ H
    | ret => exact h _ _ H
  | exit id => exact fun h H => h _ _ H
  | ret => exact fun h H => h _ _ H
end
theorem ocont_true {β : Type} {o : Option β} {k : β → Bool} (h : ocont o k = true) : ∃ b, o = some b ∧ k b = true := by
 cases o with
 | none => cases h
 | some b => exact ⟨b, rfl, h⟩
theorem xput_eq {t : List (Nat × Value)} {d : Option Nat} {v : Option Value} {k : List (Nat × Value) → Bool} : xput t d v k = k (aputO t d v) := by
 cases d <;> cases v <;> rfl
theorem xkeep_eq {l : Option (List Nat)} {s : St} {k : St → Bool} : xkeep l s k = k (ikeep l s) := by
 cases l with
 | none => rfl
 | some l => simp only [xkeep, akeepF_eq]; rfl
section
variable {X : XT} {rec : XRec}
def XT.OK (X : XT) : Prop := ∀ key F, look X.fns key = some F → Has X.E key F
def Sound (X : XT) (rec : XRec) : Prop := ∀ c s k, rec c s k = true → iwp X.E c (fun e s => k e s = true) s
theorem ccode_idem {E : Env} {nt : Nat} : ∀ {h c : _} {r : ICode}, ccode E nt h c = some r → ccode E nt r c = some r := by
  have fill : ∀ {ops : Array Oper} {gs : List IOpG} {t t' : DT}, fillT ops gs t = some t' → fillT ops gs t' = some t' := by
    intro ops gs t
    induction t with
    | fin => intro t' h; simp [fillT] at h; subst h; rfl
    | no => intro t' h; simp [fillT] at h; subst h; rfl
    | rd i g t ih =>
      intro t' h
      simp only [fillT] at h
      split at h
      · rename_i g' t2 h1 h2
        injection h with h; subst h
        simp only [fillT, h1, ih h2]
      · cases h
    | wr i g af t a ih1 ih2 =>
      intro t' h
      simp only [fillT] at h
      split at h
      · rename_i g' t2 a2 h1 h2 h3
        injection h with h; subst h
        simp only [fillT, h1, ih1 h2, ih2 h3]
      · cases h
  intro h
  induction h with
  | skip => intro c r hc; cases c <;> simp [ccode] at hc; subst hc; rfl
  | ret => intro c r hc; cases c <;> simp [ccode] at hc; subst hc; rfl
  | exit id =>
    intro c r hc
    cases c <;> simp [ccode] at hc
    obtain ⟨h1, h2⟩ := hc; subst h1; subst h2; simp [ccode]
  | ops l k =>
    intro c r hc
    cases c with
    | region id ops d =>
      cases d with
      | true => simp [ccode] at hc
      | false =>
        simp only [ccode, Option.map_eq_some_iff] at hc
        obtain ⟨l', h1, rfl⟩ := hc
        simp [ccode, h1]
    | _ => simp [ccode] at hc
  | draw t k =>
    intro c r hc
    cases c with
    | region id ops d =>
      cases d with
      | false => simp [ccode] at hc
      | true =>
        simp only [ccode] at hc
        obtain ⟨gs, h1, hc⟩ := bind_some hc
        obtain ⟨t', h2, hc⟩ := bind_some hc
        split at hc
        · rename_i hd
          injection hc with hc; subst hc
          simp only [ccode, h1, Option.bind_some, fill h2, hd, if_true]
        · cases hc
    | _ => simp [ccode] at hc
  | range n g ps ca cb =>
    intro c r hc
    cases c with
    | rangeFunc g' ps' ca' cb' =>
      simp only [ccode, Option.map_eq_some_iff] at hc
      obtain ⟨g0, h1, rfl⟩ := hc
      simp [ccode, h1]
    | _ => simp [ccode] at hc
  | seq a b ih1 ih2 =>
    intro c r hc
    cases c with
    | seq x y =>
      simp only [ccode] at hc
      obtain ⟨a', h1, hc⟩ := bind_some hc
      rw [Option.map_eq_some_iff] at hc
      obtain ⟨b', h2, rfl⟩ := hc
      simp [ccode, ih1 h1, ih2 h2]
    | _ => simp [ccode] at hc
  | cond o a b ih1 ih2 =>
    intro c r hc
    cases c with
    | cond o' x y =>
      simp only [ccode] at hc
      obtain ⟨o2, h0, hc⟩ := bind_some hc
      obtain ⟨a', h1, hc⟩ := bind_some hc
      rw [Option.map_eq_some_iff] at hc
      obtain ⟨b', h2, rfl⟩ := hc
      simp [ccode, h0, ih1 h1, ih2 h2]
    | _ => simp [ccode] at hc
  | block id a ih =>
    intro c r hc
    cases c with
    | block id' x =>
      simp only [ccode] at hc
      split at hc
      · rename_i hid
        rw [Option.map_eq_some_iff] at hc
        obtain ⟨a', h1, rfl⟩ := hc
        simp [ccode, hid, ih h1]
      · cases hc
    | _ => simp [ccode] at hc
  | loop a ih =>
    intro c r hc
    cases c with
    | loop x =>
      simp only [ccode, Option.map_eq_some_iff] at hc
      obtain ⟨a', h1, rfl⟩ := hc
      simp [ccode, ih h1]
    | _ => simp [ccode] at hc
theorem xloops_spec {E : Env} {n : Nat} {ca cb : Code} {q : ICode × ICode} : ∀ {l : List (ICode × ICode)}, xloops E n ca cb l = some q → ccode E n q.1 ca = some q.1 ∧ ccode E n q.2 cb = some q.2
  | [], h => by cases h
  | (a, b) :: r, h => by
    simp only [xloops] at h
    split at h
    · rename_i ia ib h1 h2
      injection h with h; subst h
      exact ⟨ccode_idem h1, ccode_idem h2⟩
    · exact xloops_spec h
theorem xcall_sound [Mixed X.E] (hX : X.OK) (hr : Sound X rec) {fv : Value} {us : List Value} {h : AHeap} {k : Value → AHeap → Bool} (H : xcall X rec fv us h k = true) : ICallV X.E fv us h (fun v h' => k v h' = true) := by
  unfold xcall at H
  split at H
  · rename_i f xs cs
    split at H
    · rename_i key hkey
      simp only [Bool.and_eq_true, beq_iff_eq] at H
      obtain ⟨hid, H⟩ := H
      obtain ⟨F, hF, H⟩ := ocont_true H
      simp only [Bool.and_eq_true, decide_eq_true_eq, paramsF_eq] at H
      have := hX key F hF
      rw [← hid]
      refine ICallV.gc (Q := fun v h' => (gcF h.next v h' fun h2 => k v h2) = true) (icallv_fn ⟨H.1, iwp_mono (fun e s he => ?_) (hr _ _ _ H.2)⟩) fun v h' hq => gcF_sound hq
      cases e with
      | exit id => cases he
      | normal =>
        obtain ⟨l, h1, h2⟩ := ocont_true he
        rw [fV_eq] at h2
        exact obind_iff.2 ⟨l, h1, h2⟩
      | ret =>
        obtain ⟨l, h1, h2⟩ := ocont_true he
        rw [fV_eq] at h2
        exact obind_iff.2 ⟨l, h1, h2⟩
    · cases H
  · rename_i l xs cs
    simp only [Bool.and_eq_true, beq_iff_eq] at H
    obtain ⟨⟨hx, hc⟩, H⟩ := H
    have hx : xs = #[] := Array.eq_empty_of_size_eq_zero hx
    have hc : cs = #[] := Array.eq_empty_of_size_eq_zero hc
    subst hx; subst hc
    split at H
    · rename_i st0 pe0 ts sz ps ca cb hL
      simp only [Bool.and_eq_true, beq_iff_eq, List.all_eq_true, decide_eq_true_eq] at H
      obtain ⟨⟨hlen, hps⟩, H⟩ := H
      obtain ⟨q, hq, H⟩ := ocont_true H
      simp only [Bool.and_eq_true, fTm_eq] at H
      obtain ⟨⟨hp1, hp2⟩, H⟩ := H
      obtain ⟨hc1, hc2⟩ := xloops_spec hq
      refine icallv_yield (L := ⟨st0, pe0, ts, sz, ps, ca, cb⟩) hL hlen hps hc1 hc2 hp1 hp2 (iwp_mono (fun e s1 he => ?_) (hr _ _ _ H))
      cases e with
      | exit id => cases he
      | ret => cases he
      | normal =>
        simp only at he
        split at he
        · rename_i st1 pe1 ts1 sz1 ps1 ca1 cb1 hL1
          simp only [Bool.and_eq_true, beq_iff_eq, xwPut_eq] at he
          refine ⟨⟨st1, pe1, ts1, sz1, ps1, ca1, cb1⟩, hL1, he.1, iwp_mono (fun e s2 h2 => ?_) (hr _ _ _ he.2)⟩
          split at h2
          · rename_i pe2 ts2 sz2 ps2 ca2 cb2 hL2
            rw [Bool.and_eq_true] at h2
            obtain ⟨hpe, h2⟩ := h2
            refine ⟨_, hL2, ?_, ?_⟩
            · cases pe2 with
              | none => intro e; cases e
              | some x => cases hpe
            cases hj : e.jump with
            | none => rw [hj] at h2; exact h2
            | some j => rw [hj] at h2; exact h2
          · cases h2
        · cases he
    · cases H
  · cases H
theorem xgrd_sound {g : Option (Nat × Bool)} {s : St} {p q : Unit → Bool} {P Q : Prop} (H : xgrd g s p q = true) (hp : p () = true → P) (hq : q () = true → Q) : igrd g s P Q := by
 unfold xgrd at H
 unfold igrd
 split at H
 · exact hp H
 · obtain ⟨b, h1, h2⟩ := ocont_true H
   refine obind_iff.2 ⟨b, h1, ?_⟩
   split at h2
   · rename_i e; rw [if_pos e]; exact hp h2
   · rename_i e; rw [if_neg e]; exact hq h2
theorem xstep_sound [Mixed X.E] (hX : X.OK) (hr : Sound X rec) {op : IOp} {s : St} {k : Option Value → AHeap → Bool} (H : xstep X rec op s k = true) : istep X.E op s (fun v h => k v h = true) := by
 have key : ∀ op, xx X.E s op k = true → obind (xev X.E s op) fun r => k r.1 r.2 = true := fun op H => by
  rw [xx_eq] at H
  obtain ⟨r, h1, h2⟩ := ocont_true H
  exact obind_iff.2 ⟨r, h1, h2⟩
 cases op
 case call key args =>
  obtain ⟨us, h1, h2⟩ := ocont_true H
  exact obind_iff.2 ⟨us, h1, xcall_sound hX hr h2⟩
 case callv f args =>
  obtain ⟨fv, h1, h2⟩ := ocont_true H
  obtain ⟨us, h3, h4⟩ := ocont_true h2
  exact obind_iff.2 ⟨fv, h1, obind_iff.2 ⟨us, h3, xcall_sound hX hr h4⟩⟩
 case sliceV e x lo hi mx =>
  have H : (xx X.E s (.sliceV e x lo hi mx) k || ocont (sev X.E s e x lo hi mx) fun q => fV q.1 fun v => k (some v) q.2) = true := H
  rw [Bool.or_eq_true] at H
  rcases H with H | H
  · exact .inl (key _ H)
  · obtain ⟨v, h1, h2⟩ := ocont_true H
    rw [fV_eq] at h2
    exact .inr (obind_iff.2 ⟨v, h1, h2⟩)
 case alloc z => exact key (.alloc z) H
 case lenA n => exact key (.lenA n) H
 case nope => exact key .nope H
 all_goals exact key _ H
theorem xop_sound [Mixed X.E] (hX : X.OK) (hr : Sound X rec) {g : IOpG} {s : St} {k : St → Bool} (H : xop X rec g s k = true) : iop1 X.E g s (fun s => k s = true) :=
 xgrd_sound H (fun h => istep_mono (xstep_sound hX hr h) fun v h' hh => by rw [xput_eq] at hh; exact hh) (fun h => by rw [xput_eq] at h; exact h)
theorem xops_sound [Mixed X.E] (hX : X.OK) (hr : Sound X rec) {k : St → Bool} : ∀ {l : List IOpG} {s : St}, xops X rec l k s = true → iops X.E l (fun s => k s = true) s
 | [], _, H => H
 | _ :: _, _, H => iop1_mono (xop_sound hX hr H) fun _ H => xops_sound hX hr H
theorem xdraw_sound [Mixed X.E] (hX : X.OK) (hr : Sound X rec) {k : St → Bool} : ∀ {t : DT} {W : List Watch} {s : St}, xdraw X rec t W k s = true → idraw X.E t W (fun s => k s = true) s
  | .fin, _, _, H => H
  | .no, _, _, _ => trivial
  | .rd _ g r, W, s, H => xgrd_sound H (fun h => by
      obtain ⟨q, h1, h2⟩ := ocont_true h
      rw [fV_eq, xput_eq] at h2
      exact obind_iff.2 ⟨q, h1, xdraw_sound hX hr h2⟩) (fun h => by rw [xput_eq] at h; exact xdraw_sound hX hr h)
  | .wr _ g _ r alt, W, s, H => by
    simp only [xdraw, Bool.and_eq_true] at H
    refine ⟨xgrd_sound H.1 (fun h => istep_mono (xstep_sound hX hr h) fun v h' hh => ?_) (fun h => by rw [xput_eq] at h; exact xdraw_sound hX hr h), xdraw_sound hX hr H.2⟩
    simp only [Bool.and_eq_true, xput_eq] at hh
    exact ⟨wokB_sound hh.1, xdraw_sound hX hr hh.2⟩
theorem xstmt_sound [Mixed X.E] (hX : X.OK) : ∀ (c : ICode) (n : Nat), (∀ m, m ≤ n → Sound X (xcode X m)) → ∀ {k : IExit → St → Bool} {s : St}, xstmt X (xcode X n) c k s = true → iwp X.E c (fun e s => k e s = true) s := by
  intro c
  induction c with
  | skip => exact fun n hr k s H => H
  | ret => exact fun n hr k s H => H
  | exit id => exact fun n hr k s H => H
  | ops l keep => exact fun n hr k s H => iops_mono (fun s h => by rw [xkeep_eq] at h; exact h) (xops_sound hX (hr n (Nat.le_refl _)) H)
  | draw t keep => exact fun n hr k s H => idraw_mono (fun s h => by rw [xkeep_eq] at h; exact h) (xdraw_sound hX (hr n (Nat.le_refl _)) H)
  | range m g ps ca cb =>
    intro n hr k s H
    obtain ⟨fv, h1, h2⟩ := ocont_true H
    rw [fNat_eq] at h2
    simp only [Bool.and_eq_true] at h2
    refine obind_iff.2 ⟨fv, h1, h2.1, s.t, .refl, (xcall_sound hX (hr n (Nat.le_refl _)) h2.2).mono fun v h' hh => ?_⟩
    unfold xjump at hh
    split at hh
    · rename_i L hL
      simp only [Bool.and_eq_true, Bool.not_eq_true', beq_eq_false_iff_ne, xwPut_eq] at hh
      refine ⟨L, hL, hh.1, ?_⟩
      have h3 := hh.2
      cases hp : L.pending with
      | none => rw [hp] at h3; exact h3
      | some c =>
        rw [hp] at h3
        cases c <;> first | exact h3 | cases h3
    · cases hh
  | seq a b ih1 ih2 =>
    intro n hr k s H
    show iwp X.E a _ s
    refine iwp_mono (fun e s h => ?_) (ih1 n hr H)
    cases e with
    | normal => exact ⟨_, .refl, ih2 n hr h⟩
    | exit => exact h
    | ret => exact h
  | cond c a b ih1 ih2 =>
    intro n hr k s H
    simp only [xstmt] at H
    split at H
    · rename_i h1; exact obind_iff.2 ⟨true, h1, ih1 n hr H⟩
    · rename_i h1; exact obind_iff.2 ⟨false, h1, ih2 n hr H⟩
    · cases H
  | block id a ih =>
    intro n hr k s H
    show iwp X.E a _ s
    refine iwp_mono (fun e s h => ?_) (ih n hr H)
    cases e with
    | normal => exact h
    | exit id' =>
      simp only [iblk]
      simp only at h
      split at h
      · rename_i e; rw [if_pos e]; exact h
      · rename_i e; rw [if_neg e]; exact h
    | ret => exact h
  | loop a ih =>
    intro n hr k s H
    refine ⟨fun m s => m ≤ n + 1 ∧ xcode X m (.loop a) s k = true, n + 1, s, .refl, ⟨Nat.le_refl _, H⟩, fun m s ⟨hm, hI⟩ => ?_⟩
    cases m with
    | zero => cases hI
    | succ m =>
      refine iwp_mono (fun e s h => ?_) (ih m (fun j hj => hr j (by omega)) hI)
      cases e with
      | normal => exact ⟨m, _, by omega, .refl, by omega, h⟩
      | exit => exact h
      | ret => exact h
theorem xcode_sound [Mixed X.E] (hX : X.OK) (n : Nat) : Sound X (xcode X n) := by
  induction n using Nat.strongRecOn with
  | _ n ih =>
    intro c s k H
    cases n with
    | zero => cases H
    | succ n => exact xstmt_sound hX c n (fun m hm => ih m (by omega)) H
theorem icalls_run [Mixed X.E] (hX : X.OK) {n key : Nat} {us : List Value} {h : AHeap} {k : Value → AHeap → Bool} (H : xcall X (xcode X n) (.func (.func (X.E.id key)) #[] #[]) us h k = true) : ICalls X.E key us h (fun v h' => k v h' = true) :=
 xcall_sound hX (xcode_sound hX n) H
end
end
end Go.Proofs.Ytjnpdnlgkepmcaa.AM
