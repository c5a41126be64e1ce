/- Runs on closed data: an interpreter with fuel, in a form that the kernel evaluates; what it finds holds. Conditions: none. -/
import Derived.Test.YtgfglinlmnbjbaaGreatAmFn
namespace Go.Proofs.YtgfglinlmnbjbaaGreat.AM
set_option linter.unusedSimpArgs false
set_option linter.unusedVariables false
open Go Go.RowKit
section
variable {α : Type}
def fNat (n : Nat) (k : Nat → α) : α := match n with
 | .zero => k .zero
 | .succ n => k (.succ n)
def fInt (n : Int) (k : Int → α) : α := match n with
 | .ofNat n => fNat n fun n => k (.ofNat n)
 | .negSucc n => fNat n fun n => k (.negSucc n)
def fBytes (l : List UInt8) (k : List UInt8 → α) : α := match l with
 | [] => k []
 | b :: r => fBytes r fun r => k (b :: r)
def f1 (v : Value) (k : Value → α) : α := match v with
 | .int t n => fInt n fun n => k (.int t n)
 | .bool true => k (.bool true)
 | .bool false => k (.bool false)
 | .string ⟨⟨l⟩⟩ => fBytes l fun l => k (.string ⟨⟨l⟩⟩)
 | .pointer (some ⟨b, o, none⟩) => fNat b fun b => fNat o fun o => k (.pointer (some ⟨b, o, none⟩))
 | .slice (some ⟨b, o, none⟩) n m => fNat b fun b => fNat o fun o => fNat n fun n => fNat m fun m => k (.slice (some ⟨b, o, none⟩) n m)
 | v => k v
def fL (l : List Value) (k : List Value → α) : α := match l with
 | [] => k []
 | v :: r => f1 v fun v => fL r fun r => k (v :: r)
def fA (v : Value) (k : Value → α) : α := match v with
 | .agg ⟨l⟩ => fL l fun l => k (.agg ⟨l⟩)
 | v => f1 v k
def fAL (l : List Value) (k : List Value → α) : α := match l with
 | [] => k []
 | v :: r => fA v fun v => fAL r fun r => k (v :: r)
def fV (v : Value) (k : Value → α) : α := match v with
 | .tuple ⟨l⟩ => fAL l fun l => k (.tuple ⟨l⟩)
 | .func g ⟨xs⟩ ⟨us⟩ => fAL xs fun xs => fAL us fun us => k (.func g ⟨xs⟩ ⟨us⟩)
 | .iface t x => fA x fun x => k (.iface t x)
 | v => fA v k
def hputF (t : List (Nat × AObj)) (n : Nat) (o : AObj) (k : List (Nat × AObj) → α) : α := match t with
 | [] => k [(n, o)]
 | (j, u) :: r => if n = j then k ((j, o) :: r) else hputF r n o fun r => k ((j, u) :: r)
def akeepF (t : List (Nat × Value)) (l : List Nat) (k : List (Nat × Value) → α) : α := match l with
  | [] => k []
  | j :: r => match look t j with
    | some v => akeepF t r fun r => k ((j, v) :: r)
    | none => akeepF t r k
def paramsF (i : Nat) (l : List Value) (k : List (Nat × Value) → α) : α := match l with
 | [] => k []
 | v :: r => paramsF (i + 1) r fun r => k ((i, v) :: r)
@[simp] theorem fNat_eq (n : Nat) (k : Nat → α) : fNat n k = k n := by cases n <;> rfl
@[simp] theorem fInt_eq (n : Int) (k : Int → α) : fInt n k = k n := by cases n <;> simp [fInt]
@[simp] theorem fBytes_eq : ∀ (l : List UInt8) (k : List UInt8 → α), fBytes l k = k l
 | [], k => rfl
 | b :: r, k => by simp only [fBytes]; rw [fBytes_eq r]
@[simp] theorem f1_eq (v : Value) (k : Value → α) : f1 v k = k v := by
 unfold f1; split <;> simp
@[simp] theorem fL_eq : ∀ (l : List Value) (k : List Value → α), fL l k = k l
 | [], k => rfl
 | b :: r, k => by simp only [fL, f1_eq]; rw [fL_eq r]
@[simp] theorem fA_eq (v : Value) (k : Value → α) : fA v k = k v := by
 unfold fA; split <;> simp
@[simp] theorem fAL_eq : ∀ (l : List Value) (k : List Value → α), fAL l k = k l
 | [], k => rfl
 | b :: r, k => by simp only [fAL, fA_eq]; rw [fAL_eq r]
@[simp] theorem fV_eq (v : Value) (k : Value → α) : fV v k = k v := by
 unfold fV; split <;> simp
@[simp] theorem hputF_eq : ∀ (t : List (Nat × AObj)) (n : Nat) (o : AObj) (k : List (Nat × AObj) → α), hputF t n o k = k (hput t n o)
  | [], n, o, k => rfl
  | (j, u) :: r, n, o, k => by
    simp only [hputF, hput]
    split
    · rfl
    · rw [hputF_eq r]
@[simp] theorem akeepF_eq (t : List (Nat × Value)) : ∀ (l : List Nat) (k : List (Nat × Value) → α), akeepF t l k = k (akeep t l)
  | [], k => rfl
  | j :: r, k => by
    simp only [akeepF, akeep]
    cases look t j with
    | some v => simp only; rw [akeepF_eq t r]
    | none => simp only; rw [akeepF_eq t r]
@[simp] theorem paramsF_eq : ∀ (l : List Value) (i : Nat) (k : List (Nat × Value) → α), paramsF i l k = k (params i l)
 | [], i, k => rfl
 | v :: r, i, k => by simp only [paramsF, params]; rw [paramsF_eq r]
end
def v1eq : Value → Value → Bool
 | .int k n, .int k' n' => k == k' && n == n'
 | .bool b, .bool b' => b == b'
 | .pointer none, .pointer none => true
 | .pointer (some ⟨b, o, none⟩), .pointer (some ⟨b', o', none⟩) => b == b' && o == o'
 | .slice none 0 0, .slice none 0 0 => true
 | .slice (some ⟨b, o, none⟩) n m, .slice (some ⟨b', o', none⟩) n' m' => b == b' && o == o' && n == n' && m == m'
 | .string ⟨⟨l⟩⟩, .string ⟨⟨l'⟩⟩ => l == l'
 | .nilFunc, .nilFunc => true
 | .nilIface, .nilIface => true
 | .map none, .map none => true
 | _, _ => false
def vLeq : List Value → List Value → Bool
 | [], [] => true
 | x :: r, y :: s => v1eq x y && vLeq r s
 | _, _ => false
def all2 (f : Value → Value → Bool) : List Value → List Value → Bool
 | [], [] => true
 | x :: r, y :: s => f x y && all2 f r s
 | _, _ => false
def veqN : Nat → Value → Value → Bool
  | 0, _, _ => false
  | n + 1, x, y => match x, y with
    | .agg ⟨l⟩, .agg ⟨m⟩ => all2 (veqN n) l m
    | .func (.func f) ⟨xs⟩ ⟨us⟩, .func (.func g) ⟨ys⟩ ⟨vs⟩ => f == g && all2 (veqN n) xs ys && all2 (veqN n) us vs
    | .func (.via z p b t) ⟨xs⟩ ⟨us⟩, .func (.via z' p' b' t') ⟨ys⟩ ⟨vs⟩ => z == z' && p == p' && b == b' && t == t' && all2 (veqN n) xs ys && all2 (veqN n) us vs
    | x, y => v1eq x y
def veq : Value → Value → Bool := veqN 8
theorem v1eq_sound {x y : Value} (h : v1eq x y = true) : x = y := by
 unfold v1eq at h
 split at h <;> simp_all
theorem all2_sound {f : Value → Value → Bool} (hf : ∀ x y, f x y = true → x = y) : ∀ {l m : List Value}, all2 f l m = true → l = m
  | [], [], _ => rfl
  | x :: r, y :: s, h => by
    simp only [all2, Bool.and_eq_true] at h
    rw [hf _ _ h.1, all2_sound hf h.2]
  | [], _ :: _, h => by simp [all2] at h
  | _ :: _, [], h => by simp [all2] at h
theorem veqN_sound : ∀ (n : Nat) (x y : Value), veqN n x y = true → x = y
  | 0, _, _, h => by cases h
  | n + 1, x, y, h => by
    have ih := veqN_sound n
    unfold veqN at h
    split at h
    · rw [all2_sound ih h]
    · simp only [Bool.and_eq_true, beq_iff_eq] at h
      rw [h.1.1, all2_sound ih h.1.2, all2_sound ih h.2]
    · simp only [Bool.and_eq_true, beq_iff_eq] at h
      obtain ⟨⟨⟨⟨⟨h1, h2⟩, h3⟩, h4⟩, h5⟩, h6⟩ := h
      rw [h1, h2, h3, h4, all2_sound ih h5, all2_sound ih h6]
    · exact v1eq_sound h
theorem veq_sound {x y : Value} (h : veq x y = true) : x = y := veqN_sound 8 x y h
def wokB : List Watch → AHeap → Bool
 | [], _ => true
 | x :: r, h => (match levh h x.n x.agg x.b x.o with | some v => veq v x.v | none => false) && wokB r h
theorem wokB_sound : ∀ {W : List Watch} {h : AHeap}, wokB W h = true → WOK W h
  | [], _, _ => trivial
  | x :: r, h, H => by
    simp only [wokB, Bool.and_eq_true] at H
    refine ⟨?_, wokB_sound H.2⟩
    have := H.1
    split at this
    · rename_i v hv; rw [hv, veq_sound this]
    · cases this
def xwNew (s : St) (o : AObj) (v : Nat → Value) (k : Option Value → AHeap → Bool) : Bool := fNat s.h.next fun n => k (some (v n)) ⟨n + 1, (n, o) :: s.h.objs, s.h.m⟩
@[simp] theorem xwNew_eq (s : St) (o : AObj) (v : Nat → Value) (k : Option Value → AHeap → Bool) : xwNew s o v k = k (some (v s.h.next)) (s.h.alloc o) := by
 unfold xwNew; rw [fNat_eq]; rfl
def xwPut (h : AHeap) (b : Nat) (o : AObj) (k : AHeap → Bool) : Bool := hputF h.objs b o fun t => k ⟨h.next, t, h.m⟩
@[simp] theorem xwPut_eq (h : AHeap) (b : Nat) (o : AObj) (k : AHeap → Bool) : xwPut h b o k = k (h.put b o) := by
 unfold xwPut; rw [hputF_eq]; rfl
def ocont {β : Type} (o : Option β) (k : β → Bool) : Bool := match o with
 | some b => k b
 | none => false
@[simp] theorem ocont_bind {β γ : Type} (o : Option β) (f : β → Option γ) (k : γ → Bool) : ocont (o.bind f) k = ocont o fun b => ocont (f b) k := by cases o <;> rfl
def xw (E : Env) (s : St) (op : IOp) (k : Option Value → AHeap → Bool) : Bool :=
  match op with
  | .alloc z => xwNew s (.rw z) (fun n => .pointer (some ⟨n, 0, none⟩)) k
  | .box x => ocont (s.ev E x) fun v => if oneL v.cells.toList = false then false else fL v.cells.toList fun c => xwNew s (.rw c) (fun n => .pointer (some ⟨n, 0, none⟩)) k
  | .s2b x => ocont (s.ev E x) fun v => ocont (vstr v) fun b => fL (b.data.toList.map fun x => .int .u8 x.toNat) fun c => k (some (VS 1 c)) s.h
  | .bslice len esz z parts => ocont (evp E s parts) fun ps => ocont (fillL (replL len z) ps) fun c => if oneL c = false then false else match s.h.m with
    | true => fL c fun c => xwNew s (.rw c) (fun n => mkSl n 0 len (esz + 1)) k
    | false => fAL (chunk len esz c) fun c => xwNew s (.tail len esz) (fun n => VT esz c n) k
  | .store n a x => ocont (s.ev E a) fun a => ocont (vptr a) fun p => ocont (s.ev E x) fun v =>
    match s.h.get p.1 with
    | some (.rw c) => if v.cells.size = n ∧ p.2 + n ≤ c.length ∧ oneL v.cells.toList = true then fL (setCells c p.2 v.cells.toList) fun c => xwPut s.h p.1 (.rw c) fun h => k none h else false
    | _ => false
  | op => ocont (wev E s op) fun r => match r.1 with
    | some v => fV v fun v => k (some v) r.2
    | none => k none r.2
theorem xw_eq (E : Env) (s : St) (op : IOp) (k : Option Value → AHeap → Bool) : xw E s op k = ocont (wev E s op) fun r => k r.1 r.2 := by
  have dflt : (ocont (wev E s op) fun r => match r.1 with
    | some v => fV v fun v => k (some v) r.2
    | none => k none r.2) = ocont (wev E s op) fun r => k r.1 r.2 := by
    congr 1; funext r
    obtain ⟨v, h⟩ := r
    cases v <;> simp
  cases op <;> first | exact dflt | skip
  all_goals simp only [xw, wev, xwNew_eq, xwPut_eq, ocont_bind, fL_eq, fNat_eq, fAL_eq]
  case alloc z => rfl
  case box x =>
    cases s.ev E x with
    | none => rfl
    | some v => simp only [ocont]; split <;> rfl
  case s2b x =>
    cases s.ev E x with
    | none => rfl
    | some v => simp only [ocont]
  case bslice l e z ps =>
    cases evp E s ps with
    | none => rfl
    | some ps => simp only [ocont]; cases fillL (replL l z) ps with
      | none => rfl
      | some c => simp only; split
                  · rfl
                  · cases s.h.m <;> rfl
  case store n a x =>
    cases s.ev E a with
    | none => rfl
    | some a => simp only [ocont]; cases vptr a with
      | none => rfl
      | some p => simp only; cases s.ev E x with
        | none => rfl
        | some v => simp only; cases s.h.get p.1 with
          | none => rfl
          | some o => cases o <;> first | rfl | (simp only; split <;> rfl)
def xx (E : Env) (s : St) (op : IOp) (k : Option Value → AHeap → Bool) : Bool :=
 match op with
 | .load n agg x => ocont (lev E s n agg x) fun v => fA v fun v => k (some v) s.h
 | .alloc z => xw E s (.alloc z) k
 | .box x => xw E s (.box x) k
 | .s2b x => xw E s (.s2b x) k
 | .bslice l e z p => xw E s (.bslice l e z p) k
 | .mslice e b z l c => xw E s (.mslice e b z l c) k
 | .store n a x => xw E s (.store n a x) k
 | .append e b s0 x => xw E s (.append e b s0 x) k
 | .copy e d x => xw E s (.copy e d x) k
 | .appz e b z d x => xw E s (.appz e b z d x) k
 | .clr e z x => xw E s (.clr e z x) k
 | o => ocont (pev E s o) fun v => fV v fun v => k (some v) s.h
theorem xx_eq (E : Env) (s : St) (op : IOp) (k : Option Value → AHeap → Bool) : xx E s op k = ocont (xev E s op) fun r => k r.1 r.2 := by
 cases op <;> simp only [xx, xev, xw_eq, ocont_bind, fA_eq, fV_eq]
 case load n agg x => cases lev E s n agg x <;> rfl
 all_goals first | rfl | (generalize pev E s _ = o; cases o <;> rfl)
end Go.Proofs.YtgfglinlmnbjbaaGreat.AM
