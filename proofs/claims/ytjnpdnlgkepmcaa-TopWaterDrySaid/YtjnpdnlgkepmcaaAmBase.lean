/- The abstract memory: values up to a renaming of blocks, slices and pointers by value where nobody turns their cells, a partial view of the heap, and how these stand to a world. Conditions: none. -/
import Derived.CallsIn
import Derived.RangeFuncIn
import Derived.Below
import Derived.Laws.World
import Derived.Test.YtjnpdnlgkepmcaaAmTbl
namespace Go.Proofs.Ytjnpdnlgkepmcaa.AM
set_option linter.unusedSimpArgs false
set_option linter.unusedVariables false
open Go
def VS (z : Nat) (es : List Value) : Value := .func (.via z #[] 0 false) ⟨es⟩ #[]
def VT (z : Nat) (es : List Value) (b : Nat) : Value := .func (.via z #[] b true) ⟨es⟩ #[]
def VZ (z : Nat) : Value := .func (.via z #[] 1 false) ⟨[]⟩ #[]
def VE (z : Nat) : Value := .func (.via z #[] 2 false) ⟨[]⟩ #[]
def VP (e : Value) (off : Nat) : Value := .func (.methodOf off "") ⟨[e]⟩ #[]
structure Loc where
 r : Nat
 f : Nat
 tot : Nat
structure Tok where
 r : Nat
 tot : Nat
 z : Nat
 n : Nat
 none : Bool
def GP (im : Nat → Nat → Option Value) : Prop := ∀ x, x ∈ TBL → ∃ v, im x.1 x.2.1 = some v ∧ x.2.2 v
theorem GP.mono {im im' : Nat → Nat → Option Value} (H : GP im) (h : ∀ r i v, im r i = some v → im' r i = some v) : GP im' := fun x hx => let ⟨v, h1, h2⟩ := H x hx; ⟨v, h _ _ _ h1, h2⟩
def osz (w : World) (r : Nat) : Option Nat := match w.heap[r]? with
 | some (.cells cs _ _) => some cs.size
 | _ => none
def GB (w : World) : Prop := ∀ x, x ∈ TBLS → osz w x.1 = some x.2
theorem osz_heap {w w' : World} {r : Nat} (h : w'.heap[r]? = w.heap[r]?) : osz w' r = osz w r := by unfold osz; rw [h]
theorem osz_lt {w : World} {r n : Nat} (h : osz w r = some n) : r < w.heap.size := by
 unfold osz at h
 split at h
 · rename_i e; exact (Array.getElem?_eq_some_iff.1 e).1
 · cases h
theorem GB.of {w w' : World} (H : GB w) (h : ∀ r, r < w.heap.size → (osz w r).isSome = true → osz w' r = osz w r) : GB w' := fun x hx => by
 have := H x hx
 rw [h x.1 (osz_lt this) (by rw [this]; rfl)]; exact this
theorem GB.alloc {w : World} (H : GB w) (o : Obj) : GB (w.alloc o) := H.of fun r hr _ => osz_heap (by
 show (w.heap.push o)[r]? = _
 simp [Array.getElem?_push, Nat.ne_of_lt hr])
theorem GB.setCell {w : World} (H : GB w) (a : Addr) (v : Value) : GB (w.setCell a v) := H.of fun r hr _ => by
  have h1 : (w.setCell a v).heap[r]? = if a.block = r then w.heap[r]?.map (fun o => match o with
      | .cells c elem frozen => .cells (if a.spot.isSome then c else c.setIfInBounds a.off v) elem frozen
      | o => o) else w.heap[r]? := by
    show (w.heap.modify a.block _)[r]? = _
    rw [Array.getElem?_modify]
    split
    · congr 1
    · rfl
  unfold osz
  rw [h1]
  by_cases e : a.block = r
  · rw [if_pos e]
    cases hh : w.heap[r]? with
    | none => rfl
    | some o =>
      cases o with
      | cells c t f => simp only [Option.map_some]; split <;> simp
      | _ => rfl
  · rw [if_neg e]
theorem GB.setObj {w : World} (H : GB w) {r : Nat} {o : Obj} (hr : osz w r = none) {w' : World} (h : ∀ x, x ≠ r → w'.heap[x]? = w.heap[x]?) : GB w' := H.of fun x _ hs => osz_heap (h x fun e => by subst e; rw [hr] at hs; cases hs)
def GW (w : World) : Prop := GP fun r i => w.cell? ⟨r, i, Option.none⟩
structure Iota where
 loc : Nat → Loc
 tk : Nat → Tok
 im : Nat → Nat → Option Value
 gi : GP im
instance : CoeFun Iota (fun _ => Nat → Loc) := ⟨Iota.loc⟩
def TokAt (t : Tok) (n : Nat) (v : Value) : Prop :=
 (t.none = true ∧ ∃ a, v = .slice a n n) ∨ (t.none = false ∧ ∃ c, v = .slice (some ⟨t.r, 0, none⟩) n c ∧ n ≤ c ∧ c * t.z ≤ t.tot)
inductive VR (ι : Iota) (N : Nat) : Value → Value → Prop
 | bool (b : Bool) : VR ι N (.bool b) (.bool b)
 | int (k : IntKind) (n : Int) : VR ι N (.int k n) (.int k n)
 | str (s : ByteArray) : VR ι N (.string s) (.string s)
 | nilptr : VR ι N (.pointer none) (.pointer none)
 | nilIface : VR ι N .nilIface .nilIface
 | nilFunc : VR ι N .nilFunc .nilFunc
 | nilmap : VR ι N (.map none) (.map none)
 | ptr (b o : Nat) (hb : b < N) : VR ι N (.pointer (some ⟨b, o, none⟩)) (.pointer (some ⟨(ι b).r, (ι b).f + o, none⟩))
 | nilslice : VR ι N (.slice none 0 0) (.slice none 0 0)
 | slice (b o n c : Nat) (a' : Addr) (c' : Nat) (hb : b < N) (ha : c' = 0 ∨ a' = ⟨(ι b).r, (ι b).f + o, none⟩) (hn : n ≤ c') (hc : c = 0 → c' = n)
  (hr : ∀ z, c = z + 2 → o + c' * (z + 1) = (ι b).tot) :
  VR ι N (.slice (some ⟨b, o, none⟩) n c) (.slice (some a') n c')
 | vsn (z : Nat) : VR ι N (VS z []) (.slice none 0 0)
 | vz (z : Nat) (a : Option Addr) : VR ι N (VZ z) (.slice a 0 0)
 | ve (z : Nat) (a' : Addr) (c' : Nat) : VR ι N (VE z) (.slice (some a') 0 c')
 | vs0 (z : Nat) (a' : Addr) (c' : Nat) : VR ι N (VS z []) (.slice (some a') 0 c')
 | vs (z : Nat) (es : List Value) (r f c' : Nat) (hz : 0 < z) (hn : es.length ≤ c') (h0 : ∀ (i : Nat) (e : Value), es[i]? = some e → e.cells.size = z)
  (h1 : ∀ (i j : Nat) (e u : Value), es[i]? = some e → e.cells[j]? = some u → u.oneCell' = true ∧ ∃ v, ι.im r (f + i * z + j) = some v)
  (h : ∀ (i j : Nat) (e u v : Value), es[i]? = some e → e.cells[j]? = some u → ι.im r (f + i * z + j) = some v → VR ι N u v) :
  VR ι N (VS z es) (.slice (some ⟨r, f, none⟩) es.length c')
 | vt (z : Nat) (es : List Value) (b : Nat) (v : Value) (hb : b < N) (h : VR ι N (VS z es) v) (hl : es.length ≤ (ι.tk b).n) (ht : es.length = (ι.tk b).n → TokAt (ι.tk b) es.length v) : VR ι N (VT z es b) v
 | vp (e : Value) (off r f : Nat) (h1 : ∀ (j : Nat) (u : Value), e.cells[j]? = some u → u.oneCell' = true ∧ ∃ v, ι.im r (f + j) = some v)
  (h : ∀ (j : Nat) (u v : Value), e.cells[j]? = some u → ι.im r (f + j) = some v → VR ι N u v) : VR ι N (VP e off) (.pointer (some ⟨r, f + off, none⟩))
 | agg (xs ys : Array Value) (hs : xs.size = ys.size) (h : ∀ (i : Nat) (u v : Value), xs[i]? = some u → ys[i]? = some v → VR ι N u v) : VR ι N (.agg xs) (.agg ys)
 | tuple (xs ys : Array Value) (hs : xs.size = ys.size) (h : ∀ (i : Nat) (u v : Value), xs[i]? = some u → ys[i]? = some v → VR ι N u v) : VR ι N (.tuple xs) (.tuple ys)
 | iface (t : TypeId) (x y : Value) (h : VR ι N x y) : VR ι N (.iface t x) (.iface t y)
 | func (g : FuncId) (xs ys us vs : Array Value) (hs : xs.size = ys.size) (h : ∀ (i : Nat) (u v : Value), xs[i]? = some u → ys[i]? = some v → VR ι N u v)
  (hs' : us.size = vs.size) (h' : ∀ (i : Nat) (u v : Value), us[i]? = some u → vs[i]? = some v → VR ι N u v) : VR ι N (.func (.func g) xs us) (.func (.func g) ys vs)
 | yield (l : Nat) (hl : l < N) : VR ι N (.func (.yield l) #[] #[]) (.func (.yield (ι l).r) #[] #[])
 | map (m : Nat) (hm : m < N) : VR ι N (.map (some m)) (.map (some (ι m).r))
structure Up (N : Nat) (ι ι' : Iota) : Prop where
 loc : ∀ b, b < N → ι' b = ι b
 tk : ∀ b, b < N → ι'.tk b = ι.tk b ∨ (ι.tk b).n < (ι'.tk b).n
 im : ∀ r i v, ι.im r i = some v → ι'.im r i = some v
theorem Up.refl {N : Nat} {ι : Iota} : Up N ι ι := ⟨fun _ _ => rfl, fun _ _ => .inl rfl, fun _ _ _ h => h⟩
theorem Up.trans {N N' : Nat} {ι ι' ι'' : Iota} (a : Up N ι ι') (b : Up N' ι' ι'') (h : N ≤ N') : Up N ι ι'' where
 loc x hx := (b.loc x (by omega)).trans (a.loc x hx)
 tk x hx := by
  rcases b.tk x (by omega) with h1 | h1 <;> rcases a.tk x hx with h2 | h2
  · exact .inl (h1.trans h2)
  · right; rw [h1]; exact h2
  · right; rw [← h2]; exact h1
  · right; omega
 im r i v hv := b.im r i v (a.im r i v hv)
theorem VR.more {ι ι' : Iota} {N N' : Nat} {u v : Value} (h : VR ι N u v) (hN : N ≤ N') (hi : Up N ι ι') : VR ι' N' u v := by
  induction h with
  | bool b => exact .bool b
  | int k n => exact .int k n
  | str s => exact .str s
  | nilptr => exact .nilptr
  | nilIface => exact .nilIface
  | nilFunc => exact .nilFunc
  | nilmap => exact .nilmap
  | ptr b o hb => rw [← hi.loc b hb]; exact .ptr b o (by omega)
  | nilslice => exact .nilslice
  | slice b o n c a' c' hb ha hn hc hr => exact .slice b o n c a' c' (by omega) (by rw [hi.loc b hb]; exact ha) hn hc (by rw [hi.loc b hb]; exact hr)
  | vsn z => exact .vsn z
  | vz z a => exact .vz z a
  | ve z a c => exact .ve z a c
  | vs0 z a' c' => exact .vs0 z a' c'
  | vs z es r f c' hz hn h0 h1 h ih =>
    refine .vs z es r f c' hz hn h0 (fun i j e u he hu => ?_) (fun i j e u v he hu hv => ?_)
    · obtain ⟨h2, v, h3⟩ := h1 i j e u he hu
      exact ⟨h2, v, hi.im _ _ _ h3⟩
    · obtain ⟨_, v', h3⟩ := h1 i j e u he hu
      have h4 := hi.im _ _ _ h3
      rw [h4] at hv; injection hv with hv; subst hv
      exact ih i j e u v' he hu h3
  | vt z es b v hb h hl ht ih =>
    refine .vt z es b v (by omega) ih ?_ ?_
    · rcases hi.tk b hb with h1 | h1
      · rw [h1]; exact hl
      · omega
    · intro he
      rcases hi.tk b hb with h1 | h1
      · rw [h1] at he ⊢; exact ht he
      · omega
  | vp e off r f h1 h ih =>
    refine .vp e off r f (fun j u hu => ?_) (fun j u v hu hv => ?_)
    · obtain ⟨h2, v, h3⟩ := h1 j u hu
      exact ⟨h2, v, hi.im _ _ _ h3⟩
    · obtain ⟨_, v', h3⟩ := h1 j u hu
      have h4 := hi.im _ _ _ h3
      rw [h4] at hv; injection hv with hv; subst hv
      exact ih j u v' hu h3
  | agg xs ys hs h ih => exact .agg xs ys hs ih
  | tuple xs ys hs h ih => exact .tuple xs ys hs ih
  | iface t x y h ih => exact .iface t x y ih
  | func g xs ys us vs hs h hs' h' ih ih' => exact .func g xs ys us vs hs ih hs' ih'
  | yield l hl => rw [← hi.loc l hl]; exact .yield l (by omega)
  | map m hm => rw [← hi.loc m hm]; exact .map m (by omega)
structure ALoop where
 state : LoopState
 pending : Option Code
 tmps : List (Nat × Value)
 size : Nat
 params : Array Tmp
 assign : Code
 body : Code
inductive AObj
 | rw (c : List Value)
 | tail (n z : Nat)
 | dead
 | loop (l : ALoop)
structure AHeap where
 next : Nat
 objs : List (Nat × AObj)
 m : Bool
def look {α : Type} : List (Nat × α) → Nat → Option α
 | [], _ => none
 | (k, v) :: r, n => if n = k then some v else look r n
def AObj.live : AObj → Option AObj
 | .dead => none
 | o => some o
def AHeap.get (h : AHeap) (b : Nat) : Option AObj := (look h.objs b).bind AObj.live
def hput : List (Nat × AObj) → Nat → AObj → List (Nat × AObj)
 | [], n, o => [(n, o)]
 | (k, u) :: r, n, o => if n = k then (k, o) :: r else (k, u) :: hput r n o
theorem look_hput : ∀ (t : List (Nat × AObj)) (n k : Nat) (v : AObj), look (hput t n v) k = if k = n then some v else look t k
  | [], n, k, v => by simp only [hput, look]
  | (j, u) :: t, n, k, v => by
    simp only [hput]
    split
    · rename_i h; subst h
      simp only [look]
      split <;> rfl
    · rename_i h
      simp only [look]
      split
      · rename_i hk; subst hk; rw [if_neg (fun e => h e.symm)]
      · exact look_hput t n k v
def AHeap.put (h : AHeap) (b : Nat) (o : AObj) : AHeap := { h with objs := hput h.objs b o }
def AHeap.alloc (h : AHeap) (o : AObj) : AHeap := { next := h.next + 1, objs := (h.next, o) :: h.objs, m := h.m }
section
variable (h : AHeap) (b c : Nat) (o : AObj)
theorem AHeap.get_put : (h.put b o).get c = if c = b then o.live else h.get c := by
 simp only [AHeap.get, AHeap.put, look_hput]; split <;> simp
theorem AHeap.get_put_same : (h.put b o).get b = o.live := by simp [AHeap.get_put]
theorem AHeap.get_alloc : (h.alloc o).get c = if c = h.next then o.live else h.get c := by
 simp only [AHeap.get, AHeap.alloc, look]; split <;> simp
@[simp] theorem AHeap.next_put : (h.put b o).next = h.next := rfl
@[simp] theorem AHeap.next_alloc : (h.alloc o).next = h.next + 1 := rfl
end
def TR (ι : Iota) (N : Nat) (ts : List (Nat × Value)) (rs : Array Value) : Prop :=
 ∀ t u, look ts t = some u → ∃ v, rs[t]? = some v ∧ VR ι N u v
abbrev mapC : Code := .skip
abbrev mapA : Code := .label 0
def kd : Code → List ByteArray
 | .cond (.const (.string k)) _ r => k :: kd r
 | _ => []
def kc : List ByteArray → Code
 | [] => .skip
 | k :: r => .cond (.const (.string k)) .skip (kc r)
theorem kd_kc : ∀ ks, kd (kc ks) = ks
 | [] => rfl
 | k :: r => by simp only [kc, kd]; rw [kd_kc r]
def mpL (ks : List ByteArray) : ALoop := ⟨.done, some mapC, [], 0, #[], mapA, kc ks⟩
def hasK (ks : List ByteArray) (k : ByteArray) : Bool := ks.any fun x => x == k
def mset (ks : List ByteArray) (k : ByteArray) : List ByteArray := bif hasK ks k then ks else ks ++ [k]
def MPR (ks : List ByteArray) (o : Obj) : Prop := ∃ es clock, o = .map es clock ∧ es.toList.map (·.key) = ks.map .string ∧ ∀ e, e ∈ es.toList → e.val = .bool true
structure LR (ι : Iota) (N : Nat) (l : ALoop) (o : Obj) : Prop where
 is : (l.pending ≠ some mapC ∧ ∃ rt d fn, o = .loop { state := l.state, pending := l.pending, fn := fn, tmps := rt, params := l.params, assign := l.assign, body := l.body, defers := d } ∧ TR ι N l.tmps rt ∧ rt.size = l.size) ∨ ∃ ks, l = mpL ks ∧ MPR ks o
theorem LR.loop {ι : Iota} {N : Nat} {l : ALoop} {o : Obj} (h : LR ι N l o) (hp : l.pending ≠ some mapC) : ∃ rt d fn, o = .loop { state := l.state, pending := l.pending, fn := fn, tmps := rt, params := l.params, assign := l.assign, body := l.body, defers := d } ∧ TR ι N l.tmps rt ∧ rt.size = l.size := by
 rcases h.is with ⟨_, h⟩ | ⟨ks, rfl, _⟩
 · exact h
 · exact absurd rfl hp
theorem LR.mp {ι : Iota} {N : Nat} {ks : List ByteArray} {o : Obj} (h : LR ι N (mpL ks) o) : MPR ks o := by
 rcases h.is with ⟨hp, _⟩ | ⟨ks', e, h⟩
 · exact absurd rfl hp
 · have := congrArg (fun l => kd l.body) e
   simp only [mpL, kd_kc] at this
   subst this; exact h
theorem LR.shape {ι : Iota} {N : Nat} {l : ALoop} {o : Obj} (h : LR ι N l o) : (∃ x, o = .loop x) ∨ ∃ es clock, o = .map es clock := by
 rcases h.is with ⟨_, rt, d, fn, e, _⟩ | ⟨ks, _, es, clock, e, _⟩
 · exact .inl ⟨_, e⟩
 · exact .inr ⟨_, _, e⟩
def CR (ι : Iota) (N : Nat) (b : Nat) (c : List Value) (w : World) : Prop :=
 ∀ (i : Nat) (u : Value), c[i]? = some u → u.oneCell' = true ∧ ∃ v, w.cell? ⟨(ι b).r, (ι b).f + i, none⟩ = some v ∧ VR ι N u v
theorem TR.more {ι ι' : Iota} {N N' : Nat} {ts : List (Nat × Value)} {rs : Array Value} (h : TR ι N ts rs) (hN : N ≤ N') (hi : Up N ι ι') : TR ι' N' ts rs :=
 fun t u hu => let ⟨v, h1, h2⟩ := h t u hu; ⟨v, h1, h2.more hN hi⟩
theorem LR.more {ι ι' : Iota} {N N' : Nat} {l : ALoop} {o : Obj} (h : LR ι N l o) (hN : N ≤ N') (hi : Up N ι ι') : LR ι' N' l o := by
 rcases h.is with ⟨hp, rt, d, fn, h1, h2, h3⟩ | h
 · exact ⟨.inl ⟨hp, rt, d, fn, h1, h2.more hN hi, h3⟩⟩
 · exact ⟨.inr h⟩
theorem CR.more {ι ι' : Iota} {N N' b : Nat} {c : List Value} {w w' : World} (h : CR ι N b c w) (hN : N ≤ N') (hi : Up N ι ι') (hb : ι' b = ι b) (hw : ∀ i v, w.cell? ⟨(ι b).r, (ι b).f + i, none⟩ = some v → w'.cell? ⟨(ι b).r, (ι b).f + i, none⟩ = some v) : CR ι' N' b c w' := by
 intro i u hu
 obtain ⟨h1, v, h2, h3⟩ := h i u hu
 rw [hb]
 exact ⟨h1, v, hw i v h2, h3.more hN hi⟩
def Iota.at (ι : Iota) (b : Nat) : AObj → Option Nat
 | .rw _ | .loop _ => some (ι b).r
 | .tail _ _ => if (ι.tk b).none then none else some (ι.tk b).r
 | .dead => none
structure TailR (t : Tok) (im : Nat → Nat → Option Value) (n z : Nat) (w : World) : Prop where
 hn : t.n = n
 hz : t.z = z
 nil : t.none = true → n = 0 ∨ z = 0
 z0 : z = 0 → t.none = true
 room : t.none = false → n * z ≤ t.tot ∧ ∀ i, i < t.tot → (∃ v, w.cell? ⟨t.r, i, none⟩ = some v) ∧ w.frozen? ⟨t.r, i, none⟩ = false ∧ (n * z ≤ i → im t.r i = none)
structure Rel (ι : Iota) (h : AHeap) (w : World) : Prop where
 lt : ∀ b o, h.get b = some o → b < h.next
 real : ∀ b o r, h.get b = some o → ι.at b o = some r → r < w.heap.size
 rw : ∀ b c, h.get b = some (.rw c) → c.length ≤ (ι b).tot ∧
  (∀ i, i < (ι b).tot → (∃ v, w.cell? ⟨(ι b).r, (ι b).f + i, none⟩ = some v) ∧ w.frozen? ⟨(ι b).r, (ι b).f + i, none⟩ = false ∧ ι.im (ι b).r ((ι b).f + i) = none) ∧ CR ι h.next b c w
 tail : ∀ b n z, h.get b = some (.tail n z) → TailR (ι.tk b) ι.im n z w
 loop : ∀ b l, h.get b = some (.loop l) → ∃ o, w.heap[(ι b).r]? = some o ∧ LR ι h.next l o
 sep : ∀ b o b' o' r, h.get b = some o → ι.at b o = some r → h.get b' = some o' → b' ≠ b → ι.at b' o' ≠ some r
 im : ∀ r i v, ι.im r i = some v → w.cell? ⟨r, i, none⟩ = some v
 gb : GB w
def MutAt (ι : Iota) (h : AHeap) (r : Nat) : Prop := ∃ b o, h.get b = some o ∧ ι.at b o = some r
structure Ext (ι : Iota) (h : AHeap) (w : World) (ι' : Iota) (h' : AHeap) (w' : World) : Prop where
 next : h.next ≤ h'.next
 up : Up h.next ι ι'
 size : w.heap.size ≤ w'.heap.size
 frame : ∀ r, r < w.heap.size → ¬ MutAt ι h r → w'.heap[r]? = w.heap[r]? ∧ ¬ MutAt ι' h' r
 imf : ∀ r i, r < w.heap.size → ¬ MutAt ι h r → ι'.im r i = ι.im r i
 os : w'.os = w.os
 tape : w'.tape = w.tape
 output : w'.output = w.output
theorem Ext.refl (ι : Iota) (h : AHeap) (w : World) : Ext ι h w ι h w := ⟨Nat.le_refl _, .refl, Nat.le_refl _, fun _ _ hn => ⟨rfl, hn⟩, fun _ _ _ _ => rfl, rfl, rfl, rfl⟩
theorem Ext.trans {ι ι' ι'' : Iota} {h h' h'' : AHeap} {w w' w'' : World} (a : Ext ι h w ι' h' w') (b : Ext ι' h' w' ι'' h'' w'') : Ext ι h w ι'' h'' w'' :=
 ⟨Nat.le_trans a.next b.next, a.up.trans b.up a.next, Nat.le_trans a.size b.size,
  fun r hr hn => by
   obtain ⟨h1, h2⟩ := a.frame r hr hn
   obtain ⟨h3, h4⟩ := b.frame r (Nat.lt_of_lt_of_le hr a.size) h2
   exact ⟨h3.trans h1, h4⟩,
  fun r i hr hn => by
   obtain ⟨h1, h2⟩ := a.frame r hr hn
   exact (b.imf r i (Nat.lt_of_lt_of_le hr a.size) h2).trans (a.imf r i hr hn),
  b.os.trans a.os, b.tape.trans a.tape, b.output.trans a.output⟩
theorem Ext.vr {ι ι' : Iota} {h h' : AHeap} {w w' : World} (a : Ext ι h w ι' h' w') {u v : Value} (hv : VR ι h.next u v) : VR ι' h'.next u v := hv.more a.next a.up
theorem Rel.lt_of_im {ι : Iota} {h : AHeap} {w : World} (R : Rel ι h w) {r i : Nat} {v : Value} (hv : ι.im r i = some v) : r < w.heap.size :=
 World.block_lt_of_cell? _ _ (R.im r i v hv)
theorem Rel.sub {ι : Iota} {h h' : AHeap} {w : World} (R : Rel ι h w) (hn : h.next ≤ h'.next) (hs : ∀ b o, h'.get b = some o → h.get b = some o) : Rel ι h' w where
 lt b o hb := Nat.lt_of_lt_of_le (R.lt b o (hs b o hb)) hn
 real b o r hb := R.real b o r (hs b o hb)
 rw b c hb := let ⟨h2, h4, h5⟩ := R.rw b c (hs b _ hb); ⟨h2, h4, h5.more hn .refl rfl fun _ _ h => h⟩
 tail b n z hb := R.tail b n z (hs b _ hb)
 loop b l hb := let ⟨o, h1, h2⟩ := R.loop b l (hs b _ hb); ⟨o, h1, h2.more hn .refl⟩
 sep b o b' o' r hb hm hb' hne := R.sep b o b' o' r (hs b _ hb) hm (hs b' _ hb') hne
 im := R.im
 gb := R.gb
theorem Ext.sub {ι : Iota} {h h' : AHeap} {w : World} (hn : h.next ≤ h'.next) (hs : ∀ b o, h'.get b = some o → h.get b = some o) : Ext ι h w ι h' w :=
 ⟨hn, .refl, Nat.le_refl _, fun _ _ hm => ⟨rfl, fun ⟨b, o, hb, ho⟩ => hm ⟨b, o, hs b o hb, ho⟩⟩, fun _ _ _ _ => rfl, rfl, rfl, rfl⟩
end Go.Proofs.Ytjnpdnlgkepmcaa.AM
