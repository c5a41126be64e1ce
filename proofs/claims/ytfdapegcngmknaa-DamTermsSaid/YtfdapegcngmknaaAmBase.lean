/- The abstract memory: values up to a renaming of blocks, a partial view of the heap, and how both stand to a world. Conditions: none. -/
import Derived.CallsIn
import Derived.RangeFuncIn
import Derived.Below
import Derived.Laws.World
namespace Go.Proofs.Ytfdapegcngmknaa.AM
open Go

/-- Where an abstract block lies: the real block, the offset of its first cell, how many cells it may use from there. -/
structure Loc where
  r : Nat
  f : Nat
  tot : Nat

abbrev Iota := Nat → Loc

/-- An abstract value and a real one. Abstract blocks lie below N. What a slice's abstract capacity is beyond the length is a code: 0: the real capacity is the length; 1: it is not known; z + 1: it is not known, and elements of z cells fit up to it. -/
inductive VR (ι : Iota) (N : Nat) : Value → Value → Prop
  | bool (b : Bool) : VR ι N (.bool b) (.bool b)
  | int (k : IntKind) (n : Int) : VR ι N (.int k n) (.int k n)
  | str (s : ByteArray) : VR ι N (.string s) (.string s)
  | nilptr : VR ι N (.pointer none) (.pointer none)
  | nilIface : VR ι N .nilIface .nilIface
  | nilFunc : VR ι N .nilFunc .nilFunc
  | nilmap : VR ι N (.map none) (.map none)
  | ptr (b o : Nat) (hb : b < N) : VR ι N (.pointer (some ⟨b, o, none⟩)) (.pointer (some ⟨(ι b).r, (ι b).f + o, none⟩))
  | nilslice : VR ι N (.slice none 0 0) (.slice none 0 0)
  | slice (b o n c : Nat) (a' : Addr) (c' : Nat) (hb : b < N) (ha : c' = 0 ∨ a' = ⟨(ι b).r, (ι b).f + o, none⟩) (hn : n ≤ c') (hc : c = 0 → c' = n)
      (hr : ∀ z, c = z + 2 → c' = 0 ∨ o + c' * (z + 1) ≤ (ι b).tot) :
      VR ι N (.slice (some ⟨b, o, none⟩) n (n + c)) (.slice (some a') n c')
  | agg (xs ys : Array Value) (hs : xs.size = ys.size) (h : ∀ (i : Nat) (u v : Value), xs[i]? = some u → ys[i]? = some v → VR ι N u v) : VR ι N (.agg xs) (.agg ys)
  | tuple (xs ys : Array Value) (hs : xs.size = ys.size) (h : ∀ (i : Nat) (u v : Value), xs[i]? = some u → ys[i]? = some v → VR ι N u v) : VR ι N (.tuple xs) (.tuple ys)
  | iface (t : TypeId) (x y : Value) (h : VR ι N x y) : VR ι N (.iface t x) (.iface t y)
  | func (g : FuncId) (xs ys us vs : Array Value) (hs : xs.size = ys.size) (h : ∀ (i : Nat) (u v : Value), xs[i]? = some u → ys[i]? = some v → VR ι N u v)
      (hs' : us.size = vs.size) (h' : ∀ (i : Nat) (u v : Value), us[i]? = some u → vs[i]? = some v → VR ι N u v) : VR ι N (.func (.func g) xs us) (.func (.func g) ys vs)
  | yield (l : Nat) (hl : l < N) : VR ι N (.func (.yield l) #[] #[]) (.func (.yield (ι l).r) #[] #[])
  | map (m : Nat) (hm : m < N) : VR ι N (.map (some m)) (.map (some (ι m).r))

theorem VR.more {ι ι' : Iota} {N N' : Nat} {u v : Value} (h : VR ι N u v) (hN : N ≤ N') (hi : ∀ b, b < N → ι' b = ι b) : VR ι' N' u v := by
  induction h with
  | bool b => exact .bool b
  | int k n => exact .int k n
  | str s => exact .str s
  | nilptr => exact .nilptr
  | nilIface => exact .nilIface
  | nilFunc => exact .nilFunc
  | nilmap => exact .nilmap
  | ptr b o hb => rw [← hi b hb]; exact .ptr b o (by omega)
  | nilslice => exact .nilslice
  | slice b o n c a' c' hb ha hn hc hr => exact .slice b o n c a' c' (by omega) (by rw [hi b hb]; exact ha) hn hc (by rw [hi b hb]; exact hr)
  | agg xs ys hs h ih => exact .agg xs ys hs ih
  | tuple xs ys hs h ih => exact .tuple xs ys hs ih
  | iface t x y h ih => exact .iface t x y ih
  | func g xs ys us vs hs h hs' h' ih ih' => exact .func g xs ys us vs hs ih hs' ih'
  | yield l hl => rw [← hi l hl]; exact .yield l (by omega)
  | map m hm => rw [← hi m hm]; exact .map m (by omega)

theorem lt_of_at {α β : Type} {xs : Array α} {ys : Array β} (hs : xs.size = ys.size) {i : Nat} {u : α} (hu : xs[i]? = some u) : i < ys.size := by
  rw [← hs]; exact (Array.getElem?_eq_some_iff.1 hu).1

/-- What lies below a smaller number was seen once: its blocks are there. -/
theorem VR.drop {ι ι' : Iota} {N N' : Nat} {u v0 v : Value} (h0 : VR ι N u v0) (h : VR ι' N' u v) : VR ι' N u v := by
  induction h0 generalizing v with
  | bool b => cases h; exact .bool b
  | int k n => cases h; exact .int k n
  | str s => cases h; exact .str s
  | nilptr => cases h; exact .nilptr
  | nilIface => cases h; exact .nilIface
  | nilFunc => cases h; exact .nilFunc
  | nilmap => cases h; exact .nilmap
  | ptr b o hb => cases h; exact .ptr b o hb
  | nilslice => cases h; exact .nilslice
  | slice b o n c a' c' hb ha hn hc hr =>
    generalize hm : n + c = m at h
    cases h with
    | slice _ _ _ d a2 c2 hb2 ha2 hn2 hc2 hr2 =>
      obtain rfl : c = d := by omega
      exact .slice b o n c a2 c2 hb ha2 hn2 hc2 hr2
  | agg xs ys hs h0 ih =>
    cases h with
    | agg _ zs hz hh => exact .agg xs zs hz (fun i u v hu hv => ih i u (ys[i]'(lt_of_at hs hu)) hu (Array.getElem?_eq_getElem _) (hh i u v hu hv))
  | tuple xs ys hs h0 ih =>
    cases h with
    | tuple _ zs hz hh => exact .tuple xs zs hz (fun i u v hu hv => ih i u (ys[i]'(lt_of_at hs hu)) hu (Array.getElem?_eq_getElem _) (hh i u v hu hv))
  | iface t x y h0 ih =>
    cases h with
    | iface _ _ z hh => exact .iface t x z (ih hh)
  | func g xs ys us vs hs h0 hs' h0' ih ih' =>
    cases h with
    | func _ _ zs _ ws hz hh hz' hh' =>
      exact .func g xs zs us ws hz (fun i u v hu hv => ih i u (ys[i]'(lt_of_at hs hu)) hu (Array.getElem?_eq_getElem _) (hh i u v hu hv))
        hz' (fun i u v hu hv => ih' i u (vs[i]'(lt_of_at hs' hu)) hu (Array.getElem?_eq_getElem _) (hh' i u v hu hv))
  | yield l hl => cases h; exact .yield l hl
  | map m hm => cases h; exact .map m hm

/-- A loop over a function, as the model keeps it. -/
structure ALoop where
  state : LoopState
  pending : Option Code
  tmps : List (Nat × Value)
  size : Nat
  params : Array Tmp
  assign : Code
  body : Code

inductive AObj
  | ro (c : List Value)
  | rw (c : List Value)
  | dead
  | loop (l : ALoop)

def AObj.isMut : AObj → Bool
  | .ro _ | .dead => false
  | _ => true

structure AHeap where
  next : Nat
  objs : List (Nat × AObj)

def look {α : Type} : List (Nat × α) → Nat → Option α
  | [], _ => none
  | (k, v) :: r, n => if n = k then some v else look r n

def AObj.live : AObj → Option AObj
  | .dead => none
  | o => some o

def AHeap.get (h : AHeap) (b : Nat) : Option AObj := (look h.objs b).bind AObj.live
def hput : List (Nat × AObj) → Nat → AObj → List (Nat × AObj)
  | [], n, o => [(n, o)]
  | (k, u) :: r, n, o => if n = k then (k, o) :: r else (k, u) :: hput r n o
theorem look_hput : ∀ (t : List (Nat × AObj)) (n k : Nat) (v : AObj), look (hput t n v) k = if k = n then some v else look t k
  | [], n, k, v => by simp only [hput, look]
  | (j, u) :: t, n, k, v => by
    simp only [hput]
    split
    · rename_i h; subst h
      simp only [look]
      split <;> rfl
    · rename_i h
      simp only [look]
      split
      · rename_i hk; subst hk; rw [if_neg (fun e => h e.symm)]
      · exact look_hput t n k v
def AHeap.put (h : AHeap) (b : Nat) (o : AObj) : AHeap := { h with objs := hput h.objs b o }
def AHeap.alloc (h : AHeap) (o : AObj) : AHeap := { next := h.next + 1, objs := (h.next, o) :: h.objs }

section
variable (h : AHeap) (b c : Nat) (o : AObj)
theorem AHeap.get_put : (h.put b o).get c = if c = b then o.live else h.get c := by
  simp only [AHeap.get, AHeap.put, look_hput]; split <;> simp
theorem AHeap.get_put_same : (h.put b o).get b = o.live := by simp [AHeap.get_put]
theorem AHeap.get_put_ne (hne : c ≠ b) : (h.put b o).get c = h.get c := by simp [AHeap.get_put, hne]
theorem AHeap.get_alloc : (h.alloc o).get c = if c = h.next then o.live else h.get c := by
  simp only [AHeap.get, AHeap.alloc, look]; split <;> simp
@[simp] theorem AHeap.next_put : (h.put b o).next = h.next := rfl
@[simp] theorem AHeap.next_alloc : (h.alloc o).next = h.next + 1 := rfl
end

/-- How values of a list of slots stand to the slots. -/
def TR (ι : Iota) (N : Nat) (ts : List (Nat × Value)) (rs : Array Value) : Prop :=
  ∀ t u, look ts t = some u → ∃ v, rs[t]? = some v ∧ VR ι N u v

structure LR (ι : Iota) (N : Nat) (l : ALoop) (o : Obj) : Prop where
  is : ∃ rt d fn, o = .loop { state := l.state, pending := l.pending, fn := fn, tmps := rt, params := l.params, assign := l.assign, body := l.body, defers := d } ∧ TR ι N l.tmps rt ∧ rt.size = l.size

/-- A cells' row: the abstract cells c lie from the block's first cell on. -/
def CR (ι : Iota) (N : Nat) (b : Nat) (c : List Value) (w : World) : Prop :=
  ∀ (i : Nat) (u : Value), c[i]? = some u → u.oneCell' = true ∧ ∃ v, w.cell? ⟨(ι b).r, (ι b).f + i, none⟩ = some v ∧ VR ι N u v

structure Rel (ι : Iota) (h : AHeap) (w : World) : Prop where
  lt : ∀ b o, h.get b = some o → b < h.next
  real : ∀ b o, h.get b = some o → (ι b).r < w.heap.size
  ro : ∀ b c, h.get b = some (.ro c) → CR ι h.next b c w
  rw : ∀ b c, h.get b = some (.rw c) → c.length ≤ (ι b).tot ∧
    (∀ i, i < (ι b).tot → (∃ v, w.cell? ⟨(ι b).r, (ι b).f + i, none⟩ = some v) ∧ w.frozen? ⟨(ι b).r, (ι b).f + i, none⟩ = false) ∧ CR ι h.next b c w
  loop : ∀ b l, h.get b = some (.loop l) → ∃ o, w.heap[(ι b).r]? = some o ∧ LR ι h.next l o
  sep : ∀ b o b' o', h.get b = some o → o.isMut = true → h.get b' = some o' → b' ≠ b → (ι b').r ≠ (ι b).r

/-- Which real blocks may turn. -/
def MutAt (ι : Iota) (h : AHeap) (r : Nat) : Prop := ∃ b o, h.get b = some o ∧ o.isMut = true ∧ (ι b).r = r

structure Ext (ι : Iota) (h : AHeap) (w : World) (ι' : Iota) (h' : AHeap) (w' : World) : Prop where
  next : h.next ≤ h'.next
  iota : ∀ b, b < h.next → ι' b = ι b
  size : w.heap.size ≤ w'.heap.size
  frame : ∀ r, r < w.heap.size → ¬ MutAt ι h r → w'.heap[r]? = w.heap[r]? ∧ ¬ MutAt ι' h' r
  os : w'.os = w.os
  tape : w'.tape = w.tape
  output : w'.output = w.output

theorem Ext.refl (ι : Iota) (h : AHeap) (w : World) : Ext ι h w ι h w := ⟨Nat.le_refl _, fun _ _ => rfl, Nat.le_refl _, fun _ _ hn => ⟨rfl, hn⟩, rfl, rfl, rfl⟩

theorem Ext.trans {ι ι' ι'' : Iota} {h h' h'' : AHeap} {w w' w'' : World} (a : Ext ι h w ι' h' w') (b : Ext ι' h' w' ι'' h'' w'') : Ext ι h w ι'' h'' w'' :=
  ⟨Nat.le_trans a.next b.next, fun x hx => (b.iota x (Nat.lt_of_lt_of_le hx a.next)).trans (a.iota x hx), Nat.le_trans a.size b.size,
    fun r hr hn => by
      obtain ⟨h1, h2⟩ := a.frame r hr hn
      obtain ⟨h3, h4⟩ := b.frame r (Nat.lt_of_lt_of_le hr a.size) h2
      exact ⟨h3.trans h1, h4⟩,
    b.os.trans a.os, b.tape.trans a.tape, b.output.trans a.output⟩

theorem Ext.vr {ι ι' : Iota} {h h' : AHeap} {w w' : World} (a : Ext ι h w ι' h' w') {u v : Value} (hv : VR ι h.next u v) : VR ι' h'.next u v := hv.more a.next a.iota

theorem Rel.vr_lt {ι : Iota} {h : AHeap} {w : World} (R : Rel ι h w) {b : Nat} {o : AObj} (hb : h.get b = some o) : b < h.next := R.lt b o hb

/-- A block is left out. -/
theorem Rel.sub {ι : Iota} {h h' : AHeap} {w : World} (R : Rel ι h w) (hn : h.next ≤ h'.next) (hs : ∀ b o, h'.get b = some o → h.get b = some o) : Rel ι h' w where
  lt b o hb := Nat.lt_of_lt_of_le (R.lt b o (hs b o hb)) hn
  real b o hb := R.real b o (hs b o hb)
  ro b c hb i u hu := let ⟨h0, v, h1, h2⟩ := R.ro b c (hs b _ hb) i u hu; ⟨h0, v, h1, h2.more hn fun _ _ => rfl⟩
  rw b c hb := let ⟨h2, h4, h5⟩ := R.rw b c (hs b _ hb); ⟨h2, h4, fun i u hu => let ⟨h0, v, h6, h7⟩ := h5 i u hu; ⟨h0, v, h6, h7.more hn fun _ _ => rfl⟩⟩
  loop b l hb := by
    obtain ⟨o, h1, ⟨rt, d, fn, ho, ht, hz⟩⟩ := R.loop b l (hs b _ hb)
    exact ⟨o, h1, ⟨rt, d, fn, ho, fun t u hu => let ⟨v, h6, h7⟩ := ht t u hu; ⟨v, h6, h7.more hn fun _ _ => rfl⟩, hz⟩⟩
  sep b o b' o' hb hm hb' hne := R.sep b o b' o' (hs b _ hb) hm (hs b' _ hb') hne

end Go.Proofs.Ytfdapegcngmknaa.AM
