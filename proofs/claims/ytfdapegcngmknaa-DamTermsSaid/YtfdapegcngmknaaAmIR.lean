/- The small language into which the translated code is put, and what its operations do to the abstract memory. Conditions: none. -/
import Derived.Test.YtfdapegcngmknaaAmMem
namespace Go.Proofs.Ytfdapegcngmknaa.AM
open Go Go.RowKit

structure Env where
  P : Program
  tbl : List (Nat × FuncId)

def rlook : List (Nat × FuncId) → FuncId → Option Nat
  | [], _ => none
  | (k, f) :: r, g => if g = f then some k else rlook r g

def Env.id (E : Env) (k : Nat) : FuncId := (look E.tbl k).getD 0

inductive Opd
  | t (n : Nat)
  | c (v : Value)
  | f (k : Nat)

structure St where
  t : List (Nat × Value)
  h : AHeap

def St.ev (E : Env) (s : St) : Opd → Option Value
  | .t n => look s.t n
  | .c v => some v
  | .f k => some (.func (.func (E.id k)) #[] #[])

def aput : List (Nat × Value) → Nat → Value → List (Nat × Value)
  | t, n, v => (n, v) :: t

def adel : List (Nat × Value) → Nat → List (Nat × Value)
  | [], _ => []
  | (k, u) :: r, n => if n = k then adel r n else (k, u) :: adel r n

def nmem : List Nat → Nat → Bool
  | [], _ => false
  | k :: r, n => if n = k then true else nmem r n

def akeep : List (Nat × Value) → List Nat → List (Nat × Value)
  | [], _ => []
  | (k, u) :: r, l => if nmem l k then (k, u) :: akeep r l else akeep r l

def aputO (t : List (Nat × Value)) : Option Nat → Option Value → List (Nat × Value)
  | some n, some v => aput t n v
  | some n, none => adel t n
  | none, _ => t

/-- Forms of values that are compared part by part. -/
inductive Shp
  | int (k : IntKind)
  | bool
  | str
  | nil
  | fld (off sz : Nat) (s rest : Shp)

def Shp.isAgg : Shp → Bool
  | .nil | .fld .. => true
  | _ => false

def partS (s : Shp) (off sz : Nat) (xs : Array Value) : Option Value :=
  if s.isAgg then some (.agg (xs.extract off (off + sz))) else xs[off]?

def eqS : Shp → Value → Value → Option Bool
  | .int k, .int a x, .int b y => if a = k ∧ b = k then some (x == y) else none
  | .bool, .bool x, .bool y => some (x == y)
  | .str, .string x, .string y => some (x == y)
  | .nil, .agg _, .agg _ => some true
  | .fld off sz s rest, .agg xs, .agg ys =>
    match partS s off sz xs, partS s off sz ys with
    | some a, some b => match eqS s a b with
      | some true => eqS rest (.agg xs) (.agg ys)
      | some false => some false
      | none => none
    | _, _ => none
  | _, _, _ => none

/-- What has a nil. -/
inductive NK
  | sl
  | ptr
  | fn
  | map

inductive IOp
  | mov (x : Opd)
  | pick (c a b : Opd)
  | ibin (op : BinOp) (k : IntKind) (x y : Opd)
  | shift (op : BinOp) (k : IntKind) (x y : Opd)
  | sbin (op : BinOp) (x y : Opd)
  | bbin (neq : Bool) (x y : Opd)
  | nileq (kind : NK) (neq : Bool) (x : Opd)
  | eqv (sh : Shp) (neq : Bool) (x y : Opd)
  | un (op : UnOp) (x : Opd)
  | conv (k : IntKind) (x : Opd)
  | alloc (z : List Value)
  | box (x : Opd)
  | build (z : List Value) (parts : List (Nat × Nat × Opd))
  | s2b (x : Opd)
  | bslice (len esz : Nat) (z : List Value) (parts : List (Nat × Nat × Opd))
  | mslice (esz bytes : Nat) (z : List Value) (l c : Opd)
  | load (n : Nat) (agg : Bool) (x : Opd)
  | store (n : Nat) (a x : Opd)
  | nilchk (x : Opd)
  | faddr (off : Nat) (x : Opd)
  | field (off n : Nat) (agg : Bool) (x : Opd)
  | iaddr (esz : Nat) (x i : Opd)
  | iaddrA (len esz : Nat) (x i : Opd)
  | indexA (len esz : Nat) (agg : Bool) (x i : Opd)
  | indexS (x i : Opd)
  | sliceS (x : Opd) (lo hi : Option Opd)
  | sliceV (esz : Nat) (x : Opd) (lo hi mx : Option Opd)
  | sliceA (len esz : Nat) (x : Opd) (lo hi mx : Option Opd)
  | extract (i : Nat) (x : Opd)
  | lenS (x : Opd)
  | lenV (x : Opd)
  | lenA (n : Nat)
  | append (esz bytes : Nat) (s x : Opd)
  | copy (esz : Nat) (d s : Opd)
  | minmax (mx : Bool) (x : Opd) (rest : List Opd)
  | mkfunc (k : Nat) (first captured : List Opd)
  | call (k : Nat) (args : List Opd)
  | callv (f : Opd) (args : List Opd)

/-! ### Values -/

def ibinv (op : BinOp) (k : IntKind) (a b : Int) : Option Value :=
  match op with
  | .add => some (.int k (k.wrap (a + b)))
  | .sub => some (.int k (k.wrap (a - b)))
  | .mul => some (.int k (k.wrap (a * b)))
  | .quo => if b = 0 then none else some (.int k (k.wrap (a.tdiv b)))
  | .rem => if b = 0 then none else some (.int k (a.tmod b))
  | .and => some (.int k (k.wrap (BitVec.ofInt k.bits a &&& BitVec.ofInt k.bits b).toNat))
  | .or => some (.int k (k.wrap (BitVec.ofInt k.bits a ||| BitVec.ofInt k.bits b).toNat))
  | .xor => some (.int k (k.wrap (BitVec.ofInt k.bits a ^^^ BitVec.ofInt k.bits b).toNat))
  | .andNot => some (.int k (k.wrap (BitVec.ofInt k.bits a &&& ~~~BitVec.ofInt k.bits b).toNat))
  | .eql => some (.bool (a == b))
  | .neq => some (.bool (a != b))
  | .lss => some (.bool (a < b))
  | .leq => some (.bool (a ≤ b))
  | .gtr => some (.bool (a > b))
  | .geq => some (.bool (a ≥ b))
  | _ => none

def vint (k : IntKind) : Value → Option Int
  | .int k' n => if k' = k then some n else none
  | _ => none
def vany : Value → Option Int
  | .int _ n => some n
  | _ => none
def vstr : Value → Option ByteArray
  | .string s => some s
  | _ => none
def vbool : Value → Option Bool
  | .bool b => some b
  | _ => none
def vagg : Value → Option (Array Value)
  | .agg a => some a
  | _ => none
def vptr : Value → Option (Nat × Nat)
  | .pointer (some ⟨b, o, none⟩) => some (b, o)
  | _ => none
def vnil : NK → Value → Option Bool
  | .sl, .slice a _ _ => some a.isNone
  | .ptr, .pointer a => some a.isNone
  | .fn, .nilFunc => some true
  | .fn, .func .. => some false
  | .map, .map a => some a.isNone
  | _, _ => none

def obind {α : Type} (o : Option α) (f : α → Prop) : Prop :=
  match o with
  | some a => f a
  | none => False

def sbinv (op : BinOp) (x y : ByteArray) : Option Value :=
  match op with
  | .add => if x.size + y.size ≤ 9223372036854775807 then some (.string (x ++ y)) else none
  | .eql => some (.bool (x.toList == y.toList))
  | .neq => some (.bool !(x.toList == y.toList))
  | .lss => some (.bool (Op.bytesLess x.toList y.toList))
  | .leq => some (.bool (Op.bytesLess x.toList y.toList || x.toList == y.toList))
  | .gtr => some (.bool !(Op.bytesLess x.toList y.toList || x.toList == y.toList))
  | .geq => some (.bool !(Op.bytesLess x.toList y.toList))
  | _ => none

def fillL (cells : List Value) : List (Nat × Nat × Value) → Option (List Value)
  | [] => some cells
  | (off, size, v) :: rest =>
    if v.cells.size = size ∧ off + size ≤ cells.length then fillL (setCells cells off v.cells.toList) rest else none

def evs (E : Env) (s : St) : List Opd → Option (List Value)
  | [] => some []
  | x :: r => match s.ev E x, evs E s r with
    | some v, some vs => some (v :: vs)
    | _, _ => none

def evp (E : Env) (s : St) : List (Nat × Nat × Opd) → Option (List (Nat × Nat × Value))
  | [] => some []
  | (a, b, x) :: r => match s.ev E x, evp E s r with
    | some v, some vs => some ((a, b, v) :: vs)
    | _, _ => none

/-- A bound of a slice expression: none: what stands in its place. -/
def bnd (E : Env) (s : St) (d : Nat) : Option Opd → Option Nat
  | none => some d
  | some x => match s.ev E x with
    | some (.int _ n) => if 0 ≤ n then some n.toNat else none
    | _ => none

/-- A slice value, abstract: its block and offset, its length, what is known of its capacity. -/
structure Sl where
  base : Option (Nat × Nat)
  len : Nat
  code : Nat

def vsl : Value → Option Sl
  | .slice none 0 0 => some ⟨none, 0, 0⟩
  | .slice (some ⟨b, o, none⟩) n c => if n ≤ c then some ⟨some (b, o), n, c - n⟩ else none
  | _ => none

def mkSl (b o n code : Nat) : Value := .slice (some ⟨b, o, none⟩) n (n + code)

/-- The cells that a slice shows. -/
def AHeap.sl (h : AHeap) (esz : Nat) (s : Sl) : Option (List Value) :=
  match s.base with
  | none => some []
  | some (b, o) => if s.len = 0 then some [] else
    match h.row b with
    | some c => if o + s.len * esz ≤ c.length then some ((c.drop o).take (s.len * esz)) else none
    | none => none

def minmax2 (mx : Bool) : Value → Value → Option Value
  | .int k x, .int k' y => if k = k' then some (.int k (if mx then (if y > x then y else x) else (if y < x then y else x))) else none
  | _, _ => none

def minmaxL (mx : Bool) : Value → List Value → Option Value
  | x, [] => some x
  | x, y :: r => match minmax2 mx x y with
    | some z => minmaxL mx z r
    | none => none

/-- What is known of the capacity of a part of a slice. -/
def resl (max : Bool) (esz code : Nat) (whole : Bool) : Nat :=
  if max then (if whole then 0 else 1) else if code = esz + 1 then code else if code = 0 ∧ whole = true then 0 else 1

/-- What an operation without memory yields. -/
def pev (E : Env) (s : St) : IOp → Option Value
  | .mov x => s.ev E x
  | .pick c a b => ((s.ev E c).bind vbool).bind fun t => if t then s.ev E a else s.ev E b
  | .ibin op k x y => ((s.ev E x).bind (vint k)).bind fun a => ((s.ev E y).bind (vint k)).bind fun b => ibinv op k a b
  | .shift op k x y => ((s.ev E x).bind (vint k)).bind fun a => ((s.ev E y).bind vany).bind fun b =>
    if b < 0 then none else match op with
      | .shl => some (.int k (k.wrap (a * 2 ^ (min b.toNat k.bits))))
      | .shr => some (.int k (a.fdiv (2 ^ (min b.toNat k.bits))))
      | _ => none
  | .sbin op x y => ((s.ev E x).bind vstr).bind fun a => ((s.ev E y).bind vstr).bind fun b => sbinv op a b
  | .bbin neq x y => ((s.ev E x).bind vbool).bind fun a => ((s.ev E y).bind vbool).bind fun b => some (.bool (if neq then !(a == b) else a == b))
  | .nileq kind neq x => ((s.ev E x).bind (vnil kind)).bind fun a => some (.bool (if neq then !a else a))
  | .eqv sh neq x y => (s.ev E x).bind fun a => (s.ev E y).bind fun b => (eqS sh a b).bind fun e => some (.bool (if neq then !e else e))
  | .un op x => (s.ev E x).bind fun a => match op, a with
    | .neg, .int k n => some (.int k (k.wrap (0 - n)))
    | .not, .bool b => some (.bool !b)
    | .xor, .int k n => some (.int k (k.wrap (BitVec.ofInt k.bits (if k.signed then -1 else k.max) ^^^ BitVec.ofInt k.bits n).toNat))
    | _, _ => none
  | .conv k x => ((s.ev E x).bind vany).bind fun a => some (.int k (k.wrap a))
  | .build z parts => (evp E s parts).bind fun ps => (fillL z ps).bind fun c => some (.agg c.toArray)
  | .nilchk x => (s.ev E x).bind fun a => match a with
    | .pointer (some p) => some (.pointer (some p))
    | .func (.func g) xs us => some (.func (.func g) xs us)
    | _ => none
  | .faddr off x => ((s.ev E x).bind vptr).bind fun p => some (.pointer (some ⟨p.1, p.2 + off, none⟩))
  | .field off n agg x => ((s.ev E x).bind vagg).bind fun a => if agg then some (.agg (a.extract off (off + n))) else a[off]?
  | .iaddr esz x i => ((s.ev E x).bind vsl).bind fun a => ((s.ev E i).bind vany).bind fun i =>
    match a.base with
    | some (b, o) => if 0 ≤ i ∧ i < a.len then some (.pointer (some ⟨b, o + i.toNat * esz, none⟩)) else none
    | none => none
  | .iaddrA len esz x i => ((s.ev E x).bind vptr).bind fun p => ((s.ev E i).bind vany).bind fun i =>
    if 0 ≤ i ∧ i < len then some (.pointer (some ⟨p.1, p.2 + i.toNat * esz, none⟩)) else none
  | .indexA len esz agg x i => ((s.ev E x).bind vagg).bind fun a => ((s.ev E i).bind vany).bind fun i =>
    if 0 ≤ i ∧ i < len then (if agg then some (.agg (a.extract (i.toNat * esz) (i.toNat * esz + esz))) else a[i.toNat * esz]?) else none
  | .indexS x i => ((s.ev E x).bind vstr).bind fun a => ((s.ev E i).bind vany).bind fun i =>
    if 0 ≤ i then (match a[i.toNat]? with | some b => some (.int .u8 b.toNat) | none => none) else none
  | .sliceS x lo hi => ((s.ev E x).bind vstr).bind fun a => (bnd E s 0 lo).bind fun l => (bnd E s a.size hi).bind fun h =>
    if l ≤ h ∧ h ≤ a.size then some (.string (a.extract l h)) else none
  | .sliceV esz x lo hi mx => ((s.ev E x).bind vsl).bind fun a => (bnd E s 0 lo).bind fun l => (bnd E s a.len hi).bind fun h => (bnd E s a.len mx).bind fun m =>
    if l ≤ h ∧ h ≤ m ∧ m ≤ a.len then
      (match a.base with
       | none => some (.slice none 0 0)
       | some (b, o) => some (mkSl b (o + l * esz) (h - l) (resl (mx.isSome) esz a.code (if mx.isSome then m == h else h == a.len))))
    else none
  | .sliceA len esz x lo hi mx => ((s.ev E x).bind vptr).bind fun p => (bnd E s 0 lo).bind fun l => (bnd E s len hi).bind fun h => (bnd E s len mx).bind fun m =>
    if l ≤ h ∧ h ≤ m ∧ m ≤ len ∧ m = h then some (mkSl p.1 (p.2 + l * esz) (h - l) 0) else none
  | .extract i x => (s.ev E x).bind fun a => match a with
    | .tuple vs => vs[i]?
    | _ => none
  | .lenS x => ((s.ev E x).bind vstr).bind fun a => some (.int .i64 a.size)
  | .lenV x => ((s.ev E x).bind vsl).bind fun a => some (.int .i64 a.len)
  | .lenA n => some (.int .i64 n)
  | .minmax mx x rest => (s.ev E x).bind fun a => (evs E s rest).bind fun l => minmaxL mx a l
  | .mkfunc k first captured => (evs E s first).bind fun a => (evs E s captured).bind fun b => some (.func (.func (E.id k)) a.toArray b.toArray)
  | _ => none

/-- What a load yields. -/
def lev (E : Env) (s : St) (n : Nat) (agg : Bool) (x : Opd) : Option Value :=
  ((s.ev E x).bind vptr).bind fun p => (s.h.row p.1).bind fun c =>
    if agg then (if p.2 + n ≤ c.length then some (.agg ((c.drop p.2).take n).toArray) else none) else c[p.2]?

def oneL : List Value → Bool
  | [] => true
  | v :: r => v.oneCell' && oneL r

def replL (n : Nat) (z : List Value) : List Value := (List.replicate n z).flatten

/-- What an operation that writes or makes memory does. -/
def wev (E : Env) (s : St) : IOp → Option (Option Value × AHeap)
  | .alloc z => some (some (.pointer (some ⟨s.h.next, 0, none⟩)), s.h.alloc (.rw z))
  | .box x => (s.ev E x).bind fun v => if oneL v.cells.toList = false then none else some (some (.pointer (some ⟨s.h.next, 0, none⟩)), s.h.alloc (.rw v.cells.toList))
  | .s2b x => ((s.ev E x).bind vstr).bind fun b => some (some (mkSl s.h.next 0 b.size 1), s.h.alloc (.ro (b.data.toList.map fun x => .int .u8 x.toNat)))
  | .bslice len _ z parts => (evp E s parts).bind fun ps => (fillL (replL len z) ps).bind fun c =>
    if oneL c = false then none else some (some (mkSl s.h.next 0 len 0), s.h.alloc (.rw c))
  | .mslice esz bytes z l c => ((s.ev E l).bind (vint .i64)).bind fun l => ((s.ev E c).bind (vint .i64)).bind fun c =>
    if 0 ≤ l ∧ l ≤ c ∧ c * bytes ≤ 1099511627776 ∧ c ≤ 1099511627776 then some (some (mkSl s.h.next 0 l.toNat (if l = c then 0 else esz + 1)), s.h.alloc (.rw (replL l.toNat z))) else none
  | .store n a x => ((s.ev E a).bind vptr).bind fun p => (s.ev E x).bind fun v =>
    match s.h.get p.1 with
    | some (.rw c) => if v.cells.size = n ∧ p.2 + n ≤ c.length ∧ oneL v.cells.toList = true then some (none, s.h.put p.1 (.rw (setCells c p.2 v.cells.toList))) else none
    | _ => none
  | .append esz bytes s0 x => ((s.ev E s0).bind vsl).bind fun a => (s.ev E x).bind fun xv => (vsl xv).bind fun b => (s.h.sl esz b).bind fun news =>
    if b.len = 0 then (s.ev E s0).bind fun v => some (some v, s.h)
    else if (a.len + b.len) * bytes ≤ 1099511627776 ∧ a.len + b.len ≤ 1099511627776 then
      match a.base with
      | none => some (some (mkSl s.h.next 0 b.len (esz + 1)), s.h.alloc (.rw news))
      | some (blk, o) =>
        if a.code = 0 then (s.h.sl esz a).bind fun olds => some (some (mkSl s.h.next 0 (a.len + b.len) (esz + 1)), s.h.alloc (.rw (olds ++ news)))
        else match s.h.get blk with
          | some (.rw c) => if a.code = esz + 1 ∧ o + a.len * esz = c.length then
              some (some (mkSl s.h.next 0 (a.len + b.len) (esz + 1)), (s.h.put blk .dead).alloc (.rw (c.drop o ++ news))) else none
          | _ => none
    else none
  | .copy esz d x => ((s.ev E d).bind vsl).bind fun a => ((s.ev E x).bind vsl).bind fun b => (s.h.sl esz ⟨b.base, min a.len b.len, 0⟩).bind fun news =>
    match a.base with
    | none => some (some (.int .i64 0), s.h)
    | some (blk, o) => if min a.len b.len = 0 then some (some (.int .i64 0), s.h) else match s.h.get blk with
      | some (.rw c) => if o + min a.len b.len * esz ≤ c.length then some (some (.int .i64 ((min a.len b.len : Nat) : Int)), s.h.put blk (.rw (setCells c o news))) else none
      | _ => none
  | _ => none

def xev (E : Env) (s : St) : IOp → Option (Option Value × AHeap)
  | .load n agg x => (lev E s n agg x).bind fun v => some (some v, s.h)
  | .alloc z => wev E s (.alloc z)
  | .box x => wev E s (.box x)
  | .s2b x => wev E s (.s2b x)
  | .bslice l e z p => wev E s (.bslice l e z p)
  | .mslice e b z l c => wev E s (.mslice e b z l c)
  | .store n a x => wev E s (.store n a x)
  | .append e b s0 x => wev E s (.append e b s0 x)
  | .copy e d x => wev E s (.copy e d x)
  | o => (pev E s o).bind fun v => some (some v, s.h)

end Go.Proofs.Ytfdapegcngmknaa.AM
