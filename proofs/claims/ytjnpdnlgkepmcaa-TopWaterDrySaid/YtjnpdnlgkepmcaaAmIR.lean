/- The small language into which the translated code is put, and what its operations do to the abstract memory. Conditions: none. -/
import Derived.Test.YtjnpdnlgkepmcaaAmMem
namespace Go.Proofs.Ytjnpdnlgkepmcaa.AM
set_option linter.unusedSimpArgs false
set_option linter.unusedVariables false
open Go Go.RowKit
structure Env where
 P : Program
 tbl : List (Nat × FuncId)
def rlook : List (Nat × FuncId) → FuncId → Option Nat
 | [], _ => none
 | (k, f) :: r, g => if g = f then some k else rlook r g
def Env.id (E : Env) (k : Nat) : FuncId := (look E.tbl k).getD 0
inductive Opd
 | t (n : Nat)
 | c (v : Value)
 | f (k : Nat)
structure St where
 t : List (Nat × Value)
 h : AHeap
def St.ev (E : Env) (s : St) : Opd → Option Value
 | .t n => look s.t n
 | .c v => some v
 | .f k => some (.func (.func (E.id k)) #[] #[])
def aput : List (Nat × Value) → Nat → Value → List (Nat × Value)
 | t, n, v => (n, v) :: t
def adel : List (Nat × Value) → Nat → List (Nat × Value)
 | [], _ => []
 | (k, u) :: r, n => if n = k then adel r n else (k, u) :: adel r n
def nmem : List Nat → Nat → Bool
 | [], _ => false
 | k :: r, n => if n = k then true else nmem r n
def akeep (t : List (Nat × Value)) : List Nat → List (Nat × Value)
  | [] => []
  | k :: r => match look t k with
    | some v => (k, v) :: akeep t r
    | none => akeep t r
def aputO (t : List (Nat × Value)) : Option Nat → Option Value → List (Nat × Value)
 | some n, some v => aput t n v
 | some n, none => adel t n
 | none, _ => t
inductive Shp
 | int (k : IntKind)
 | bool
 | str
 | nil
 | fld (off sz : Nat) (s rest : Shp)
def Shp.isAgg : Shp → Bool
 | .nil | .fld .. => true
 | _ => false
def partS (s : Shp) (off sz : Nat) (xs : Array Value) : Option Value :=
 if s.isAgg then some (.agg (xs.extract off (off + sz))) else xs[off]?
def eqS : Shp → Value → Value → Option Bool
  | .int k, .int a x, .int b y => if a = k ∧ b = k then some (x == y) else none
  | .bool, .bool x, .bool y => some (x == y)
  | .str, .string x, .string y => some (x == y)
  | .nil, .agg _, .agg _ => some true
  | .fld off sz s rest, .agg xs, .agg ys =>
    match partS s off sz xs, partS s off sz ys with
    | some a, some b => match eqS s a b with
      | some true => eqS rest (.agg xs) (.agg ys)
      | some false => some false
      | none => none
    | _, _ => none
  | _, _, _ => none
inductive NK
 | sl
 | ptr
 | fn
 | map
 | ifc
inductive IOp
 | mov (x : Opd)
 | pick (c a b : Opd)
 | ibin (op : BinOp) (k : IntKind) (x y : Opd)
 | shift (op : BinOp) (k : IntKind) (x y : Opd)
 | sbin (op : BinOp) (x y : Opd)
 | bbin (neq : Bool) (x y : Opd)
 | nileq (kind : NK) (neq : Bool) (x : Opd)
 | eqv (sh : Shp) (neq : Bool) (x y : Opd)
 | un (op : UnOp) (x : Opd)
 | conv (k : IntKind) (x : Opd)
 | alloc (z : List Value)
 | box (x : Opd)
 | build (z : List Value) (parts : List (Nat × Nat × Opd))
 | s2b (x : Opd)
 | bslice (len esz : Nat) (z : List Value) (parts : List (Nat × Nat × Opd))
 | mslice (esz bytes : Nat) (z : List Value) (l c : Opd)
 | load (n : Nat) (agg : Bool) (x : Opd)
 | store (n : Nat) (a x : Opd)
 | nilchk (x : Opd)
 | faddr (off : Nat) (x : Opd)
 | field (off n : Nat) (agg : Bool) (x : Opd)
 | iaddr (esz : Nat) (x i : Opd)
 | iaddrA (len esz : Nat) (x i : Opd)
 | indexA (len esz : Nat) (agg : Bool) (x i : Opd)
 | indexS (x i : Opd)
 | sliceS (x : Opd) (lo hi : Option Opd)
 | sliceV (esz : Nat) (x : Opd) (lo hi mx : Option Opd)
 | sliceA (len esz : Nat) (x : Opd) (lo hi mx : Option Opd)
 | extract (i : Nat) (x : Opd)
 | lenS (x : Opd)
 | lenV (x : Opd)
 | lenA (n : Nat)
 | capN (x : Opd)
 | append (esz bytes : Nat) (s x : Opd)
 | copy (esz : Nat) (d s : Opd)
 | appz (esz bytes : Nat) (z : List Value) (s n : Opd)
 | clr (esz : Nat) (z : List Value) (x : Opd)
 | mp (kind : Nat) (x y : Opd)
 | nope
 | minmax (mx : Bool) (x : Opd) (rest : List Opd)
 | mkfunc (k : Nat) (first captured : List Opd)
 | call (k : Nat) (args : List Opd)
 | callv (f : Opd) (args : List Opd)
def ibinv (op : BinOp) (k : IntKind) (a b : Int) : Option Value :=
 match op with
 | .add => some (.int k (k.wrap (a + b)))
 | .sub => some (.int k (k.wrap (a - b)))
 | .mul => some (.int k (k.wrap (a * b)))
 | .quo => if b = 0 then none else some (.int k (k.wrap (a.tdiv b)))
 | .rem => if b = 0 then none else some (.int k (a.tmod b))
 | .and => some (.int k (k.wrap (BitVec.ofInt k.bits a &&& BitVec.ofInt k.bits b).toNat))
 | .or => some (.int k (k.wrap (BitVec.ofInt k.bits a ||| BitVec.ofInt k.bits b).toNat))
 | .xor => some (.int k (k.wrap (BitVec.ofInt k.bits a ^^^ BitVec.ofInt k.bits b).toNat))
 | .andNot => some (.int k (k.wrap (BitVec.ofInt k.bits a &&& ~~~BitVec.ofInt k.bits b).toNat))
 | .eql => some (.bool (a == b))
 | .neq => some (.bool (a != b))
 | .lss => some (.bool (a < b))
 | .leq => some (.bool (a ≤ b))
 | .gtr => some (.bool (a > b))
 | .geq => some (.bool (a ≥ b))
 | _ => none
def vint (k : IntKind) : Value → Option Int
 | .int k' n => if k' = k then some n else none
 | _ => none
def vany : Value → Option Int
 | .int _ n => some n
 | _ => none
def vstr : Value → Option ByteArray
 | .string s => some s
 | _ => none
def vbool : Value → Option Bool
 | .bool b => some b
 | _ => none
def vagg : Value → Option (Array Value)
 | .agg a => some a
 | _ => none
def vptr : Value → Option (Nat × Nat)
 | .pointer (some ⟨b, o, none⟩) => some (b, o)
 | _ => none
def vmp : Value → Option Nat
 | .map (some b) => some b
 | _ => none
def mpKs (h : AHeap) (b : Nat) : Option (List ByteArray) := match h.get b with
  | some (.loop L) => match L.pending with
    | some .skip => some (kd L.body)
    | _ => none
  | _ => none
def vvp : Value → Option (Value × Nat)
 | .func (.methodOf off _) ⟨[e]⟩ _ => some (e, off)
 | _ => none
def vvs : Value → Option (Nat × List Value)
 | .func (.via z _ _ _) ⟨es⟩ _ => some (z, es)
 | _ => none
def vvt : Value → Option (Nat × List Value × Nat)
 | .func (.via z _ b true) ⟨es⟩ _ => some (z, es, b)
 | _ => none
def vnil : NK → Value → Option Bool
 | .sl, .slice a _ _ => some a.isNone
 | .sl, .func (.via _ _ _ _) ⟨_ :: _⟩ _ => some false
 | .sl, .func (.via _ _ 2 false) ⟨[]⟩ _ => some false
 | .ptr, .pointer a => some a.isNone
 | .fn, .nilFunc => some true
 | .fn, .func (.func _) _ _ => some false
 | .ptr, .func (.methodOf _ _) _ _ => some false
 | .map, .map a => some a.isNone
 | .ifc, .nilIface => some true
 | .ifc, .iface _ _ => some false
 | _, _ => none
def vnilr : NK → Value → Option Bool
 | .sl, .slice a _ _ => some a.isNone
 | .ptr, .pointer a => some a.isNone
 | .fn, .nilFunc => some true
 | .fn, .func (.func _) _ _ => some false
 | .map, .map a => some a.isNone
 | .ifc, .nilIface => some true
 | .ifc, .iface _ _ => some false
 | _, _ => none
def obind {α : Type} (o : Option α) (f : α → Prop) : Prop :=
 match o with
 | some a => f a
 | none => False
def sbinv (op : BinOp) (x y : ByteArray) : Option Value :=
 match op with
 | .add => if x.size + y.size ≤ 9223372036854775807 then some (.string (x ++ y)) else none
 | .eql => some (.bool (x.toList == y.toList))
 | .neq => some (.bool !(x.toList == y.toList))
 | .lss => some (.bool (Op.bytesLess x.toList y.toList))
 | .leq => some (.bool (Op.bytesLess x.toList y.toList || x.toList == y.toList))
 | .gtr => some (.bool !(Op.bytesLess x.toList y.toList || x.toList == y.toList))
 | .geq => some (.bool !(Op.bytesLess x.toList y.toList))
 | _ => none
def fillL (cells : List Value) : List (Nat × Nat × Value) → Option (List Value)
  | [] => some cells
  | (off, size, v) :: rest =>
    if v.cells.size = size ∧ off + size ≤ cells.length then fillL (setCells cells off v.cells.toList) rest else none
def evs (E : Env) (s : St) : List Opd → Option (List Value)
  | [] => some []
  | x :: r => match s.ev E x, evs E s r with
    | some v, some vs => some (v :: vs)
    | _, _ => none
def evp (E : Env) (s : St) : List (Nat × Nat × Opd) → Option (List (Nat × Nat × Value))
  | [] => some []
  | (a, b, x) :: r => match s.ev E x, evp E s r with
    | some v, some vs => some ((a, b, v) :: vs)
    | _, _ => none
def bnd (E : Env) (s : St) (d : Nat) : Option Opd → Option Nat
  | none => some d
  | some x => match s.ev E x with
    | some (.int _ n) => if 0 ≤ n then some n.toNat else none
    | _ => none
inductive SB
 | nil
 | blk (b o : Nat)
 | val (z : Nat) (es : List Value)
structure Sl where
 base : SB
 len : Nat
 code : Nat
def vsl : Value → Option Sl
 | .slice none 0 0 => some ⟨.nil, 0, 0⟩
 | .slice (some ⟨b, o, none⟩) n c => some ⟨.blk b o, n, c⟩
 | .func (.via z _ _ _) ⟨es⟩ _ => some ⟨.val z es, es.length, 1⟩
 | _ => none
def mkSl (b o n code : Nat) : Value := .slice (some ⟨b, o, none⟩) n code
def chunk : Nat → Nat → List Value → List Value
  | 0, _, _ => []
  | n + 1, 1, c => match c with
    | [] => []
    | v :: r => v :: chunk n 1 r
  | n + 1, z, c => .agg ⟨c.take z⟩ :: chunk n z (c.drop z)
def flat : List Value → List Value
 | [] => []
 | e :: r => e.cells.toList ++ flat r
def AHeap.els (h : AHeap) (esz : Nat) (s : Sl) : Option (List Value) :=
  match s.base with
  | .nil => some []
  | .val z es => if z = esz then some es else none
  | .blk b o => match h.row b with
    | some c => if o + s.len * esz ≤ c.length then some (chunk s.len esz (c.drop o)) else none
    | none => none
def minmax2 (mx : Bool) : Value → Value → Option Value
 | .int k x, .int k' y => if k = k' then some (.int k (if mx then (if y > x then y else x) else (if y < x then y else x))) else none
 | _, _ => none
def minmaxL (mx : Bool) : Value → List Value → Option Value
  | x, [] => some x
  | x, y :: r => match minmax2 mx x y with
    | some z => minmaxL mx z r
    | none => none
def resl (max : Bool) (esz code : Nat) (whole : Bool) : Nat :=
 if max then (if whole then 0 else 1) else if code = esz + 1 then code else if code = 0 ∧ whole = true then 0 else 1
def ldV (e : Value) (off n : Nat) : Option Value :=
 match e, off with
 | .agg xs, 0 => if xs.size = n then some (.agg xs) else if n ≤ xs.size then some (.agg (xs.extract 0 (0 + n))) else none
 | e, off => if off + n ≤ e.cells.size then some (.agg (e.cells.extract off (off + n))) else none
def subl (es : List Value) (l h : Nat) (hi : Bool) : List Value := if hi then (es.drop l).take (h - l) else es.drop l
def pev (E : Env) (s : St) : IOp → Option Value
  | .mov x => s.ev E x
  | .pick c a b => ((s.ev E c).bind vbool).bind fun t => if t then s.ev E a else s.ev E b
  | .ibin op k x y => ((s.ev E x).bind (vint k)).bind fun a => ((s.ev E y).bind (vint k)).bind fun b => ibinv op k a b
  | .shift op k x y => ((s.ev E x).bind (vint k)).bind fun a => ((s.ev E y).bind vany).bind fun b =>
    if b < 0 then none else match op with
      | .shl => some (.int k (k.wrap (a * 2 ^ (min b.toNat k.bits))))
      | .shr => some (.int k (a.fdiv (2 ^ (min b.toNat k.bits))))
      | _ => none
  | .sbin op x y => ((s.ev E x).bind vstr).bind fun a => ((s.ev E y).bind vstr).bind fun b => sbinv op a b
  | .bbin neq x y => ((s.ev E x).bind vbool).bind fun a => ((s.ev E y).bind vbool).bind fun b => some (.bool (if neq then !(a == b) else a == b))
  | .nileq kind neq x => ((s.ev E x).bind (vnil kind)).bind fun a => some (.bool (if neq then !a else a))
  | .eqv sh neq x y => (s.ev E x).bind fun a => (s.ev E y).bind fun b => (eqS sh a b).bind fun e => some (.bool (if neq then !e else e))
  | .un op x => (s.ev E x).bind fun a => match op, a with
    | .neg, .int k n => some (.int k (k.wrap (0 - n)))
    | .not, .bool b => some (.bool !b)
    | .xor, .int k n => some (.int k (k.wrap (BitVec.ofInt k.bits (if k.signed then -1 else k.max) ^^^ BitVec.ofInt k.bits n).toNat))
    | _, _ => none
  | .conv k x => ((s.ev E x).bind vany).bind fun a => some (.int k (k.wrap a))
  | .build z parts => (evp E s parts).bind fun ps => (fillL z ps).bind fun c => some (.agg c.toArray)
  | .nilchk x => (s.ev E x).bind fun a => match a with
    | .pointer (some p) => some (.pointer (some p))
    | .func (.func g) xs us => some (.func (.func g) xs us)
    | .func (.methodOf off t) xs us => some (.func (.methodOf off t) xs us)
    | _ => none
  | .faddr off x => (s.ev E x).bind fun v => match vvp v with
    | some q => some (VP q.1 (q.2 + off))
    | none => (vptr v).bind fun p => some (.pointer (some ⟨p.1, p.2 + off, none⟩))
  | .field off n agg x => ((s.ev E x).bind vagg).bind fun a => if agg then some (.agg (a.extract off (off + n))) else a[off]?
  | .iaddr esz x i => ((s.ev E x).bind vsl).bind fun a => ((s.ev E i).bind vany).bind fun i =>
    match a.base with
    | .blk b o => if 0 ≤ i ∧ i < a.len then some (.pointer (some ⟨b, o + i.toNat * esz, none⟩)) else none
    | .val z es => if z = esz ∧ 0 ≤ i then es[i.toNat]?.bind fun e => some (VP e 0) else none
    | .nil => none
  | .iaddrA len esz x i => (s.ev E x).bind fun v => ((s.ev E i).bind vany).bind fun i => match vvp v with
    | some q => if 0 ≤ i ∧ i < len then some (VP q.1 (q.2 + i.toNat * esz)) else none
    | none => (vptr v).bind fun p => if 0 ≤ i ∧ i < len then some (.pointer (some ⟨p.1, p.2 + i.toNat * esz, none⟩)) else none
  | .indexA len esz agg x i => ((s.ev E x).bind vagg).bind fun a => ((s.ev E i).bind vany).bind fun i =>
    if 0 ≤ i ∧ i < len then (if agg then some (.agg (a.extract (i.toNat * esz) (i.toNat * esz + esz))) else a[i.toNat * esz]?) else none
  | .indexS x i => ((s.ev E x).bind vstr).bind fun a => ((s.ev E i).bind vany).bind fun i =>
    if 0 ≤ i then (match a[i.toNat]? with | some b => some (.int .u8 b.toNat) | none => none) else none
  | .sliceS x lo hi => ((s.ev E x).bind vstr).bind fun a => (bnd E s 0 lo).bind fun l => (bnd E s a.size hi).bind fun h =>
    if l ≤ h ∧ h ≤ a.size then some (.string (a.extract l h)) else none
  | .sliceV esz x lo hi mx => ((s.ev E x).bind vsl).bind fun a => (bnd E s 0 lo).bind fun l => (bnd E s a.len hi).bind fun h => (bnd E s a.len mx).bind fun m =>
    if l ≤ h ∧ h ≤ m ∧ m ≤ a.len then
      (match a.base with
       | .nil => some (.slice none 0 0)
       | .blk b o => some (mkSl b (o + l * esz) (h - l) (resl (mx.isSome) esz a.code (if mx.isSome then m == h else h == a.len)))
       | .val z es => if z = esz then (if mx.isSome ∧ m = l then some (VZ z) else some (VS z (subl es l h hi.isSome))) else none)
    else none
  | .sliceA len esz x lo hi mx => (s.ev E x).bind fun v => (bnd E s 0 lo).bind fun l => (bnd E s len hi).bind fun h => (bnd E s len mx).bind fun m => match vvp v with
    | some q => if l ≤ h ∧ h ≤ m ∧ m ≤ len ∧ 0 < esz ∧ q.2 + len * esz ≤ q.1.cells.size then some (VS esz (chunk (h - l) esz (q.1.cells.toList.drop (q.2 + l * esz)))) else none
    | none => (vptr v).bind fun p => if l ≤ h ∧ h ≤ m ∧ m ≤ len ∧ m = h then some (mkSl p.1 (p.2 + l * esz) (h - l) 0) else none
  | .extract i x => (s.ev E x).bind fun a => match a with
    | .tuple vs => vs[i]?
    | _ => none
  | .lenS x => ((s.ev E x).bind vstr).bind fun a => some (.int .i64 a.size)
  | .lenV x => ((s.ev E x).bind vsl).bind fun a => some (.int .i64 a.len)
  | .lenA n => some (.int .i64 n)
  | .capN x => ((s.ev E x).bind vsl).bind fun a => match a.base with
    | .nil => some (.int .i64 0)
    | _ => none
  | .minmax mx x rest => (s.ev E x).bind fun a => (evs E s rest).bind fun l => minmaxL mx a l
  | .mkfunc k first captured => (evs E s first).bind fun a => (evs E s captured).bind fun b => some (.func (.func (E.id k)) a.toArray b.toArray)
  | _ => none
def lev (E : Env) (s : St) (n : Nat) (agg : Bool) (x : Opd) : Option Value :=
  (s.ev E x).bind fun v => match vvp v with
    | some q => if agg then ldV q.1 q.2 n else q.1.cells[q.2]?
    | none => (vptr v).bind fun p => (s.h.row p.1).bind fun c =>
      if agg then (if p.2 + n ≤ c.length then some (.agg ((c.drop p.2).take n).toArray) else none) else c[p.2]?
def oneL : List Value → Bool
 | [] => true
 | v :: r => v.oneCell' && oneL r
def replL (n : Nat) (z : List Value) : List Value := (List.replicate n z).flatten
def opd0 : Opd → Bool
 | .c (.int .i64 0) => true
 | _ => false
def anew (v0 : Value) (esz : Nat) (news : List Value) (h : AHeap) : Option (Option Value × AHeap) := match h.m with
  | true => match news with
    | [] => some (some v0, h)
    | news => some (some (mkSl h.next 0 news.length (esz + 1)), h.alloc (.rw (flat news)))
  | false => some (some (VT esz news h.next), h.alloc (.tail news.length esz))
def wev (E : Env) (s : St) : IOp → Option (Option Value × AHeap)
  | .alloc z => some (some (.pointer (some ⟨s.h.next, 0, none⟩)), s.h.alloc (.rw z))
  | .box x => (s.ev E x).bind fun v => if oneL v.cells.toList = false then none else some (some (.pointer (some ⟨s.h.next, 0, none⟩)), s.h.alloc (.rw v.cells.toList))
  | .s2b x => ((s.ev E x).bind vstr).bind fun b => some (some (VS 1 (b.data.toList.map fun x => .int .u8 x.toNat)), s.h)
  | .bslice len esz z parts => (evp E s parts).bind fun ps => (fillL (replL len z) ps).bind fun c =>
    if oneL c = false then none else match s.h.m with
      | true => some (some (mkSl s.h.next 0 len (esz + 1)), s.h.alloc (.rw c))
      | false => some (some (VT esz (chunk len esz c) s.h.next), s.h.alloc (.tail len esz))
  | .mslice esz bytes z l c => ((s.ev E c).bind (vint .i64)).bind fun cn => match opd0 l with
    | true => if 0 ≤ cn ∧ cn * bytes ≤ 1099511627776 ∧ cn ≤ 1099511627776 then (match s.h.m with
      | true => some (some (mkSl s.h.next 0 0 (esz + 1)), s.h.alloc (.rw []))
      | false => some (some (VT esz [] s.h.next), s.h.alloc (.tail 0 esz))) else none
    | false => ((s.ev E l).bind (vint .i64)).bind fun l =>
      if 0 ≤ l ∧ l ≤ cn ∧ cn * bytes ≤ 1099511627776 ∧ cn ≤ 1099511627776 then some (some (mkSl s.h.next 0 l.toNat 1), s.h.alloc (.rw (replL l.toNat z))) else none
  | .store n a x => ((s.ev E a).bind vptr).bind fun p => (s.ev E x).bind fun v =>
    match s.h.get p.1 with
    | some (.rw c) => if v.cells.size = n ∧ p.2 + n ≤ c.length ∧ oneL v.cells.toList = true then some (none, s.h.put p.1 (.rw (setCells c p.2 v.cells.toList))) else none
    | _ => none
  | .append esz bytes s0 x => (s.ev E s0).bind fun v0 => (s.ev E x).bind fun xv => (vsl xv).bind fun b => (s.h.els esz b).bind fun news =>
    match v0 with
    | .slice none 0 0 => if news.length * bytes ≤ 1099511627776 ∧ news.length ≤ 1099511627776 then anew (.slice none 0 0) esz news s.h else none
    | .func (.via z p 1 false) xs us => if z = esz ∧ news.length * bytes ≤ 1099511627776 ∧ news.length ≤ 1099511627776 then anew (.func (.via z p 1 false) xs us) esz news s.h else none
    | .slice (some ⟨blk, o, none⟩) n code => if (n + news.length) * bytes ≤ 1099511627776 ∧ n + news.length ≤ 1099511627776 then (match s.h.get blk with
      | some (.rw c) => if code = esz + 1 ∧ o + n * esz = c.length ∧ news.isEmpty = false then
          some (some (mkSl s.h.next 0 (n + news.length) (esz + 1)), (s.h.put blk .dead).alloc (.rw (c.drop o ++ flat news)))
        else if news.isEmpty then some (some (.slice (some ⟨blk, o, none⟩) n code), s.h)
        else if code = 0 then (s.h.els esz ⟨.blk blk o, n, 0⟩).bind fun olds => anew (.slice (some ⟨blk, o, none⟩) n code) esz (olds ++ news) s.h
        else if code = esz + 1 ∧ o + (n + news.length) * esz ≤ c.length then some (some (mkSl blk o (n + news.length) code), s.h.put blk (.rw (setCells c (o + n * esz) (flat news)))) else none
      | _ => none) else none
    | v0 => (vvt v0).bind fun q => match s.h.get q.2.2 with
      | some (.tail n z) => if (z = esz ∨ (z = 0 ∧ news.isEmpty = false)) ∧ q.1 = esz ∧ n = q.2.1.length ∧ (q.2.1.length + news.length) * bytes ≤ 1099511627776 ∧ q.2.1.length + news.length ≤ 1099511627776 then
          some (some (VT esz (q.2.1 ++ news) q.2.2), s.h.put q.2.2 (.tail (q.2.1 ++ news).length esz)) else none
      | _ => none
  | .appz esz bytes z s0 n => ((s.ev E n).bind (vint .i64)).bind fun n => (s.ev E s0).bind fun v0 => match v0 with
    | .slice none 0 0 => if 1 ≤ n ∧ n * bytes ≤ 1099511627776 ∧ n ≤ 1099511627776 then some (some (mkSl s.h.next 0 n.toNat (esz + 1)), s.h.alloc (.rw (replL n.toNat z))) else none
    | _ => none
  | .copy esz d x => ((s.ev E d).bind vsl).bind fun a => ((s.ev E x).bind vsl).bind fun b => (s.h.els esz b).bind fun els =>
    match a.base with
    | .nil => some (some (.int .i64 0), s.h)
    | .blk blk o => match s.h.get blk with
      | some (.rw c) => if a.len ≠ 0 ∧ o + min a.len b.len * esz ≤ c.length then some (some (.int .i64 ((min a.len b.len : Nat) : Int)), s.h.put blk (.rw (setCells c o (flat (els.take (min a.len b.len)))))) else none
      | _ => none
    | .val _ _ => none
  | .clr esz z x => ((s.ev E x).bind vsl).bind fun a =>
    match a.base with
    | .nil => some (some (.tuple #[]), s.h)
    | .blk blk o => match s.h.get blk with
      | some (.rw c) => if a.len ≠ 0 ∧ o + a.len * esz ≤ c.length then some (some (.tuple #[]), s.h.put blk (.rw (setCells c o (replL a.len z)))) else none
      | _ => none
    | .val _ _ => none
  | .mp 0 _ _ => some (some (.map (some s.h.next)), s.h.alloc (.loop (mpL [])))
  | .mp 1 x y => ((s.ev E x).bind vmp).bind fun b => ((s.ev E y).bind vstr).bind fun k => (mpKs s.h b).bind fun ks => some (some (.bool (hasK ks k)), s.h)
  | .mp _ x y => ((s.ev E x).bind vmp).bind fun b => ((s.ev E y).bind vstr).bind fun k => (mpKs s.h b).bind fun ks => some (none, s.h.put b (.loop (mpL (mset ks k))))
  | _ => none
def sev (E : Env) (s : St) (esz : Nat) (x : Opd) (lo hi mx : Option Opd) : Option (Value × AHeap) :=
  match hi, mx with
  | some hi, none => ((s.ev E x).bind vsl).bind fun a => match a.base with
    | .blk b o => match s.h.get b with
      | some (.rw c) => (bnd E s 0 lo).bind fun l => (bnd E s 0 (some hi)).bind fun h => if a.code = esz + 1 ∧ 0 < esz ∧ l ≤ h ∧ o + h * esz ≤ c.length then some (mkSl b (o + l * esz) (h - l) (esz + 1), s.h) else none
      | _ => none
    | _ => none
  | some hi, some mx => ((s.ev E x).bind vsl).bind fun a => match a.base with
    | .val z es => (bnd E s 0 lo).bind fun l => (bnd E s 0 (some hi)).bind fun h => (bnd E s 0 (some mx)).bind fun m =>
      if z = esz ∧ 0 < esz ∧ l = 0 ∧ h = es.length ∧ m = es.length then some (VT esz es s.h.next, s.h.alloc (.tail es.length 0)) else none
    | _ => none
  | _, _ => none
def xev (E : Env) (s : St) : IOp → Option (Option Value × AHeap)
 | .load n agg x => (lev E s n agg x).bind fun v => some (some v, s.h)
 | .alloc z => wev E s (.alloc z)
 | .box x => wev E s (.box x)
 | .s2b x => wev E s (.s2b x)
 | .bslice l e z p => wev E s (.bslice l e z p)
 | .mslice e b z l c => wev E s (.mslice e b z l c)
 | .store n a x => wev E s (.store n a x)
 | .append e b s0 x => wev E s (.append e b s0 x)
 | .copy e d x => wev E s (.copy e d x)
 | .appz e b z d x => wev E s (.appz e b z d x)
 | .clr e z x => wev E s (.clr e z x)
 | .mp n x y => wev E s (.mp n x y)
 | o => (pev E s o).bind fun v => some (some v, s.h)
end Go.Proofs.Ytjnpdnlgkepmcaa.AM
