/- From the translated code's operations to those of the small language. Conditions: none. -/
import Derived.Test.YtjnpdnlgkepmcaaAmIR
namespace Go.Proofs.Ytjnpdnlgkepmcaa.AM
set_option linter.unusedSimpArgs false
set_option linter.unusedVariables false
open Go Go.RowKit
def vrc1 : Value → Bool
 | .bool _ | .int _ _ | .string _ | .pointer none | .nilIface | .nilFunc | .map none | .slice none 0 0 => true
 | _ => false
def vrc : Value → Bool
 | .agg vs => vs.toList.all vrc1
 | v => vrc1 v
theorem vrc1_vr {ι : Iota} {N : Nat} {v : Value} (h : vrc1 v = true) : VR ι N v v := by
 unfold vrc1 at h
 split at h <;> first | constructor | (simp at h)
theorem vrc_vr {ι : Iota} {N : Nat} {v : Value} (h : vrc v = true) : VR ι N v v := by
 unfold vrc at h
 split at h
 · rename_i vs
   refine .agg vs vs rfl fun i u v hu hv => ?_
   rw [hu] at hv
   injection hv with hv
   subst hv
   have hm : u ∈ vs.toList := by
    rw [Array.mem_toList_iff]; exact Array.mem_of_getElem? hu
   exact vrc1_vr (List.all_eq_true.1 h u hm)
 · exact vrc1_vr h
def copd (E : Env) : Operand → Option Opd
  | .tmp t => some (.t t)
  | .const v => if vrc v then some (.c v) else none
  | .func f => match rlook E.tbl f with
    | some k => if E.id k = f then some (.f k) else none
    | none => none
  | .global _ => none
def copds (E : Env) : List Operand → Option (List Opd)
  | [] => some []
  | x :: r => match copd E x, copds E r with
    | some y, some l => some (y :: l)
    | _, _ => none
def copdO (E : Env) : Option Operand → Option (Option Opd)
 | none => some none
 | some x => (copd E x).map some
def tsz (E : Env) (t : TypeId) : Option Nat := (E.P.info? t).map (·.size)
def tby (E : Env) (t : TypeId) : Option Nat := (E.P.info? t).map (·.bytes)
def tzero (E : Env) (t : TypeId) : Option (List Value) :=
 match (E.P.info? t).bind (·.zero) with
 | some z => if z.cells.toList.all vrc1 then some z.cells.toList else none
 | none => none
def tagg (E : Env) (t : TypeId) : Option Bool :=
 match E.P.underlying t with
 | some (.struct _) => some true
 | some (.array _ _) => some true
 | some _ => some false
 | none => none
def cparts (E : Env) (place : Nat → Option (Nat × Nat)) : List (Nat × Operand) → Option (List (Nat × Nat × Opd))
  | [] => some []
  | (i, x) :: r => match place i, copd E x, cparts E place r with
    | some (off, sz), some y, some l => some ((off, sz, y) :: l)
    | _, _, _ => none
def fplaces (E : Env) : List Field → Option (List (Nat × Nat))
  | [] => some []
  | f :: r => match tsz E f.type, fplaces E r with
    | some s, some l => some ((f.offset, s) :: l)
    | _, _ => none
mutual
def shape (E : Env) : Nat → TypeId → Option Shp
  | 0, _ => none
  | d + 1, t => match E.P.underlying t with
    | some .bool => some .bool
    | some (.int k) => some (.int k)
    | some .string => some .str
    | some (.struct fs) => if E.P.stoodInHeld t then none else shapeF E d fs.toList
    | some (.array n e) => match tsz E e, shape E d e with
      | some sz, some s => some (shapeA sz s n 0)
      | _, _ => none
    | _ => none
def shapeF (E : Env) : Nat → List Field → Option Shp
  | _, [] => some .nil
  | 0, _ :: _ => none
  | d + 1, f :: r => if f.name = "_" then none else match tsz E f.type, shape E d f.type, shapeF E d r with
    | some sz, some s, some rest => some (.fld f.offset sz s rest)
    | _, _, _ => none
def shapeA (sz : Nat) (s : Shp) : Nat → Nat → Shp
 | 0, _ => .nil
 | n + 1, i => .fld (i * sz) sz s (shapeA sz s n (i + 1))
end
def nilOf : TypeDesc → Operand → Option NK
 | .slice _, .const (.slice none 0 0) => some .sl
 | .pointer _, .const (.pointer none) => some .ptr
 | .func .., .const .nilFunc => some .fn
 | .map .., .const (.map none) => some .map
 | .interface _, .const .nilIface => some .ifc
 | _, _ => none
def cbin (E : Env) (op : BinOp) (t : TypeId) (x y : Operand) : Option IOp :=
  match copd E x, copd E y with
  | some a, some b =>
    match E.P.underlying t with
    | some (.int k) => match op with
      | .shl => some (.shift .shl k a b)
      | .shr => some (.shift .shr k a b)
      | op => some (.ibin op k a b)
    | some .string => some (.sbin op a b)
    | some .bool => match op with
      | .eql => some (.bbin false a b)
      | .neq => some (.bbin true a b)
      | _ => none
    | some (.struct _) | some (.array _ _) => if E.P.eqGuardType E.P.depth t then none else match shape E 40 t, op with
        | some s, .eql => some (.eqv s false a b)
        | some s, .neq => some (.eqv s true a b)
        | _, _ => none
    | some d => match nilOf d y, op with
      | some k, .eql => some (.nileq k false a)
      | some k, .neq => some (.nileq k true a)
      | _, _ => none
    | none => none
  | _, _ => none
def cop (E : Env) (o : Oper) : Option IOp :=
  match o.op with
  | .move x => (copd E x).map .mov
  | .assign x => (copd E x).map .mov
  | .pick c a b => match copd E c, copd E a, copd E b with
    | some c, some a, some b => some (.pick c a b)
    | _, _, _ => none
  | .alloc t => (tzero E t).map .alloc
  | .box _ x => (copd E x).map .box
  | .build t parts => match E.P.underlying t, tzero E t with
    | some (.struct fs), some z => match fplaces E fs.toList with
      | some pl => (cparts E (pl[·]?) parts.toList).map (.build z)
      | none => none
    | some (.array _ e), some z => match tsz E e with
      | some sz => (cparts E (fun i => some (i * sz, sz)) parts.toList).map (.build z)
      | none => none
    | _, _ => none
  | .buildSlice t len parts => match E.P.underlying t with
    | some (.slice e) => match tsz E e, tzero E e with
      | some sz, some z => if len * sz ≤ 65536 ∧ z.length = sz ∧ 0 < sz then (cparts E (fun i => some (i * sz, sz)) parts.toList).map (.bslice len sz z) else none
      | _, _ => none
    | _ => none
  | .makeSlice t l c => match E.P.underlying t with
    | some (.slice e) => match tsz E e, tby E e, tzero E e, copd E l, copd E c with
      | some sz, some by_, some z, some l, some c => if z.length = sz ∧ 0 < sz then some (.mslice sz by_ z l c) else none
      | _, _, _, _, _ => none
    | _ => none
  | .load t x => match tsz E t, tagg E t, copd E x with
    | some n, some g, some x => some (.load n g x)
    | _, _, _ => none
  | .store t a x => match tsz E t, copd E a, copd E x with
    | some n, some a, some x => some (.store n a x)
    | _, _, _ => none
  | .nilCheck x => (copd E x).map .nilchk
  | .binOp op t x y _ => cbin E op t x y
  | .unOp op _ x => (copd E x).map (.un op)
  | .convert src dst x => match E.P.underlying src, E.P.underlying dst with
    | some (.int _), some (.int k) => (copd E x).map (.conv k)
    | some .string, some (.slice e) => match E.P.underlying e with
      | some (.int .u8) => (copd E x).map .s2b
      | _ => none
    | _, _ => none
  | .makeFunc (.func f) first captured => match rlook E.tbl f, copds E first.toList, copds E captured.toList with
    | some k, some a, some b => if E.id k = f then some (.mkfunc k a b) else none
    | _, _, _ => none
  | .slice t x lo hi mx => match E.P.underlying t, copd E x, copdO E lo, copdO E hi, copdO E mx with
    | some .string, some x, some lo, some hi, some none => some (.sliceS x lo hi)
    | some (.slice e), some x, some lo, some hi, some mx => match tsz E e with
      | some sz => if mx.isSome && hi.isNone then none else some (.sliceV sz x lo hi mx)
      | none => none
    | some (.array n e), some x, some lo, some hi, some mx => match tsz E e with
      | some sz => if mx.isSome && hi.isNone then none else some (.sliceA n sz x lo hi mx)
      | none => none
    | _, _, _, _, _ => none
  | .fieldAddr t x i => match E.P.underlying t with
    | some (.struct fs) => match fs[i]? with
      | some f => match tsz E f.type, copd E x with
        | some (_ + 1), some x => some (.faddr f.offset x)
        | _, _ => none
      | none => none
    | _ => none
  | .field t x i => match E.P.underlying t with
    | some (.struct fs) => match fs[i]? with
      | some f => match tsz E f.type, tagg E f.type, copd E x with
        | some n, some g, some x => some (.field f.offset n g x)
        | _, _, _ => none
      | none => none
    | _ => none
  | .indexAddr t x i => match E.P.underlying t, copd E x, copd E i with
    | some (.slice e), some x, some i => (tsz E e).map fun sz => .iaddr sz x i
    | some (.array n e), some x, some i => (tsz E e).map fun sz => .iaddrA n sz x i
    | _, _, _ => none
  | .index t x i => match E.P.underlying t, copd E x, copd E i with
    | some (.array n e), some x, some i => match tsz E e, tagg E e with
      | some sz, some g => some (.indexA n sz g x i)
      | _, _ => none
    | some .string, some x, some i => some (.indexS x i)
    | _, _, _ => none
  | .extract x i => (copd E x).map (.extract i)
  | .call { callee := .builtin .len, args, argTypes } => match args.toList, argTypes.toList with
    | [x], [t] => match E.P.underlying t, copd E x with
      | some .string, some x => some (.lenS x)
      | some (.slice _), some x => some (.lenV x)
      | some (.array n _), some _ => some (.lenA n)
      | _, _ => none
    | _, _ => none
  | .call { callee := .builtin .cap, args, argTypes } => match args.toList, argTypes.toList with
    | [x], [t] => match E.P.underlying t, copd E x with
      | some (.slice _), some x => some (.capN x)
      | _, _ => none
    | _, _ => none
  | .call { callee := .builtin .append, args, argTypes } => match args.toList, argTypes.toList with
    | [s, x], [t, t'] => match E.P.underlying t, E.P.underlying t', copd E s, copd E x with
      | some (.slice e), some (.slice _), some s, some x => match tsz E e, tby E e, tzero E e with
        | some sz, some by_, some z => if z.length = sz ∧ 0 < sz then some (.append sz by_ s x) else none
        | _, _, _ => none
      | some (.slice e), some (.int .i64), some s, some x => match tsz E e, tby E e, tzero E e with
        | some sz, some by_, some z => if z.length = sz ∧ 0 < sz then some (.appz sz by_ z s x) else none
        | _, _, _ => none
      | _, _, _, _ => none
    | _, _ => none
  | .call { callee := .builtin .copy, args, argTypes } => match args.toList, argTypes.toList with
    | [d, x], [t, t'] => match E.P.underlying t, E.P.underlying t', copd E d, copd E x with
      | some (.slice e), some (.slice _), some d, some x => (tsz E e).bind fun sz => if 0 < sz then some (.copy sz d x) else none
      | _, _, _, _ => none
    | _, _ => none
  | .call { callee := .builtin .clear, args, argTypes } => match args.toList, argTypes.toList with
    | [x], [t] => match E.P.underlying t, copd E x with
      | some (.slice e), some x => match tsz E e, tzero E e with
        | some sz, some z => if z.length = sz ∧ 0 < sz then some (.clr sz z x) else none
        | _, _ => none
      | _, _ => none
    | _, _ => none
  | .makeMap t none => match E.P.underlying t with
    | some (.map k e) => match E.P.underlying k, E.P.underlying e with
      | some .string, some .bool => some (.mp 0 (.c (.bool false)) (.c (.bool false)))
      | _, _ => none
    | _ => none
  | .lookup t x i false => match E.P.underlying t, copd E x, copd E i with
    | some (.map k e), some x, some i => match E.P.underlying k, (E.P.info? e).bind (·.zero) with
      | some .string, some (.bool false) => some (.mp 1 x i)
      | _, _ => none
    | _, _, _ => none
  | .mapUpdate t x i (.const (.bool true)) => match E.P.underlying t, copd E x, copd E i with
    | some (.map k _), some x, some i => match E.P.underlying k with
      | some .string => some (.mp 2 x i)
      | _ => none
    | _, _, _ => none
  | .makeInterface _ _ => some .nope
  | .panic _ => some .nope
  | .call { callee := .builtin .max, args, .. } => match copds E args.toList with
    | some (x :: r) => some (.minmax true x r)
    | _ => none
  | .call { callee := .builtin .min, args, .. } => match copds E args.toList with
    | some (x :: r) => some (.minmax false x r)
    | _ => none
  | .call { callee := .value (.func f), args, .. } => match rlook E.tbl f, copds E args.toList with
    | some k, some a => if E.id k = f then some (.call k a) else none
    | _, _ => none
  | .call { callee := .value g, args, .. } => match copd E g, copds E args.toList with
    | some g, some a => some (.callv g a)
    | _, _ => none
  | _ => none
end Go.Proofs.Ytjnpdnlgkepmcaa.AM
