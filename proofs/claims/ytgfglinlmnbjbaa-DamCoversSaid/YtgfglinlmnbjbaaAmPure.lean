/- Operations without memory: what the model's operation yields is what the small language's yields. Conditions: none. -/
import Derived.Test.YtgfglinlmnbjbaaAmVal
import Derived.Laws.Entries
import Derived.Laws.Cover1
namespace Go.Proofs.Ytgfglinlmnbjbaa.AM
set_option linter.unusedSimpArgs false
set_option linter.unusedVariables false
open Go Go.RowKit

section
variable {P : Program} {w : World}

theorem run_ibin {op : BinOp} {k : IntKind} {a b : Int} {u : Value} {t : TypeId} {x y : Operand} (h : ibinv op k a b = some u) :
    ((do eqGuard op t x y (.int k a) (.int k b); binOp op t (.int k a) (.int k b)) : Sem Value).run P w = .ok u w ∧ vrc u = true := by
  simp only [eqGuard_at_int, Sem.run_bind, Sem.run_pure, Result.andThen]
  cases op <;> simp only [ibinv, Option.some.injEq, reduceCtorEq] at h
  case quo =>
    split at h
    · simp at h
    · rename_i hb; injection h with h; subst h; simp [binOp_quo, Op.intDiv, hb, vrc, vrc1]
  case rem =>
    split at h
    · simp at h
    · rename_i hb; injection h with h; subst h; simp [binOp_rem, Op.intDiv, hb, vrc, vrc1]
  all_goals subst h; refine ⟨?_, rfl⟩; simp [binOp, Op.intArith, Op.intBits, Op.intCmp]

theorem run_sbin {op : BinOp} {a b : ByteArray} {u : Value} {t : TypeId} {x y : Operand} (h : sbinv op a b = some u) :
    ((do eqGuard op t x y (.string a) (.string b); binOp op t (.string a) (.string b)) : Sem Value).run P w = .ok u w ∧ vrc u = true := by
  simp only [eqGuard_at_string, Sem.run_bind, Sem.run_pure, Result.andThen]
  cases op <;> simp only [sbinv, Option.some.injEq, reduceCtorEq] at h
  case add =>
    split at h
    · rename_i hb; injection h with h; subst h
      refine ⟨?_, rfl⟩
      simp only [binOp, Op.stringOp, IntKind.max_i64]
      rw [if_neg (by omega)]; rfl
    · simp at h
  all_goals subst h; exact ⟨rfl, rfl⟩

theorem run_eq_bool (d : Nat) {a b : Bool} {t : TypeId} (ht : P.underlying t = some .bool) : (Op.equalIn (d + 1) t (.bool a) (.bool b)).run P w = .ok (a == b) w := by
  simp [Op.equalIn, run_underlying ht]

/-- '==' and '!=' by the comparison that both go through. -/
theorem run_eqlneq {neq : Bool} {t : TypeId} {u v : Value} {b : Bool} (h1 : binOp .eql t u v = (do pure (.bool (← Op.equal t u v)))) (h2 : binOp .neq t u v = (do pure (.bool (!(← Op.equal t u v)))))
    (h : (Op.equalIn (9999 + 1) t u v).run P w = .ok b w) : (binOp (if neq then .neq else .eql) t u v).run P w = .ok (.bool (if neq then !b else b)) w := by
  have h' : (Op.equal t u v).run P w = .ok b w := h
  cases neq
  · simp only [Bool.false_eq_true, if_false, h1, Sem.run_bind, h', Result.andThen, Sem.run_pure]
  · simp only [if_true, h2, Sem.run_bind, h', Result.andThen, Sem.run_pure]

theorem run_bbin {neq : Bool} {a b : Bool} {t : TypeId} {x y : Operand} (ht : P.underlying t = some .bool) :
    ((do eqGuard (if neq then .neq else .eql) t x y (.bool a) (.bool b); binOp (if neq then .neq else .eql) t (.bool a) (.bool b)) : Sem Value).run P w = .ok (.bool (if neq then !(a == b) else a == b)) w := by
  simp only [eqGuard_at_bool, Sem.run_bind, Sem.run_pure, Result.andThen]
  exact run_eqlneq rfl rfl (run_eq_bool 9999 ht)

/-- A value against the nil of its type's own kind. -/
def nilKind : TypeDesc → Value → Value → Option Bool
  | .slice _, .slice a _ _, .slice none 0 0 => some a.isNone
  | .pointer _, .pointer a, .pointer none => some a.isNone
  | .func .., .nilFunc, .nilFunc => some true
  | .func .., .func .., .nilFunc => some false
  | .map .., .map a, .map none => some a.isNone
  | .interface _, .nilIface, .nilIface => some true
  | .interface _, .iface _ _, .nilIface => some false
  | _, _, _ => none

theorem run_equalIn_nil (D : Nat) {v n : Value} {b : Bool} {t : TypeId} {d : TypeDesc} (ht : P.underlying t = some d) (hk : nilKind d v n = some b) :
    (Op.equalIn (D + 1) t v n).run P w = .ok b w := by
  unfold nilKind at hk
  split at hk <;> first | (simp at hk; done) | skip
  · rename_i a l c
    injection hk with hk
    subst hk
    cases a <;> simp [Op.equalIn, run_underlying ht]
  · rename_i a
    injection hk with hk
    subst hk
    cases a <;> simp [Op.equalIn, run_underlying ht]
  · injection hk with hk
    subst hk
    simp [Op.equalIn, run_underlying ht]
  · injection hk with hk
    subst hk
    simp [Op.equalIn, run_underlying ht]
  · rename_i a
    injection hk with hk
    subst hk
    cases a <;> simp [Op.equalIn, run_underlying ht]
  · injection hk with hk
    subst hk
    simp [Op.equalIn, run_underlying ht]
  · injection hk with hk
    subst hk
    simp [Op.equalIn, run_underlying ht]

theorem eqGuard_at_nil {op : BinOp} {t : TypeId} {x : Operand} {n : Value} : (eqGuard op t x (.const n) .nilIface .nilIface : Sem Unit) = pure () := by
  cases op <;> cases x <;> rfl
theorem run_nileq {neq : Bool} {v n : Value} {b : Bool} {t : TypeId} {d : TypeDesc} {x : Operand} (ht : P.underlying t = some d) (hk : nilKind d v n = some b) :
    ((do eqGuard (if neq then .neq else .eql) t x (.const n) v n; binOp (if neq then .neq else .eql) t v n) : Sem Value).run P w = .ok (.bool (if neq then !b else b)) w := by
  have hq := run_equalIn_nil (w := w) 9999 ht hk
  unfold nilKind at hk
  split at hk <;> first | (simp at hk; done) | skip
  · rw [eqGuard_at_slice]; exact run_eqlneq rfl rfl hq
  · rw [eqGuard_at_pointer]; exact run_eqlneq rfl rfl hq
  · rw [eqGuard_at_nilFunc]; exact run_eqlneq rfl rfl hq
  · rw [eqGuard_at_func]; exact run_eqlneq rfl rfl hq
  · rw [eqGuard_at_map]; exact run_eqlneq rfl rfl hq
  · rw [eqGuard_at_nil]; exact run_eqlneq rfl rfl hq
  · rw [eqGuard_at_iface]; exact run_eqlneq rfl rfl hq

theorem run_un {op : UnOp} {v u : Value} (h : (match op, v with
    | .neg, .int k n => some (.int k (k.wrap (0 - n)))
    | .not, .bool b => some (.bool !b)
    | .xor, .int k n => some (.int k (k.wrap (BitVec.ofInt k.bits (if k.signed then -1 else k.max) ^^^ BitVec.ofInt k.bits n).toNat))
    | _, _ => (none : Option Value)) = some u) : (Op.unary op v).run P w = .ok u w ∧ vrc u = true := by
  unfold Op.unary
  split at h
  · injection h with h; subst h; exact ⟨rfl, rfl⟩
  · injection h with h; subst h; exact ⟨rfl, rfl⟩
  · injection h with h; subst h; exact ⟨rfl, rfl⟩
  · simp at h

theorem run_conv {src dst : TypeId} {k' k : IntKind} {n : Int} {ks : IntKind} (hs : P.underlying src = some (.int ks)) (hd : P.underlying dst = some (.int k)) :
    (convert src dst (.int k' n)).run P w = .ok (.int k (k.wrap n)) w := by
  simp [convert, run_underlying hs, run_underlying hd, Conv.intToInt]

theorem run_sizeOf {E : Env} {t : TypeId} {n : Nat} (h : tsz E t = some n) : (sizeOf t).run E.P w = .ok n w := by
  unfold tsz at h
  cases hi : E.P.info? t with
  | none => simp [hi] at h
  | some i => simp [hi] at h; simp [sizeOf, typeInfo, hi, h]
theorem run_bytesOf {E : Env} {t : TypeId} {n : Nat} (h : tby E t = some n) : ∃ i, (typeInfo t).run E.P w = .ok i w ∧ i.bytes = n := by
  unfold tby at h
  cases hi : E.P.info? t with
  | none => simp [hi] at h
  | some i => simp [hi] at h; exact ⟨i, by simp [typeInfo, hi], h⟩
theorem run_zero {E : Env} {t : TypeId} {z : List Value} (h : tzero E t = some z) : ∃ v, (zeroValue t).run E.P w = .ok v w ∧ v.cells.toList = z ∧ z.all vrc1 = true := by
  unfold tzero at h
  cases hi : E.P.info? t with
  | none => simp [hi] at h
  | some i =>
    simp only [hi, Option.bind_some] at h
    cases hz : i.zero with
    | none => simp [hz] at h
    | some v =>
      simp only [hz] at h
      split at h
      · rename_i ha; injection h with h; subst h
        exact ⟨v, by simp [zeroValue, typeInfo, hi, hz], rfl, ha⟩
      · simp at h
theorem run_isAgg {E : Env} {t : TypeId} {g : Bool} (h : tagg E t = some g) : (isAgg t).run E.P w = .ok g w := by
  unfold tagg at h
  cases hu : E.P.underlying t with
  | none => simp [hu] at h
  | some d =>
    simp only [hu] at h
    cases d <;> simp at h <;> subst h <;> simp [isAgg, run_underlying hu]

theorem vr_extract {ι : Iota} {N : Nat} {xs ys : Array Value} (hs : xs.size = ys.size) (h : ∀ (i : Nat) (u v : Value), xs[i]? = some u → ys[i]? = some v → VR ι N u v) (a b : Nat) :
    VR ι N (.agg (xs.extract a b)) (.agg (ys.extract a b)) := by
  refine .agg _ _ (by simp [hs]) fun i u v hu hv => ?_
  rw [Array.getElem?_extract] at hu hv
  split at hu
  · rename_i hi; rw [if_pos (by rw [← hs]; exact hi)] at hv; exact h _ u v hu hv
  · simp at hu

/-- A part of a struct or an array. -/
theorem run_part {E : Env} {t : TypeId} {n : Nat} {g : Bool} {ι : Iota} {N off : Nat} {xs ys : Array Value} {u : Value} (hn : tsz E t = some n) (hg : tagg E t = some g)
    (hs : xs.size = ys.size) (h : ∀ (i : Nat) (u v : Value), xs[i]? = some u → ys[i]? = some v → VR ι N u v)
    (hu : (if g then some (.agg (xs.extract off (off + n))) else xs[off]?) = some u) : ∃ rv, (part t ys off).run E.P w = .ok rv w ∧ VR ι N u rv := by
  unfold part
  simp only [Sem.run_bind, run_isAgg hg, Result.andThen]
  cases g with
  | true =>
    simp only [if_true, Option.some.injEq] at hu
    subst hu
    refine ⟨.agg (ys.extract off (off + n)), ?_, vr_extract hs h _ _⟩
    simp [run_sizeOf hn, Result.andThen]
  | false =>
    simp only [Bool.false_eq_true, if_false] at hu ⊢
    have hlt : off < ys.size := by rw [← hs]; exact (Array.getElem?_eq_some_iff.1 hu).1
    refine ⟨ys[off], ?_, h off u _ hu (Array.getElem?_eq_getElem hlt)⟩
    simp [Array.getElem?_eq_getElem hlt]

theorem run_sliceBound {k : IntKind} {n : Int} {y : Nat} {code : BoundsCode} (h0 : 0 ≤ n) (h1 : n.toNat ≤ y) : (Instr.sliceBound (.int k n) y code).run P w = .ok n.toNat w := by
  simp only [Instr.sliceBound, asIntOf, Sem.run_bind, Sem.run_pure, Result.andThen]
  rw [if_pos ⟨h0, by omega⟩]; rfl
end
end Go.Proofs.Ytgfglinlmnbjbaa.AM
