/- The pure operations, one theorem: what the small language yields, the model yields. Conditions: none. -/
import Derived.Test.YtjnpdnlgkepmcaaAmVal
import Derived.Laws.Entries
import Derived.Laws.Cover1
import Derived.Laws.StructEq
import Derived.ChangeKeysEq
import Derived.Laws.Slices
namespace Go.Proofs.Ytjnpdnlgkepmcaa.AM
section
set_option linter.unusedSimpArgs false
set_option linter.unusedVariables false
open Go Go.RowKit
section
variable {P : Program} {w : World}
theorem run_ibin {op : BinOp} {k : IntKind} {a b : Int} {u : Value} {t : TypeId} {x y : Operand} (h : ibinv op k a b = some u) :
  ((do eqGuard op t x y (.int k a) (.int k b); binOp op t (.int k a) (.int k b)) : Sem Value).run P w = .ok u w ∧ vrc u = true := by
 simp only [eqGuard_at_int, Sem.run_bind, Sem.run_pure, Result.andThen]
 cases op <;> simp only [ibinv, Option.some.injEq, reduceCtorEq] at h
 case quo =>
  split at h
  · simp at h
  · rename_i hb; injection h with h; subst h; simp [binOp_quo, Op.intDiv, hb, vrc, vrc1]
 case rem =>
  split at h
  · simp at h
  · rename_i hb; injection h with h; subst h; simp [binOp_rem, Op.intDiv, hb, vrc, vrc1]
 all_goals subst h; refine ⟨?_, rfl⟩; simp [binOp, Op.intArith, Op.intBits, Op.intCmp]
theorem run_sbin {op : BinOp} {a b : ByteArray} {u : Value} {t : TypeId} {x y : Operand} (h : sbinv op a b = some u) :
  ((do eqGuard op t x y (.string a) (.string b); binOp op t (.string a) (.string b)) : Sem Value).run P w = .ok u w ∧ vrc u = true := by
 simp only [eqGuard_at_string, Sem.run_bind, Sem.run_pure, Result.andThen]
 cases op <;> simp only [sbinv, Option.some.injEq, reduceCtorEq] at h
 case add =>
  split at h
  · rename_i hb; injection h with h; subst h
    refine ⟨?_, rfl⟩
    simp only [binOp, Op.stringOp, IntKind.max_i64]
    rw [if_neg (by omega)]; rfl
  · simp at h
 all_goals subst h; exact ⟨rfl, rfl⟩
theorem run_eq_bool (d : Nat) {a b : Bool} {t : TypeId} (ht : P.underlying t = some .bool) : (Op.equalIn (d + 1) t (.bool a) (.bool b)).run P w = .ok (a == b) w := by
 simp [Op.equalIn, run_underlying ht]
theorem run_eqlneq {neq : Bool} {t : TypeId} {u v : Value} {b : Bool} (h1 : binOp .eql t u v = (do pure (.bool (← Op.equal t u v)))) (h2 : binOp .neq t u v = (do pure (.bool (!(← Op.equal t u v)))))
   (h : (Op.equalIn (9999 + 1) t u v).run P w = .ok b w) : (binOp (if neq then .neq else .eql) t u v).run P w = .ok (.bool (if neq then !b else b)) w := by
 have h' : (Op.equal t u v).run P w = .ok b w := h
 cases neq
 · simp only [Bool.false_eq_true, if_false, h1, Sem.run_bind, h', Result.andThen, Sem.run_pure]
 · simp only [if_true, h2, Sem.run_bind, h', Result.andThen, Sem.run_pure]
theorem run_bbin {neq : Bool} {a b : Bool} {t : TypeId} {x y : Operand} (ht : P.underlying t = some .bool) :
  ((do eqGuard (if neq then .neq else .eql) t x y (.bool a) (.bool b); binOp (if neq then .neq else .eql) t (.bool a) (.bool b)) : Sem Value).run P w = .ok (.bool (if neq then !(a == b) else a == b)) w := by
 simp only [eqGuard_at_bool, Sem.run_bind, Sem.run_pure, Result.andThen]
 exact run_eqlneq rfl rfl (run_eq_bool 9999 ht)
def nilKind : TypeDesc → Value → Value → Option Bool
 | .slice _, .slice a _ _, .slice none 0 0 => some a.isNone
 | .pointer _, .pointer a, .pointer none => some a.isNone
 | .func .., .nilFunc, .nilFunc => some true
 | .func .., .func .., .nilFunc => some false
 | .map .., .map a, .map none => some a.isNone
 | .interface _, .nilIface, .nilIface => some true
 | .interface _, .iface _ _, .nilIface => some false
 | _, _, _ => none
theorem run_equalIn_nil (D : Nat) {v n : Value} {b : Bool} {t : TypeId} {d : TypeDesc} (ht : P.underlying t = some d) (hk : nilKind d v n = some b) :
   (Op.equalIn (D + 1) t v n).run P w = .ok b w := by
 unfold nilKind at hk
 split at hk <;> first | (simp at hk; done) | skip
 · rename_i a l c
   injection hk with hk
   subst hk
   cases a <;> simp [Op.equalIn, run_underlying ht]
 · rename_i a
   injection hk with hk
   subst hk
   cases a <;> simp [Op.equalIn, run_underlying ht]
 · injection hk with hk
   subst hk
   simp [Op.equalIn, run_underlying ht]
 · injection hk with hk
   subst hk
   simp [Op.equalIn, run_underlying ht]
 · rename_i a
   injection hk with hk
   subst hk
   cases a <;> simp [Op.equalIn, run_underlying ht]
 · injection hk with hk
   subst hk
   simp [Op.equalIn, run_underlying ht]
 · injection hk with hk
   subst hk
   simp [Op.equalIn, run_underlying ht]
theorem eqGuard_at_nil {op : BinOp} {t : TypeId} {x : Operand} {n : Value} : (eqGuard op t x (.const n) .nilIface .nilIface : Sem Unit) = pure () := by
 cases op <;> cases x <;> rfl
theorem run_nileq {neq : Bool} {v n : Value} {b : Bool} {t : TypeId} {d : TypeDesc} {x : Operand} (ht : P.underlying t = some d) (hk : nilKind d v n = some b) :
   ((do eqGuard (if neq then .neq else .eql) t x (.const n) v n; binOp (if neq then .neq else .eql) t v n) : Sem Value).run P w = .ok (.bool (if neq then !b else b)) w := by
 have hq := run_equalIn_nil (w := w) 9999 ht hk
 unfold nilKind at hk
 split at hk <;> first | (simp at hk; done) | skip
 · rw [eqGuard_at_slice]; exact run_eqlneq rfl rfl hq
 · rw [eqGuard_at_pointer]; exact run_eqlneq rfl rfl hq
 · rw [eqGuard_at_nilFunc]; exact run_eqlneq rfl rfl hq
 · rw [eqGuard_at_func]; exact run_eqlneq rfl rfl hq
 · rw [eqGuard_at_map]; exact run_eqlneq rfl rfl hq
 · rw [eqGuard_at_nil]; exact run_eqlneq rfl rfl hq
 · rw [eqGuard_at_iface]; exact run_eqlneq rfl rfl hq
theorem run_un {op : UnOp} {v u : Value} (h : (match op, v with
   | .neg, .int k n => some (.int k (k.wrap (0 - n)))
   | .not, .bool b => some (.bool !b)
   | .xor, .int k n => some (.int k (k.wrap (BitVec.ofInt k.bits (if k.signed then -1 else k.max) ^^^ BitVec.ofInt k.bits n).toNat))
   | _, _ => (none : Option Value)) = some u) : (Op.unary op v).run P w = .ok u w ∧ vrc u = true := by
 unfold Op.unary
 split at h
 · injection h with h; subst h; exact ⟨rfl, rfl⟩
 · injection h with h; subst h; exact ⟨rfl, rfl⟩
 · injection h with h; subst h; exact ⟨rfl, rfl⟩
 · simp at h
theorem run_conv {src dst : TypeId} {k' k : IntKind} {n : Int} {ks : IntKind} (hs : P.underlying src = some (.int ks)) (hd : P.underlying dst = some (.int k)) :
  (convert src dst (.int k' n)).run P w = .ok (.int k (k.wrap n)) w := by
 simp [convert, run_underlying hs, run_underlying hd, Conv.intToInt]
theorem run_sizeOf {E : Env} {t : TypeId} {n : Nat} (h : tsz E t = some n) : (sizeOf t).run E.P w = .ok n w := by
 unfold tsz at h
 cases hi : E.P.info? t with
 | none => simp [hi] at h
 | some i => simp [hi] at h; simp [sizeOf, typeInfo, hi, h]
theorem run_bytesOf {E : Env} {t : TypeId} {n : Nat} (h : tby E t = some n) : ∃ i, (typeInfo t).run E.P w = .ok i w ∧ i.bytes = n := by
 unfold tby at h
 cases hi : E.P.info? t with
 | none => simp [hi] at h
 | some i => simp [hi] at h; exact ⟨i, by simp [typeInfo, hi], h⟩
theorem run_zero {E : Env} {t : TypeId} {z : List Value} (h : tzero E t = some z) : ∃ v, (zeroValue t).run E.P w = .ok v w ∧ v.cells.toList = z ∧ z.all vrc1 = true := by
  unfold tzero at h
  cases hi : E.P.info? t with
  | none => simp [hi] at h
  | some i =>
    simp only [hi, Option.bind_some] at h
    cases hz : i.zero with
    | none => simp [hz] at h
    | some v =>
      simp only [hz] at h
      split at h
      · rename_i ha; injection h with h; subst h
        exact ⟨v, by simp [zeroValue, typeInfo, hi, hz], rfl, ha⟩
      · simp at h
theorem run_isAgg {E : Env} {t : TypeId} {g : Bool} (h : tagg E t = some g) : (isAgg t).run E.P w = .ok g w := by
  unfold tagg at h
  cases hu : E.P.underlying t with
  | none => simp [hu] at h
  | some d =>
    simp only [hu] at h
    cases d <;> simp at h <;> subst h <;> simp [isAgg, run_underlying hu]
theorem vr_extract {ι : Iota} {N : Nat} {xs ys : Array Value} (hs : xs.size = ys.size) (h : ∀ (i : Nat) (u v : Value), xs[i]? = some u → ys[i]? = some v → VR ι N u v) (a b : Nat) :
   VR ι N (.agg (xs.extract a b)) (.agg (ys.extract a b)) := by
 refine .agg _ _ (by simp [hs]) fun i u v hu hv => ?_
 rw [Array.getElem?_extract] at hu hv
 split at hu
 · rename_i hi; rw [if_pos (by rw [← hs]; exact hi)] at hv; exact h _ u v hu hv
 · simp at hu
theorem run_part {E : Env} {t : TypeId} {n : Nat} {g : Bool} {ι : Iota} {N off : Nat} {xs ys : Array Value} {u : Value} (hn : tsz E t = some n) (hg : tagg E t = some g)
    (hs : xs.size = ys.size) (h : ∀ (i : Nat) (u v : Value), xs[i]? = some u → ys[i]? = some v → VR ι N u v)
    (hu : (if g then some (.agg (xs.extract off (off + n))) else xs[off]?) = some u) : ∃ rv, (part t ys off).run E.P w = .ok rv w ∧ VR ι N u rv := by
  unfold part
  simp only [Sem.run_bind, run_isAgg hg, Result.andThen]
  cases g with
  | true =>
    simp only [if_true, Option.some.injEq] at hu
    subst hu
    refine ⟨.agg (ys.extract off (off + n)), ?_, vr_extract hs h _ _⟩
    simp [run_sizeOf hn, Result.andThen]
  | false =>
    simp only [Bool.false_eq_true, if_false] at hu ⊢
    have hlt : off < ys.size := by rw [← hs]; exact (Array.getElem?_eq_some_iff.1 hu).1
    refine ⟨ys[off], ?_, h off u _ hu (Array.getElem?_eq_getElem hlt)⟩
    simp [Array.getElem?_eq_getElem hlt]
theorem run_sliceBound {k : IntKind} {n : Int} {y : Nat} {code : BoundsCode} (h0 : 0 ≤ n) (h1 : n.toNat ≤ y) : (Instr.sliceBound (.int k n) y code).run P w = .ok n.toNat w := by
 simp only [Instr.sliceBound, asIntOf, Sem.run_bind, Sem.run_pure, Result.andThen]
 rw [if_pos ⟨h0, by omega⟩]; rfl
end
end
section
set_option linter.unusedSimpArgs false
set_option linter.unusedVariables false
open Go Go.RowKit
section
variable {E : Env}
theorem shape_agg : ∀ (d : Nat) {t : TypeId} {s : Shp}, shape E d t = some s → tagg E t = some s.isAgg
  | 0, t, s, h => by simp [shape] at h
  | d + 1, t, s, h => by
    rw [shape] at h
    unfold tagg
    split at h
    · rename_i hu; rw [hu]; injection h with h; subst h; rfl
    · rename_i hu; rw [hu]; injection h with h; subst h; rfl
    · rename_i hu; rw [hu]; injection h with h; subst h; rfl
    · rename_i fs hu; rw [hu]
      split at h
      · simp at h
      · cases hfs : fs.toList with
        | nil => rw [hfs, shapeF] at h; injection h with h; subst h; rfl
        | cons f r =>
          rw [hfs] at h
          cases d with
          | zero => simp [shapeF] at h
          | succ d =>
            rw [shapeF] at h
            split at h
            · simp at h
            · split at h
              · injection h with h; subst h; rfl
              · simp at h
    · rename_i n e hu; rw [hu]
      split at h
      · injection h with h; subst h; cases n <;> rfl
      · simp at h
    · simp at h
theorem eqS_agg {s : Shp} (hs : s.isAgg = true) {a b : Value} {e : Bool} (h : eqS s a b = some e) : ∃ xs ys, a = .agg xs ∧ b = .agg ys := by
 cases s with
 | int k => simp [Shp.isAgg] at hs
 | bool => simp [Shp.isAgg] at hs
 | str => simp [Shp.isAgg] at hs
 | nil => unfold eqS at h; split at h <;> first | (simp at h; done) | exact ⟨_, _, rfl, rfl⟩ | (simp at *; done)
 | fld off sz s r => cases a <;> cases b <;> simp [eqS] at h; exact ⟨_, _, rfl, rfl⟩
theorem run_partS {t : TypeId} {s : Shp} {sz off : Nat} {xs : Array Value} {a : Value} {w : World} (hz : tsz E t = some sz) (hg : tagg E t = some s.isAgg) (h : partS s off sz xs = some a) :
  (part t xs off).run E.P w = .ok a w := by
 unfold partS at h
 unfold part
 simp only [Sem.run_bind, run_isAgg hg, Result.andThen]
 cases hb : s.isAgg with
 | true => rw [hb] at h; simp only [if_true, Option.some.injEq] at h; subst h; simp [run_sizeOf hz, Result.andThen]
 | false => rw [hb] at h; simp only [Bool.false_eq_true, if_false] at h ⊢; simp [h]
theorem eq_run : ∀ (d : Nat),
    (∀ (t : TypeId) (s : Shp), shape E d t = some s → ∀ D, d ≤ D → ∀ (a b : Value) (e : Bool) (w : World), eqS s a b = some e → (Op.equalIn (D + 1) t a b).run E.P w = .ok e w) ∧
    (∀ (fs : List Field) (s : Shp), shapeF E d fs = some s → ∀ D, d ≤ D → ∀ (xs ys : Array Value) (e : Bool) (w : World), eqS s (.agg xs) (.agg ys) = some e → (Op.eqFields (D + 1) xs ys fs).run E.P w = .ok e w)
  | 0 => by
    refine ⟨fun t s h => by simp [shape] at h, fun fs s h D hD xs ys e w he => ?_⟩
    cases fs with
    | nil => rw [shapeF] at h; injection h with h; subst h; simp only [eqS, Option.some.injEq] at he; subst he; rfl
    | cons f r => simp [shapeF] at h
  | d + 1 => by
    obtain ⟨ih1, ih2⟩ := eq_run d
    refine ⟨fun t s h D hD a b e w he => ?_, fun fs s h D hD xs ys e w he => ?_⟩
    · have hag := shape_agg (d + 1) h
      rw [shape] at h
      split at h
      · rename_i hu; injection h with h; subst h
        unfold eqS at he; split at he <;> first | (simp at *; done) | skip
        injection he with he; subst he; simp [Op.equalIn, run_underlying hu]
      · rename_i k hu; injection h with h; subst h
        unfold eqS at he; split at he <;> first | (simp at *; done) | skip
        rename_i hk; injection hk with hk; subst hk
        split at he
        · rename_i hkk; obtain ⟨rfl, rfl⟩ := hkk; injection he with he; subst he; simp [Op.equalIn, run_underlying hu]
        · simp at he
      · rename_i hu; injection h with h; subst h
        unfold eqS at he; split at he <;> first | (simp at *; done) | skip
        injection he with he; subst he; simp [Op.equalIn, run_underlying hu]
      · rename_i fs hu
        split at h
        · simp at h
        · rename_i hst
          have hst : E.P.stoodInHeld t = false := by simpa using hst
          have hsa : s.isAgg = true := by
            unfold tagg at hag; rw [hu] at hag; injection hag with hag; exact hag.symm
          obtain ⟨xs, ys, rfl, rfl⟩ := eqS_agg hsa he
          have hf : E.P.fieldsOf t = fs := by simp [Program.fieldsOf, hu]
          rw [run_equalIn_struct w D t xs ys (by rw [hf]; exact hu) hst, hf]
          obtain ⟨D', rfl⟩ : ∃ D', D = D' + 1 := ⟨D - 1, by omega⟩
          exact ih2 fs.toList s h D' (by omega) xs ys e w he
      · rename_i n el hu
        split at h
        · rename_i sz s' hz hs'
          injection h with h; subst h
          have hsa : (shapeA sz s' n 0).isAgg = true := by cases n <;> rfl
          obtain ⟨xs, ys, rfl, rfl⟩ := eqS_agg hsa he
          have hz' := hz
          unfold tsz at hz
          cases hi : E.P.info? el with
          | none => simp [hi] at hz
          | some i =>
            simp [hi] at hz
            have hc : E.P.cellsOf el = sz := by simp [Program.cellsOf, hi, hz]
            rw [run_equalIn_array w D xs ys hu hi, hc]
            obtain ⟨D', rfl⟩ : ∃ D', D = D' + 1 := ⟨D - 1, by omega⟩
            have hag' := shape_agg d hs'
            have key : ∀ (m k : Nat) (e : Bool), eqS (shapeA sz s' m k) (.agg xs) (.agg ys) = some e → (Op.eqItems (D' + 1) el sz xs ys (List.range' k m)).run E.P w = .ok e w := by
              intro m
              induction m with
              | zero => intro k e he; simp only [shapeA, eqS, Option.some.injEq] at he; subst he; rfl
              | succ m ihm =>
                intro k e he
                simp only [shapeA, eqS] at he
                split at he
                · rename_i a b ha hb
                  split at he
                  · rename_i hab
                    simp only [List.range'_succ, Op.eqItems, Sem.run_bind, run_partS hz' hag' ha, run_partS hz' hag' hb, ih1 el s' hs' D' (by omega) a b true w hab, Result.andThen, Bool.not_true, Bool.false_eq_true, if_false]
                    exact ihm (k + 1) e he
                  · rename_i hab
                    injection he with he; subst he
                    simp [List.range'_succ, Op.eqItems, run_partS hz' hag' ha, run_partS hz' hag' hb, ih1 el s' hs' D' (by omega) a b false w hab, Result.andThen]
                  · simp at he
                · simp at he
            have := key n 0 e he
            rwa [← List.range_eq_range'] at this
        · simp at h
      · simp at h
    · cases fs with
      | nil => rw [shapeF] at h; injection h with h; subst h; simp only [eqS, Option.some.injEq] at he; subst he; rfl
      | cons f r =>
        rw [shapeF] at h
        split at h
        · simp at h
        · rename_i hn
          split at h
          · rename_i sz s1 rest hz hs1 hrest
            injection h with h; subst h
            have hag' := shape_agg d hs1
            simp only [eqS] at he
            split at he
            · rename_i a b ha hb
              split at he
              · rename_i hab
                simp only [Op.eqFields, if_pos (show f.name ≠ "_" from hn), Sem.run_bind, run_partS hz hag' ha, run_partS hz hag' hb, ih1 f.type s1 hs1 D (by omega) a b true w hab, Result.andThen, Bool.not_true, Bool.false_eq_true, if_false]
                exact ih2 r rest hrest D (by omega) xs ys e w he
              · rename_i hab
                injection he with he; subst he
                simp only [Op.eqFields, if_pos (show f.name ≠ "_" from hn), Sem.run_bind, run_partS hz hag' ha, run_partS hz hag' hb, ih1 f.type s1 hs1 D (by omega) a b false w hab, Result.andThen, Bool.not_false, if_true]
                rfl
              · simp at he
            · simp at he
          · simp at h
theorem eqS_vr {ι : Iota} {N : Nat} : ∀ (s : Shp) {a b a' b' : Value} {e : Bool}, eqS s a b = some e → VR ι N a a' → VR ι N b b' → eqS s a' b' = some e
  | .int k, a, b, a', b', e, h, ha, hb => by
    unfold eqS at h; split at h <;> first | (simp at *; done) | skip
    rename_i hk; injection hk with hk; subst hk; cases ha; cases hb; exact h
  | .bool, a, b, a', b', e, h, ha, hb => by
    unfold eqS at h; split at h <;> first | (simp at *; done) | (cases ha; cases hb; exact h)
  | .str, a, b, a', b', e, h, ha, hb => by
    unfold eqS at h; split at h <;> first | (simp at *; done) | (cases ha; cases hb; exact h)
  | .nil, a, b, a', b', e, h, ha, hb => by
    obtain ⟨xs, ys, rfl, rfl⟩ := eqS_agg rfl h
    cases ha; cases hb; exact h
  | .fld off sz s r, a, b, a', b', e, h, ha, hb => by
    obtain ⟨xs, ys, rfl, rfl⟩ := eqS_agg rfl h
    cases ha with
    | agg _ xs' hx hxx => cases hb with
      | agg _ ys' hy hyy =>
        have part : ∀ {zs zs' : Array Value} {z : Value}, zs.size = zs'.size → (∀ (i : Nat) (u v : Value), zs[i]? = some u → zs'[i]? = some v → VR ι N u v) → partS s off sz zs = some z → ∃ z', partS s off sz zs' = some z' ∧ VR ι N z z' := by
          intro zs zs' z h1 h2 h3
          unfold partS at h3 ⊢
          split at h3
          · rename_i hg; rw [if_pos hg]; injection h3 with h3; subst h3; exact ⟨_, rfl, vr_extract h1 h2 _ _⟩
          · rename_i hg; rw [if_neg hg]
            have hlt : off < zs'.size := by rw [← h1]; exact (Array.getElem?_eq_some_iff.1 h3).1
            exact ⟨_, Array.getElem?_eq_getElem hlt, h2 _ _ _ h3 (Array.getElem?_eq_getElem hlt)⟩
        simp only [eqS] at h ⊢
        split at h
        · rename_i p q hp hq
          obtain ⟨p', hp', hpp⟩ := part hx hxx hp
          obtain ⟨q', hq', hqq⟩ := part hy hyy hq
          rw [hp', hq']
          simp only
          split at h
          · rename_i hpq; rw [eqS_vr s hpq hpp hqq]; exact eqS_vr r h (.agg _ _ hx hxx) (.agg _ _ hy hyy)
          · rename_i hpq; rw [eqS_vr s hpq hpp hqq]; exact h
          · simp at h
        · simp at h
theorem run_eqv {s : Shp} {neq : Bool} {t : TypeId} {a b : Value} {e : Bool} {x y : Operand} {w : World} (hs : shape E 40 t = some s) (hag : s.isAgg = true) (hgd : E.P.eqGuardType E.P.depth t = false) (he : eqS s a b = some e) :
  ((do eqGuard (if neq then .neq else .eql) t x y a b; binOp (if neq then .neq else .eql) t a b) : Sem Value).run E.P w = .ok (.bool (if neq then !e else e)) w := by
 obtain ⟨xs, ys, rfl, rfl⟩ := eqS_agg hag he
 rw [Sem.run_bind, run_eqGuard_agg w _ t x y xs ys hgd]
 exact run_eqlneq rfl rfl ((eq_run 40).1 t s hs 9999 (by omega) _ _ e w he)
end
end
section
set_option linter.unusedSimpArgs false
set_option linter.unusedVariables false
open Go Go.RowKit
theorem run_val {P : Program} {w w' : World} {s : Sem Value} {v : Value} (h : s.run P w = .ok v w') : ((do pure (Next.value (← s))) : Sem Next).run P w = .ok (.value v) w' := by
 simp only [Sem.run_bind, h, Result.andThen, Sem.run_pure]
theorem nilOf_of {d : TypeDesc} {y : Operand} {k : NK} (h : nilOf d y = some k) : ∃ n, y = .const n ∧ ∀ v b, vnilr k v = some b → nilKind d v n = some b := by
 unfold nilOf at h
 split at h <;> first | (simp at h; done) | skip
 all_goals
  injection h with h; subst h
  refine ⟨_, rfl, fun v b hv => ?_⟩
  unfold vnilr at hv
  split at hv <;> first | (simp at *; done) | (injection hv with hv; subst hv; rfl)
theorem bnd_of {E : Env} {s : St} {a : Act} {ι : Iota} {N d n : Nat} {x : Option Operand} {y : Option Opd} (hc : copdO E x = some y) (T : TR ι N s.t a.tmps) (h : bnd E s d y = some n) :
    (x = none ∧ y = none ∧ n = d) ∨ ∃ x' y' k m, x = some x' ∧ y = some y' ∧ a.eval x' = .int k m ∧ 0 ≤ m ∧ n = m.toNat := by
  cases x with
  | none => simp [copdO] at hc; subst hc; simp [bnd] at h; exact .inl ⟨rfl, rfl, h.symm⟩
  | some x =>
    simp only [copdO, Option.map_eq_some_iff] at hc
    obtain ⟨y', hy, rfl⟩ := hc
    unfold bnd at h
    simp only at h
    split at h
    · rename_i k m he
      split at h
      · rename_i h0
        injection h with h
        have := ev_sim hy T he
        cases hv : a.eval x with
        | int k' m' => rw [hv] at this; cases this; exact .inr ⟨x, y', _, _, rfl, rfl, hv, h0, h.symm⟩
        | _ => rw [hv] at this; cases this
      · simp at h
    · simp at h
section
variable {E : Env} {ι : Iota} {N : Nat} {s : St} {a : Act} {w : World}
theorem parts_sim {place : Nat → Option (Nat × Nat)} : ∀ {ps : List (Nat × Operand)} {qs : List (Nat × Nat × Opd)} {us : List (Nat × Nat × Value)}, cparts E place ps = some qs → TR ι N s.t a.tmps → evp E s qs = some us →
    ∀ (cs cs' : List Value) (out : List Value), VRL ι N cs cs' → fillL cs us = some out →
      ∃ out' : Array Value, Instr.fill place cs'.toArray (ps.map fun (i, x) => (i, a.eval x)) = some out' ∧ VRL ι N out out'.toList
  | [], qs, us, hc, T, he, cs, cs', out, hcs, hf => by
    simp [cparts] at hc; subst hc
    simp [evp] at he; subst he
    simp [fillL] at hf; subst hf
    exact ⟨cs'.toArray, rfl, by simpa using hcs⟩
  | (i, x) :: ps, qs, us, hc, T, he, cs, cs', out, hcs, hf => by
    simp only [cparts] at hc
    split at hc
    · rename_i off sz y l hp hy hl
      injection hc with hc; subst hc
      simp only [evp] at he
      split at he
      · rename_i v vs hv hvs
        injection he with he; subst he
        simp only [fillL] at hf
        split at hf
        · rename_i hsz
          have hvr := ev_sim hy T hv
          have hcl := VR.cells hvr
          have hs : (a.eval x).cells.size = sz := by
            have := hcl.1; simp at this; omega
          simp only [List.map_cons, Instr.fill, hp]
          rw [if_neg (by simp [hs]; have := hcs.1; omega)]
          have hset : ∀ (vs : List Value) (us : List Value) (k : Nat) (c c' : List Value), VRL ι N us vs → VRL ι N c c' →
              VRL ι N (setCells c (off + k) us) ((vs.zipIdx k).foldl (fun cs (c, j) => cs.setIfInBounds (off + j) c) c'.toArray).toList := by
            intro vs
            induction vs with
            | nil => intro us k c c' hu hcc; have : us = [] := List.eq_nil_of_length_eq_zero (by simpa using hu.1); subst this; simpa [setCells] using hcc
            | cons v vs ih =>
              intro us k c c' hu hcc
              cases us with
              | nil => simp [VRL] at hu
              | cons u us =>
                simp only [setCells, List.zipIdx_cons, List.foldl_cons]
                have h1 : (c'.toArray.setIfInBounds (off + k) v) = (c'.set (off + k) v).toArray := by simp
                rw [h1, show off + k + 1 = off + (k + 1) by omega]
                exact ih us (k + 1) _ _ hu.tail (hcc.set (off + k) hu.head)
          have h2 := hset (a.eval x).cells.toList v.cells.toList 0 cs cs' hcl hcs
          have h3 : ((a.eval x).cells.zipIdx.foldl (fun cs (c, j) => cs.setIfInBounds (off + j) c) cs'.toArray) = (((a.eval x).cells.toList.zipIdx 0).foldl (fun cs (c, j) => cs.setIfInBounds (off + j) c) cs'.toArray) := by
            rw [← Array.foldl_toList, Array.toList_zipIdx]
          obtain ⟨out', h4, h5⟩ := parts_sim hl T hvs _ _ out h2 hf
          refine ⟨out', ?_, h5⟩
          rw [h3]
          simpa using h4
        · simp at hf
      · simp at he
    · simp at hc
theorem sl_bounds {isS : Bool} {len cap : Nat} {lo hi mx : Option Operand} {l h m : Nat} {ylo yhi ymx : Option Opd}
   (hl : copdO E lo = some ylo) (hh : copdO E hi = some yhi) (hm : copdO E mx = some ymx) (T : TR ι N s.t a.tmps)
   (el : bnd E s 0 ylo = some l) (eh : bnd E s len yhi = some h) (em : bnd E s len ymx = some m) (h1 : l ≤ h) (h2 : h ≤ m) (h3 : m ≤ len) (hcap : len ≤ cap) (hno : ymx.isSome = true → yhi.isSome = true) :
   (Instr.sliceBounds isS len cap (lo.map a.eval) (hi.map a.eval) (mx.map a.eval)).run E.P w = .ok (l, h, if mx.isSome then m else cap) w := by
 rcases bnd_of hm T em with ⟨rfl, rfl, rfl⟩ | ⟨xm, ym, km, vm, rfl, rfl, hvm, hm0, rfl⟩
 · rcases bnd_of hh T eh with ⟨rfl, rfl, rfl⟩ | ⟨xh, yh, kh, vh, rfl, rfl, hvh, hh0, rfl⟩
   · rcases bnd_of hl T el with ⟨rfl, rfl, rfl⟩ | ⟨xl, yl, kl, vl, rfl, rfl, hvl, hl0, rfl⟩
     · simp [Instr.sliceBounds]
     · simp [Instr.sliceBounds, hvl, run_sliceBound hl0 (show vl.toNat ≤ h by omega), Result.andThen]
   · rcases bnd_of hl T el with ⟨rfl, rfl, rfl⟩ | ⟨xl, yl, kl, vl, rfl, rfl, hvl, hl0, rfl⟩
     · simp [Instr.sliceBounds, hvh, run_sliceBound hh0 (show vh.toNat ≤ cap by omega), Result.andThen]
     · simp [Instr.sliceBounds, hvh, hvl, run_sliceBound hh0 (show vh.toNat ≤ cap by omega), run_sliceBound hl0 h1, Result.andThen]
 · rcases bnd_of hh T eh with ⟨rfl, rfl, rfl⟩ | ⟨xh, yh, kh, vh, rfl, rfl, hvh, hh0, rfl⟩
   · simp at hno
   · rcases bnd_of hl T el with ⟨rfl, rfl, rfl⟩ | ⟨xl, yl, kl, vl, rfl, rfl, hvl, hl0, rfl⟩
     · simp [Instr.sliceBounds, hvh, hvm, run_sliceBound hm0 (show vm.toNat ≤ cap by omega), run_sliceBound hh0 h2, Result.andThen]
     · simp [Instr.sliceBounds, hvh, hvm, hvl, run_sliceBound hm0 (show vm.toNat ≤ cap by omega), run_sliceBound hh0 h2, run_sliceBound hl0 h1, Result.andThen]
end
end
section
set_option linter.unusedSimpArgs false
set_option linter.unusedVariables false
open Go Go.RowKit
section
variable {E : Env} {ι : Iota} {N : Nat} {s : St} {a : Act} {w : World}
theorem bind_some {α β : Type} {o : Option α} {f : α → Option β} {y : β} (h : o.bind f = some y) : ∃ x, o = some x ∧ f x = some y := Option.bind_eq_some_iff.1 h
theorem cbin_sim {op : BinOp} {t : TypeId} {x y : Operand} {i : IOp} {u : Value} (hc : cbin E op t x y = some i) (T : TR ι N s.t a.tmps) (he : pev E s i = some u) :
   ∃ rv, ((do eqGuard op t x y (a.eval x) (a.eval y); binOp op t (a.eval x) (a.eval y)) : Sem Value).run E.P w = .ok rv w ∧ VR ι N u rv := by
 unfold cbin at hc
 split at hc
 · rename_i ax ay hx hy
   have int : ∀ {k : IntKind} {z : Operand} {az : Opd} {n : Int}, copd E z = some az → (s.ev E az).bind (vint k) = some n → a.eval z = .int k n := by
     intro k z az n h1 h2
     obtain ⟨v, h3, h4⟩ := bind_some h2
     exact ((ev_sim h1 T h3).int_of h4).2
   split at hc
   · rename_i k hu
     split at hc
     · injection hc with hc; subst hc
       simp only [pev] at he
       obtain ⟨m, h1, he⟩ := bind_some he
       obtain ⟨n, h2, he⟩ := bind_some he
       obtain ⟨v, h3, h4⟩ := bind_some h2
       obtain ⟨k', _, hv⟩ := (ev_sim hy T h3).any_of h4
       rw [int hx h1, hv]
       split at he
       · simp at he
       · rename_i hn
         injection he with he; subst he
         refine ⟨_, ?_, .int k _⟩
         rw [eqGuard_shl, binOp_shl]
         simp [Op.shift, hn]
     · injection hc with hc; subst hc
       simp only [pev] at he
       obtain ⟨m, h1, he⟩ := bind_some he
       obtain ⟨n, h2, he⟩ := bind_some he
       obtain ⟨v, h3, h4⟩ := bind_some h2
       obtain ⟨k', _, hv⟩ := (ev_sim hy T h3).any_of h4
       rw [int hx h1, hv]
       split at he
       · simp at he
       · rename_i hn
         injection he with he; subst he
         refine ⟨_, ?_, .int k _⟩
         rw [eqGuard_shr, binOp_shr]
         simp [Op.shift, hn]
     · injection hc with hc; subst hc
       simp only [pev] at he
       obtain ⟨m, h1, he⟩ := bind_some he
       obtain ⟨n, h2, he⟩ := bind_some he
       rw [int hx h1, int hy h2]
       obtain ⟨h3, h4⟩ := run_ibin (P := E.P) (w := w) (t := t) (x := x) (y := y) he
       exact ⟨u, h3, vrc_vr h4⟩
   · injection hc with hc; subst hc
     simp only [pev] at he
     obtain ⟨m, h1, he⟩ := bind_some he
     obtain ⟨n, h2, he⟩ := bind_some he
     obtain ⟨v, h3, h4⟩ := bind_some h1
     obtain ⟨v', h5, h6⟩ := bind_some h2
     rw [((ev_sim hx T h3).str_of h4).2, ((ev_sim hy T h5).str_of h6).2]
     obtain ⟨h7, h8⟩ := run_sbin (P := E.P) (w := w) (t := t) (x := x) (y := y) he
     exact ⟨u, h7, vrc_vr h8⟩
   · rename_i hu
     have hb : ∀ neq, pev E s (.bbin neq ax ay) = some u → ∃ rv, ((do eqGuard (if neq then .neq else .eql) t x y (a.eval x) (a.eval y); binOp (if neq then .neq else .eql) t (a.eval x) (a.eval y)) : Sem Value).run E.P w = .ok rv w ∧ VR ι N u rv := by
       intro neq he
       simp only [pev] at he
       obtain ⟨m, h1, he⟩ := bind_some he
       obtain ⟨n, h2, he⟩ := bind_some he
       obtain ⟨v, h3, h4⟩ := bind_some h1
       obtain ⟨v', h5, h6⟩ := bind_some h2
       rw [((ev_sim hx T h3).bool_of h4).2, ((ev_sim hy T h5).bool_of h6).2]
       injection he with he; subst he
       exact ⟨_, run_bbin hu, .bool _⟩
     split at hc
     · injection hc with hc; subst hc; exact hb false he
     · injection hc with hc; subst hc; exact hb true he
     · simp at hc
   · rename_i fs hu
     split at hc
     · simp at hc
     · rename_i hgd
       have hb : ∀ neq sh, shape E 40 t = some sh → sh.isAgg = true → pev E s (.eqv sh neq ax ay) = some u → ∃ rv, ((do eqGuard (if neq then .neq else .eql) t x y (a.eval x) (a.eval y); binOp (if neq then .neq else .eql) t (a.eval x) (a.eval y)) : Sem Value).run E.P w = .ok rv w ∧ VR ι N u rv := by
         intro neq sh hsh hag he
         simp only [pev] at he
         obtain ⟨m, h1, he⟩ := bind_some he
         obtain ⟨n, h2, he⟩ := bind_some he
         obtain ⟨e, h3, he⟩ := bind_some he
         injection he with he; subst he
         exact ⟨_, run_eqv hsh hag (by simpa using hgd) (eqS_vr _ h3 (ev_sim hx T h1) (ev_sim hy T h2)), .bool _⟩
       have hag : ∀ sh, shape E 40 t = some sh → sh.isAgg = true := by
         intro sh hsh
         have := shape_agg 40 hsh
         unfold tagg at this; rw [hu] at this; injection this with this; exact this.symm
       split at hc
       · rename_i sh hsh; injection hc with hc; subst hc; exact hb false sh hsh (hag sh hsh) he
       · rename_i sh hsh; injection hc with hc; subst hc; exact hb true sh hsh (hag sh hsh) he
       · simp at hc
   · rename_i fs hu
     split at hc
     · simp at hc
     · rename_i hgd
       have hb : ∀ neq sh, shape E 40 t = some sh → sh.isAgg = true → pev E s (.eqv sh neq ax ay) = some u → ∃ rv, ((do eqGuard (if neq then .neq else .eql) t x y (a.eval x) (a.eval y); binOp (if neq then .neq else .eql) t (a.eval x) (a.eval y)) : Sem Value).run E.P w = .ok rv w ∧ VR ι N u rv := by
         intro neq sh hsh hag he
         simp only [pev] at he
         obtain ⟨m, h1, he⟩ := bind_some he
         obtain ⟨n, h2, he⟩ := bind_some he
         obtain ⟨e, h3, he⟩ := bind_some he
         injection he with he; subst he
         exact ⟨_, run_eqv hsh hag (by simpa using hgd) (eqS_vr _ h3 (ev_sim hx T h1) (ev_sim hy T h2)), .bool _⟩
       have hag : ∀ sh, shape E 40 t = some sh → sh.isAgg = true := by
         intro sh hsh
         have := shape_agg 40 hsh
         unfold tagg at this; rw [hu] at this; injection this with this; exact this.symm
       split at hc
       · rename_i sh hsh; injection hc with hc; subst hc; exact hb false sh hsh (hag sh hsh) he
       · rename_i sh hsh; injection hc with hc; subst hc; exact hb true sh hsh (hag sh hsh) he
       · simp at hc
   · rename_i d _ _ _ _ _ hu
     split at hc
     · rename_i k hk
       obtain ⟨n, rfl, hn⟩ := nilOf_of hk
       injection hc with hc; subst hc
       simp only [pev] at he
       obtain ⟨b, h1, he⟩ := bind_some he
       obtain ⟨v, h2, h3⟩ := bind_some h1
       injection he with he; subst he
       exact ⟨_, run_nileq (neq := false) hu (hn _ _ ((ev_sim hx T h2).nil_of h3)), .bool _⟩
     · rename_i k hk
       obtain ⟨n, rfl, hn⟩ := nilOf_of hk
       injection hc with hc; subst hc
       simp only [pev] at he
       obtain ⟨b, h1, he⟩ := bind_some he
       obtain ⟨v, h2, h3⟩ := bind_some h1
       injection he with he; subst he
       exact ⟨_, run_nileq (neq := true) hu (hn _ _ ((ev_sim hx T h2).nil_of h3)), .bool _⟩
     · simp at hc
   · simp at hc
 · simp at hc
end
end
section
set_option linter.unusedSimpArgs false
set_option linter.unusedVariables false
open Go Go.RowKit
def Yld (E : Env) (ι : Iota) (N : Nat) (a : Act) (w : World) (o : Oper) (u : Value) : Prop :=
 ∃ rv, (execOp a.eval o).run E.P w = .ok (.value rv) w ∧ VR ι N u rv
section
variable {E : Env} {ι : Iota} {N : Nat} {s : St} {a : Act} {w : World}
theorem yld_of {o : Oper} {u : Value} {sem : Sem Value} (ho : execOp a.eval o = (do pure (Next.value (← sem)))) (h : ∃ rv, sem.run E.P w = .ok rv w ∧ VR ι N u rv) : Yld E ι N a w o u := by
 obtain ⟨rv, h1, h2⟩ := h
 exact ⟨rv, by rw [ho]; exact run_val h1, h2⟩
theorem minmax_sim (mx : Bool) : ∀ (us vs : List Value) (u v z : Value), VRL ι N us vs → VR ι N u v → minmaxL mx u us = some z →
    ∃ rv, (vs.foldlM (if mx then Builtin.max2 else Builtin.min2) v).run E.P w = .ok rv w ∧ VR ι N z rv
  | [], vs, u, v, z, hl, hv, h => by
    have : vs = [] := List.eq_nil_of_length_eq_zero (by simpa using hl.1.symm)
    subst this
    simp [minmaxL] at h; subst h
    exact ⟨v, rfl, hv⟩
  | x :: us, vs, u, v, z, hl, hv, h => by
    cases vs with
    | nil => simp [VRL] at hl
    | cons y vs =>
      simp only [minmaxL] at h
      split at h
      · rename_i m hm
        have hxy := hl.head
        unfold minmax2 at hm
        split at hm
        · rename_i k p k' q
          split at hm
          · rename_i hk; subst hk
            injection hm with hm; subst hm
            cases hv; cases hxy
            obtain ⟨rv, h1, h2⟩ := minmax_sim mx us vs _ _ z hl.tail (.int k _) h
            refine ⟨rv, ?_, h2⟩
            simp only [List.foldlM_cons, Sem.run_bind]
            cases mx
            · simp only [Bool.false_eq_true, if_false] at h1 ⊢
              rw [show (Builtin.min2 (.int k p) (.int k q)).run E.P w = .ok (.int k (if q < p then q else p)) w from rfl]
              exact h1
            · simp only [if_true] at h1 ⊢
              rw [show (Builtin.max2 (.int k p) (.int k q)).run E.P w = .ok (.int k (if q > p then q else p)) w from rfl]
              exact h1
          · simp at hm
        · simp at hm
      · simp at h
theorem VR.methodOf {v : Value} {off : Nat} {t : String} {xs us : Array Value} (h : VR ι N (.func (.methodOf off t) xs us) v) : ∃ p, v = .pointer (some p) := by
 generalize hx : Value.func _ _ _ = x at h
 cases h with
 | vp e off r f h1 h => exact ⟨_, rfl⟩
 | _ => first | (cases hx; done) | (unfold VS at hx; cases hx; done) | (unfold VT at hx; cases hx; done) | (unfold VZ at hx; cases hx; done) | (unfold VE at hx; cases hx; done)
theorem pev_sim {o : Oper} {i : IOp} {u : Value} (hc : cop E o = some i) (T : TR ι N s.t a.tmps) (he : pev E s i = some u) : Yld E ι N a w o u := by
  obtain ⟨dst, op, ty, pos, after, guard⟩ := o
  cases op
  case move x =>
    simp only [cop, Option.map_eq_some_iff] at hc
    obtain ⟨y, hy, rfl⟩ := hc
    exact ⟨_, rfl, ev_sim hy T he⟩
  case assign x =>
    simp only [cop, Option.map_eq_some_iff] at hc
    obtain ⟨y, hy, rfl⟩ := hc
    exact ⟨_, rfl, ev_sim hy T he⟩
  case pick c x y =>
    simp only [cop] at hc
    split at hc
    · rename_i c' x' y' h1 h2 h3
      injection hc with hc; subst hc
      simp only [pev] at he
      obtain ⟨t, h4, he⟩ := bind_some he
      obtain ⟨v, h5, h6⟩ := bind_some h4
      have hb := ((ev_sim h1 T h5).bool_of h6).2
      refine ⟨if t then a.eval x else a.eval y, ?_, ?_⟩
      · simp [execOp, hb, asBool]
      · cases t
        · exact ev_sim h3 T (by simpa using he)
        · exact ev_sim h2 T (by simpa using he)
    · simp at hc
  case alloc t => simp only [cop, Option.map_eq_some_iff] at hc; obtain ⟨y, hy, rfl⟩ := hc; simp [pev] at he
  case box t x => simp only [cop, Option.map_eq_some_iff] at hc; obtain ⟨y, hy, rfl⟩ := hc; simp [pev] at he
  case build t ps =>
    have key : ∀ (place : Nat → Option (Nat × Nat)) (z : List Value) (l : List (Nat × Nat × Opd)), cparts E place ps.toList = some l → z.all vrc1 = true → pev E s (.build z l) = some u →
        ∃ out : Array Value, Instr.fill place z.toArray (ps.toList.map fun (i, x) => (i, a.eval x)) = some out ∧ VR ι N u (.agg out) := by
      intro place z l hl hz he
      simp only [pev] at he
      obtain ⟨qs, h1, he⟩ := bind_some he
      obtain ⟨c, h2, he⟩ := bind_some he
      injection he with he; subst he
      obtain ⟨out, h3, h4⟩ := parts_sim hl T h1 z z c (vrc_list hz) h2
      exact ⟨out, h3, by simpa using h4.toArray⟩
    simp only [cop] at hc
    split at hc
    · rename_i fs z hu hz
      split at hc
      · rename_i pl hpl
        simp only [Option.map_eq_some_iff] at hc
        obtain ⟨l, hl, rfl⟩ := hc
        obtain ⟨zv, hz1, hz2, hz3⟩ := run_zero (w := w) hz
        obtain ⟨out, h3, h4⟩ := key _ z l hl hz3 he
        refine yld_of rfl ⟨.agg out, ?_, h4⟩
        have hpl' : ∀ (fs : List Field) (pl : List (Nat × Nat)), fplaces E fs = some pl → (fs.mapM fun f => do pure (f.offset, ← sizeOf f.type) : Sem (List (Nat × Nat))).run E.P w = .ok pl w := by
          intro fs
          induction fs with
          | nil => intro pl h; simp [fplaces] at h; subst h; rfl
          | cons f fs ih =>
            intro pl h
            simp only [fplaces] at h
            split at h
            · rename_i sz l hs hl
              injection h with h; subst h
              simp only [List.mapM_cons, Sem.run_bind, run_sizeOf hs, Result.andThen, Sem.run_pure, ih l hl]
            · simp at h
        have hplA : (fs.mapM fun f => do pure (f.offset, ← sizeOf f.type) : Sem (Array (Nat × Nat))).run E.P w = .ok pl.toArray w := by
          rw [Array.mapM_eq_mapM_toList, Sem.run_map, hpl' fs.toList pl hpl]
          rfl
        simp only [Instr.build, Sem.run_bind, hz1, Result.andThen, run_underlying hu, hplA]
        have hzz : zv.cells = z.toArray := by rw [← hz2]
        have hf : (pl.toArray[·]? : Nat → Option (Nat × Nat)) = (pl[·]?) := by funext i; simp
        rw [hzz, hf, show (Array.map (fun x => (x.1, a.eval x.2)) ps).toList = ps.toList.map fun (i, x) => (i, a.eval x) by simp]
        rw [h3]
        rfl
      · simp at hc
    · rename_i n e z hu hz
      split at hc
      · rename_i sz hsz
        simp only [Option.map_eq_some_iff] at hc
        obtain ⟨l, hl, rfl⟩ := hc
        obtain ⟨zv, hz1, hz2, hz3⟩ := run_zero (w := w) hz
        obtain ⟨out, h3, h4⟩ := key _ z l hl hz3 he
        refine yld_of rfl ⟨.agg out, ?_, h4⟩
        simp only [Instr.build, Sem.run_bind, hz1, Result.andThen, run_underlying hu, run_sizeOf hsz]
        have hzz : zv.cells = z.toArray := by rw [← hz2]
        rw [hzz, show (Array.map (fun x => (x.1, a.eval x.2)) ps).toList = ps.toList.map fun (i, x) => (i, a.eval x) by simp]
        rw [h3]
        rfl
      · simp at hc
    · simp at hc
  case buildSlice t len ps =>
    simp only [cop] at hc
    split at hc
    · split at hc
      · split at hc
        · simp only [Option.map_eq_some_iff] at hc; obtain ⟨y, hy, rfl⟩ := hc; simp [pev] at he
        · simp at hc
      · simp at hc
    · simp at hc
  case insert => simp [cop] at hc
  case load t x =>
    simp only [cop] at hc
    split at hc
    · injection hc with hc; subst hc; simp [pev] at he
    · simp at hc
  case store t x y =>
    simp only [cop] at hc
    split at hc
    · injection hc with hc; subst hc; simp [pev] at he
    · simp at hc
  case ready => simp [cop] at hc
  case waits => simp [cop] at hc
  case nilCheck x =>
    simp only [cop, Option.map_eq_some_iff] at hc
    obtain ⟨y, hy, rfl⟩ := hc
    simp only [pev] at he
    obtain ⟨v, h1, he⟩ := bind_some he
    have hv := ev_sim hy T h1
    split at he
    · injection he with he; subst he
      cases hx : a.eval x with
      | pointer p =>
        rw [hx] at hv; cases hv
        exact ⟨_, by simp [execOp, hx], .ptr _ _ (by assumption)⟩
      | _ => rw [hx] at hv; cases hv
    · injection he with he; subst he
      cases hx : a.eval x with
      | func g xs ys =>
        rw [hx] at hv
        have hv' := hv
        cases hv
        exact ⟨_, by simp [execOp, hx], hv'⟩
      | _ => rw [hx] at hv; cases hv
    · injection he with he; subst he
      obtain ⟨p, hx⟩ := hv.methodOf
      exact ⟨a.eval x, by simp [execOp, hx], hv⟩
    · simp at he
  case binOp op t x y t2 =>
    exact yld_of rfl (cbin_sim hc T he)
  case unOp op t x =>
    simp only [cop, Option.map_eq_some_iff] at hc
    obtain ⟨y, hy, rfl⟩ := hc
    simp only [pev] at he
    obtain ⟨v, h1, he⟩ := bind_some he
    have hv := ev_sim hy T h1
    obtain ⟨h2, h3⟩ := run_un (P := E.P) (w := w) he
    refine yld_of rfl ⟨u, ?_, vrc_vr h3⟩
    have this : a.eval x = v := by
      generalize a.eval x = rv at hv
      split at he
      · cases hv; rfl
      · cases hv; rfl
      · cases hv; rfl
      · simp at he
    rw [this]; exact h2
  case convert src dst' x =>
    simp only [cop] at hc
    split at hc
    · rename_i ks k hs hd
      simp only [Option.map_eq_some_iff] at hc
      obtain ⟨y, hy, rfl⟩ := hc
      simp only [pev] at he
      obtain ⟨n, h1, he⟩ := bind_some he
      obtain ⟨v, h2, h3⟩ := bind_some h1
      obtain ⟨k', _, hv⟩ := (ev_sim hy T h2).any_of h3
      injection he with he; subst he
      exact yld_of rfl ⟨_, by rw [hv]; exact run_conv hs hd, .int _ _⟩
    · split at hc
      · simp only [Option.map_eq_some_iff] at hc
        obtain ⟨y, hy, rfl⟩ := hc
        simp [pev] at he
      · simp at hc
    · simp at hc
  case sliceToArrayPointer => simp [cop] at hc
  case makeInterface => simp only [cop] at hc; injection hc with hc; subst hc; simp [pev] at he
  case makeFunc fn first captured =>
    cases fn with
    | func f =>
      simp only [cop] at hc
      split at hc
      · rename_i k x y h1 h2 h3
        split at hc
        · rename_i hk
          injection hc with hc; subst hc
          simp only [pev] at he
          obtain ⟨us, h4, he⟩ := bind_some he
          obtain ⟨vs, h5, he⟩ := bind_some he
          injection he with he; subst he
          have l1 := evs_sim h2 T h4
          have l2 := evs_sim h3 T h5
          refine ⟨.func (.func f) (first.map a.eval) (captured.map a.eval), by simp [execOp, Instr.makeFunc], ?_⟩
          rw [hk]
          exact .func f _ _ _ _ (by simpa using l1.1) (fun i u v hu hv => l1.2 i u v (by simpa using hu) (by simpa [← Array.getElem?_toList] using hv)) (by simpa using l2.1) (fun i u v hu hv => l2.2 i u v (by simpa using hu) (by simpa [← Array.getElem?_toList] using hv))
        · simp at hc
      · simp at hc
    | _ => simp [cop] at hc
  case makeMap t r =>
    cases r with
    | some _ => simp [cop] at hc
    | none =>
      simp only [cop] at hc
      split at hc
      · split at hc
        · injection hc with hc; subst hc; simp [pev] at he
        · cases hc
      · cases hc
  case makeChan => simp [cop] at hc
  case makeSlice t l c =>
    simp only [cop] at hc
    split at hc
    · split at hc
      · split at hc
        · injection hc with hc; subst hc; simp [pev] at he
        · simp at hc
      · simp at hc
    · simp at hc
  case slice t x lo hi mx =>
    simp only [cop] at hc
    split at hc
    · rename_i x' lo' hi' hu h1 h2 h3 h4
      injection hc with hc; subst hc
      simp only [pev] at he
      obtain ⟨b, h5, he⟩ := bind_some he
      obtain ⟨v, h6, h7⟩ := bind_some h5
      obtain ⟨l, h8, he⟩ := bind_some he
      obtain ⟨h, h9, he⟩ := bind_some he
      have hx := ((ev_sim h1 T h6).str_of h7).2
      split at he
      · rename_i hb
        injection he with he; subst he
        have hmx : mx = none := by
          cases mx with
          | none => rfl
          | some m => simp [copdO] at h4
        subst hmx
        refine yld_of rfl ⟨_, ?_, .str _⟩
        have := sl_bounds (E := E) (w := w) (isS := false) (cap := b.size) (m := b.size) h2 h3 (show copdO E none = some none from rfl) T h8 h9 rfl hb.1 hb.2 (Nat.le_refl _) (Nat.le_refl _) (by simp)
        simp only [Option.map_none] at this
        simp [Instr.sliceAt, run_underlying hu, Instr.slice, hx, this, Result.andThen]
      · simp at he
    · rename_i e x' lo' hi' mx' hu h1 h2 h3 h4
      split at hc
      · rename_i sz hsz
        split at hc
        · simp at hc
        · rename_i hno
          injection hc with hc; subst hc
          simp only [pev] at he
          obtain ⟨b, h5, he⟩ := bind_some he
          obtain ⟨v, h6, h7⟩ := bind_some h5
          obtain ⟨l, h8, he⟩ := bind_some he
          obtain ⟨h, h9, he⟩ := bind_some he
          obtain ⟨m, h10, he⟩ := bind_some he
          split at he
          · rename_i hb
            have hno' : mx'.isSome = true → hi'.isSome = true := fun hm => by
              cases hh : hi' with
              | none => simp [hm, hh] at hno
              | some _ => rfl
            have hmx : mx'.isSome = mx.isSome := by
              cases mx with
              | none => simp [copdO] at h4; subst h4; rfl
              | some q => simp only [copdO, Option.map_eq_some_iff] at h4; obtain ⟨q', _, rfl⟩ := h4; rfl
            rcases (ev_sim h1 T h6).sl_of h7 with ⟨hbase, hlen, hex, hv, hx⟩ | ⟨blk, o, a', c', hbase, hlt, hv, hx, hn, hex, ha, hroom⟩ | ⟨z, es, hbase, hlen, _, _, hV⟩
            · rw [hbase] at he
              injection he with he; subst he
              refine yld_of rfl ⟨_, ?_, .nilslice⟩
              have this := sl_bounds (E := E) (w := w) (isS := true) (cap := 0) h2 h3 h4 T h8 h9 h10 hb.1 hb.2.1 hb.2.2 (by omega) hno'
              have hm0 : m = 0 := by omega
              have hl0 : l = 0 := by omega
              have hh0 : h = 0 := by omega
              rw [hlen, hm0, hl0, hh0, ite_self] at this
              simp only [Instr.sliceAt, Sem.run_bind, run_underlying hu, Result.andThen, Instr.slice, hx, this, run_sizeOf hsz, Sem.run_pure]
              rfl
            · rw [hbase] at he
              injection he with he; subst he
              have this := sl_bounds (E := E) (w := w) (isS := true) (cap := c') h2 h3 h4 T h8 h9 h10 hb.1 hb.2.1 hb.2.2 hn hno'
              generalize hM : (if mx.isSome = true then m else c') = M at this
              have hMl : h ≤ M := by rw [← hM]; split <;> omega
              have hMc : M ≤ c' := by rw [← hM]; split <;> omega
              refine yld_of rfl ⟨.slice (some (if M = l then a' else a'.add (l * sz))) (h - l) (M - l), ?_, ?_⟩
              · simp only [Instr.sliceAt, Sem.run_bind, run_underlying hu, Result.andThen, Instr.slice, hx, this, run_sizeOf hsz, Sem.run_pure]
                split <;> simp_all
              · refine .slice blk _ _ _ _ _ hlt ?_ (by omega) ?_ ?_
                · by_cases hz : M = l
                  · left; omega
                  · right
                    rw [if_neg hz, ha.resolve_left (by omega), Addr.add_lit, Nat.add_assoc]
                · intro hc0
                  unfold resl at hc0
                  rw [hmx] at hc0
                  cases hmm : mx.isSome with
                  | true =>
                    simp only [hmm, if_true] at hc0 hM
                    split at hc0
                    · rename_i hmh; simp at hmh; omega
                    · simp at hc0
                  | false =>
                    simp only [hmm, Bool.false_eq_true, if_false] at hc0 hM
                    split at hc0
                    · omega
                    · split at hc0
                      · rename_i hcc; have := hex hcc.1; have h3 := hcc.2; simp at h3; omega
                      · simp at hc0
                · intro z hz
                  unfold resl at hz
                  rw [hmx] at hz
                  cases hmm : mx.isSome with
                  | true => simp only [hmm, if_true] at hz; split at hz <;> simp at hz
                  | false =>
                    simp only [hmm, Bool.false_eq_true, if_false] at hz hM
                    split at hz
                    · rename_i hcode
                      have hsz' : sz = z + 1 := by omega
                      have h0 := hroom z hz
                      rw [hsz', ← hM, Nat.add_assoc, ← Nat.add_mul]
                      rw [show l + (c' - l) = c' by omega]; exact h0
                    · split at hz <;> simp at hz
            · rw [hbase] at he
              simp only at he
              split at he
              · rename_i hzz
                have he3 := he
                clear he
                subst hzz
                obtain ⟨bb, cc, hx, hcc⟩ : ∃ bb cc, a.eval x = .slice bb es.length cc ∧ es.length ≤ cc := by
                  rcases hV.vs_of with ⟨hx, h1 | ⟨a', c', h1⟩⟩ | ⟨r, f, c', _, h2, h1, _⟩
                  · exact ⟨_, _, by rw [h1, hx]; rfl, by simp [hx]⟩
                  · exact ⟨_, _, by rw [h1, hx]; rfl, by simp [hx]⟩
                  · exact ⟨_, _, h1, h2⟩
                rw [hlen] at hb h9 h10
                have this := sl_bounds (E := E) (w := w) (isS := true) (cap := cc) h2 h3 h4 T h8 h9 h10 hb.1 hb.2.1 hb.2.2 hcc hno'
                generalize hM : (if mx.isSome = true then m else cc) = M at this
                have hMl : h ≤ M := by rw [← hM]; split <;> omega
                have hMc : M ≤ cc := by rw [← hM]; split <;> omega
                have hvr : VR ι N u (.slice (bb.map fun a => if M = l then a else a.add (l * z)) (h - l) (M - l)) := by
                  split at he3
                  · rename_i hml
                    injection he3 with he3; subst he3
                    rw [if_pos (by rw [← hmx]; exact hml.1)] at hM
                    rw [show h - l = 0 by omega, show M - l = 0 by omega]
                    exact .vz _ _
                  · injection he3 with he3; subst he3
                    refine VR.subl (M := M) (by rw [← hx]; exact hV) hb.1 (by omega) hMl hMc ?_
                    cases hi' with
                    | some q => exact .inl rfl
                    | none => simp [bnd] at h9; exact .inr h9.symm
                refine yld_of rfl ⟨_, ?_, hvr⟩
                · simp only [Instr.sliceAt, Sem.run_bind, run_underlying hu, Result.andThen, Instr.slice, hx, this, run_sizeOf hsz, Sem.run_pure]
                  cases bb with
                  | none =>
                    rw [hx] at hV
                    have h00 : es.length = 0 ∧ cc = 0 := by
                      rcases hV.vs_of with ⟨h0, h1 | ⟨a', c', h1⟩⟩ | ⟨r, f, c', _, h2, h1, _⟩
                      · injection h1 with _ h1 h2; exact ⟨h1, h2⟩
                      · cases h1
                      · cases h1
                    simp [show h - l = 0 by omega, show M - l = 0 by omega]
                  | some p => split <;> simp_all
              · simp at he
          · simp at he
      · simp at hc
    · rename_i n e x' lo' hi' mx' hu h1 h2 h3 h4
      split at hc
      · rename_i sz hsz
        split at hc
        · simp at hc
        · rename_i hno
          injection hc with hc; subst hc
          simp only [pev] at he
          obtain ⟨v, h6, he⟩ := bind_some he
          obtain ⟨l, h8, he⟩ := bind_some he
          obtain ⟨h, h9, he⟩ := bind_some he
          obtain ⟨m, h10, he⟩ := bind_some he
          have hno' : mx'.isSome = true → hi'.isSome = true := fun hm => by
            cases hh : hi' with
            | none => simp [hm, hh] at hno
            | some _ => rfl
          have hM : (if mx.isSome = true then m else n) = m := by
            cases mx with
            | some q => rfl
            | none => simp [copdO] at h4; subst h4; simp [bnd] at h10; simp [h10]
          split at he
          · rename_i q hq
            split at he
            · rename_i hb
              injection he with he; subst he
              obtain ⟨hlh, hhm, hmn, hsz0, hfit⟩ := hb
              obtain ⟨r, f, hx, hcell⟩ := (ev_sim h1 T h6).vp_of hq
              have this := sl_bounds (E := E) (w := w) (isS := false) (cap := n) h2 h3 h4 T h8 h9 h10 hlh hhm hmn (Nat.le_refl _) hno'
              rw [hM] at this
              refine yld_of rfl ⟨.slice (some (if m = l then ⟨r, f + q.2, none⟩ else (⟨r, f + q.2, none⟩ : Addr).add (l * sz))) (h - l) (m - l), ?_, ?_⟩
              · simp only [Instr.sliceAt, Sem.run_bind, run_underlying hu, Result.andThen, hx, Instr.sureAddr, Sem.run_pure, this, run_sizeOf hsz]
              · have hmul : h * sz ≤ n * sz := Nat.mul_le_mul_right _ (by omega)
                have hsub : (h - l) * sz = h * sz - l * sz := Nat.sub_mul _ _ _
                have hl2 : l * sz ≤ h * sz := Nat.mul_le_mul_right _ hlh
                have hlen : (chunk (h - l) sz (q.1.cells.toList.drop (q.2 + l * sz))).length = h - l := chunk_len _ _ _ (by simp; omega)
                by_cases h0 : h = l
                · have e0 : chunk (h - l) sz (q.1.cells.toList.drop (q.2 + l * sz)) = [] := List.eq_nil_of_length_eq_zero (by omega)
                  rw [e0, show h - l = 0 by omega]; exact .vs0 _ _ _
                · rw [if_neg (by omega), Addr.add_lit]
                  have hg := chunk_get hsz0 (h - l) (q.1.cells.toList.drop (q.2 + l * sz)) (by simp; omega) (fun i u _ hu => (hcell (q.2 + l * sz + i) u (by simpa using hu)).1)
                  have hml : h - l ≤ m - l := by omega
                  generalize m - l = M at hml
                  have h20 := VR.vs_mk (ι := ι) (N := N) (c' := M) (r := r) (f := f + q.2 + l * sz) hsz0 (by rw [hlen]; exact hml) (fun i e he => (hg i e he).1) fun i j e u he hu => by
                    have h11 := (hg i e he).2.2 j u hu
                    rw [List.getElem?_drop] at h11
                    obtain ⟨h12, v, h13, h14⟩ := hcell _ u (by simpa using h11)
                    exact ⟨h12, v, by rw [← h13]; congr 1; omega, h14⟩
                  rw [hlen] at h20
                  exact h20
            · simp at he
          · obtain ⟨p, h7, he⟩ := bind_some he
            split at he
            · rename_i hb
              obtain ⟨_, hlt, hx⟩ := (ev_sim h1 T h6).ptr_of h7
              injection he with he; subst he
              have this := sl_bounds (E := E) (w := w) (isS := false) (cap := n) h2 h3 h4 T h8 h9 h10 hb.1 hb.2.1 hb.2.2.1 (Nat.le_refl _) hno'
              rw [hM] at this
              refine yld_of rfl ⟨.slice (some (if m = l then ⟨(ι p.1).r, (ι p.1).f + p.2, none⟩ else (⟨(ι p.1).r, (ι p.1).f + p.2, none⟩ : Addr).add (l * sz))) (h - l) (m - l), ?_, ?_⟩
              · simp only [Instr.sliceAt, Sem.run_bind, run_underlying hu, Result.andThen, hx, Instr.sureAddr, Sem.run_pure, this, run_sizeOf hsz]
              · refine .slice p.1 _ _ _ _ _ hlt ?_ (by omega) (fun _ => by omega) (fun z hz => by simp at hz)
                by_cases hz : m = l
                · left; omega
                · right
                  rw [if_neg hz, Addr.add_lit, Nat.add_assoc]
            · simp at he
      · simp at hc
    · simp at hc
  case fieldAddr t x i =>
    simp only [cop] at hc
    split at hc
    · rename_i fs hu
      split at hc
      · rename_i f hf
        split at hc
        · rename_i n x' hn hx'
          injection hc with hc; subst hc
          simp only [pev] at he
          obtain ⟨v, h6, he⟩ := bind_some he
          split at he
          · rename_i q hq
            injection he with he; subst he
            obtain ⟨r, f', hx, hcell⟩ := (ev_sim hx' T h6).vp_of hq
            refine yld_of rfl ⟨_, ?_, VR.vp_mk (r := r) (f := f') hcell⟩
            simp only [Instr.fieldAt, Sem.run_bind, run_underlying hu, Result.andThen, hf, hx, Instr.sureAddr, Sem.run_pure, fieldPlace, run_sizeOf hn]
            simp [Addr.add_lit, Nat.add_assoc]
          · obtain ⟨p, h7, he⟩ := bind_some he
            obtain ⟨_, hlt, hx⟩ := (ev_sim hx' T h6).ptr_of h7
            injection he with he; subst he
            refine yld_of rfl ⟨_, ?_, .ptr _ _ hlt⟩
            simp only [Instr.fieldAt, Sem.run_bind, run_underlying hu, Result.andThen, hf, hx, Instr.sureAddr, Sem.run_pure, fieldPlace, run_sizeOf hn]
            simp [Addr.add_lit, Nat.add_assoc]
        · simp at hc
      · simp at hc
    · simp at hc
  case field t x i =>
    simp only [cop] at hc
    split at hc
    · rename_i fs hu
      split at hc
      · rename_i f hf
        split at hc
        · rename_i n g x' hn hg hx'
          injection hc with hc; subst hc
          simp only [pev] at he
          obtain ⟨xs, h5, he⟩ := bind_some he
          obtain ⟨v, h6, h7⟩ := bind_some h5
          obtain ⟨_, ys, hx, hs, hh⟩ := (ev_sim hx' T h6).agg_of h7
          obtain ⟨rv, h8, h9⟩ := run_part (w := w) hn hg hs hh he
          refine yld_of rfl ⟨rv, ?_, h9⟩
          simp only [Instr.field, Sem.run_bind, run_underlying hu, Result.andThen, hf, hx, asAgg, Sem.run_pure, h8]
        · simp at hc
      · simp at hc
    · simp at hc
  case indexAddr t x i =>
    simp only [cop] at hc
    split at hc
    · rename_i e x' i' hu hx' hi'
      simp only [Option.map_eq_some_iff] at hc
      obtain ⟨sz, hsz, rfl⟩ := hc
      simp only [pev] at he
      obtain ⟨sl, h5, he⟩ := bind_some he
      obtain ⟨v, h6, h7⟩ := bind_some h5
      obtain ⟨k, h8, he⟩ := bind_some he
      obtain ⟨v', h9, h10⟩ := bind_some h8
      obtain ⟨kd, _, hi⟩ := (ev_sim hi' T h9).any_of h10
      split at he
      · rename_i blk o hbase
        split at he
        · rename_i hb
          injection he with he; subst he
          rcases (ev_sim hx' T h6).sl_of h7 with ⟨hbase', _⟩ | ⟨blk', o', a', c', hbase', hlt, hv, hx, hn, hex, ha, _⟩ | ⟨_, _, hbase', _⟩
          · rw [hbase] at hbase'; cases hbase'
          · rw [hbase] at hbase'
            injection hbase' with e1 e2
            subst e1; subst e2
            refine yld_of rfl ⟨_, ?_, .ptr _ _ hlt⟩
            rw [hx, hi]
            simp only [Instr.indexAt, Sem.run_bind, asIntOf, Sem.run_pure, Result.andThen, run_underlying hu]
            rw [if_pos hb]
            simp only [run_sizeOf hsz, Sem.run_bind, Result.andThen, Sem.run_pure]
            rw [ha.resolve_left (by omega), Addr.add_lit, Nat.add_assoc]
          · rw [hbase] at hbase'; cases hbase'
        · simp at he
      · rename_i z es hbase
        split at he
        · rename_i hb
          obtain ⟨hzz, hk0⟩ := hb
          obtain ⟨el, hel, he3⟩ := bind_some he
          injection he3 with he3
          subst hzz
          subst he3
          rcases (ev_sim hx' T h6).sl_of h7 with ⟨hbase', _⟩ | ⟨_, _, _, _, hbase', _⟩ | ⟨z', es', hbase', _, _, _, hV⟩
          · rw [hbase] at hbase'; cases hbase'
          · rw [hbase] at hbase'; cases hbase'
          · rw [hbase] at hbase'
            injection hbase' with e1 e2
            subst e1; subst e2
            have hlt : k.toNat < es.length := (List.getElem?_eq_some_iff.1 hel).1
            rcases hV.vs_of with ⟨h0, _⟩ | ⟨r, f, c', hz, hle, hx, h0, h1⟩
            · subst h0; simp at hlt
            · refine yld_of rfl ⟨_, ?_, VR.vp_mk (off := 0) (r := r) (f := f + k.toNat * z) fun j u hu => ?_⟩
              · rw [hx, hi]
                simp only [Instr.indexAt, Sem.run_bind, asIntOf, Sem.run_pure, Result.andThen, run_underlying hu]
                rw [if_pos ⟨hk0, by omega⟩]
                simp only [run_sizeOf hsz, Sem.run_bind, Result.andThen, Sem.run_pure]
                rw [Addr.add_lit]; rfl
              · exact h1 _ j el u hel hu
        · simp at he
      · simp at he
    · rename_i n e x' i' hu hx' hi'
      simp only [Option.map_eq_some_iff] at hc
      obtain ⟨sz, hsz, rfl⟩ := hc
      simp only [pev] at he
      obtain ⟨v, h6, he⟩ := bind_some he
      obtain ⟨k, h8, he⟩ := bind_some he
      obtain ⟨v', h9, h10⟩ := bind_some h8
      obtain ⟨kd, _, hi⟩ := (ev_sim hi' T h9).any_of h10
      split at he
      · rename_i q hq
        split at he
        · rename_i hb
          injection he with he; subst he
          obtain ⟨r, f', hx, hcell⟩ := (ev_sim hx' T h6).vp_of hq
          refine yld_of rfl ⟨_, ?_, VR.vp_mk (r := r) (f := f') hcell⟩
          rw [hx, hi]
          simp only [Instr.indexAt, Sem.run_bind, asIntOf, Sem.run_pure, Result.andThen, run_underlying hu, Instr.sureAddr]
          rw [if_pos hb]
          simp only [run_sizeOf hsz, Sem.run_bind, Result.andThen, Sem.run_pure]
          rw [Addr.add_lit, Nat.add_assoc]
        · simp at he
      · obtain ⟨p, h7, he⟩ := bind_some he
        obtain ⟨_, hlt, hx⟩ := (ev_sim hx' T h6).ptr_of h7
        split at he
        · rename_i hb
          injection he with he; subst he
          refine yld_of rfl ⟨_, ?_, .ptr _ _ hlt⟩
          rw [hx, hi]
          simp only [Instr.indexAt, Sem.run_bind, asIntOf, Sem.run_pure, Result.andThen, run_underlying hu, Instr.sureAddr]
          rw [if_pos hb]
          simp only [run_sizeOf hsz, Sem.run_bind, Result.andThen, Sem.run_pure]
          rw [Addr.add_lit, Nat.add_assoc]
        · simp at he
    · simp at hc
  case index t x i =>
    simp only [cop] at hc
    split at hc
    · rename_i n e x' i' hu hx' hi'
      split at hc
      · rename_i sz g hsz hg
        injection hc with hc; subst hc
        simp only [pev] at he
        obtain ⟨xs, h5, he⟩ := bind_some he
        obtain ⟨v, h6, h7⟩ := bind_some h5
        obtain ⟨k, h8, he⟩ := bind_some he
        obtain ⟨v', h9, h10⟩ := bind_some h8
        obtain ⟨kd, _, hi⟩ := (ev_sim hi' T h9).any_of h10
        obtain ⟨_, ys, hx, hs, hh⟩ := (ev_sim hx' T h6).agg_of h7
        split at he
        · rename_i hb
          obtain ⟨rv, h11, h12⟩ := run_part (w := w) hsz hg hs hh he
          refine yld_of rfl ⟨rv, ?_, h12⟩
          rw [hx, hi]
          simp only [Instr.index, Sem.run_bind, asIntOf, Sem.run_pure, Result.andThen, run_underlying hu]
          rw [if_pos hb]
          simp only [run_sizeOf hsz, Sem.run_bind, Result.andThen, h11]
        · simp at he
      · simp at hc
    · rename_i x' i' hu hx' hi'
      injection hc with hc; subst hc
      simp only [pev] at he
      obtain ⟨b, h5, he⟩ := bind_some he
      obtain ⟨v, h6, h7⟩ := bind_some h5
      obtain ⟨k, h8, he⟩ := bind_some he
      obtain ⟨v', h9, h10⟩ := bind_some h8
      obtain ⟨kd, _, hi⟩ := (ev_sim hi' T h9).any_of h10
      have hx := ((ev_sim hx' T h6).str_of h7).2
      split at he
      · rename_i hb
        split at he
        · rename_i c hcc
          injection he with he; subst he
          refine yld_of rfl ⟨_, ?_, .int _ _⟩
          rw [hx, hi]
          simp [Instr.index, asIntOf, run_underlying hu, hb, hcc]
        · simp at he
      · simp at he
    · simp at hc
  case lookup t x i c =>
    cases c with
    | true => simp [cop] at hc
    | false =>
      simp only [cop] at hc
      split at hc
      · split at hc
        · injection hc with hc; subst hc; simp [pev] at he
        · cases hc
      · cases hc
  case mapUpdate t x i v =>
    by_cases hv : v = .const (.bool true)
    · subst hv
      simp only [cop] at hc
      split at hc
      · split at hc
        · injection hc with hc; subst hc; simp [pev] at he
        · cases hc
      · cases hc
    · unfold cop at hc
      split at hc <;> first | (rename_i h; simp at h; done) | (rename_i h; injection h with h1 h2 h3 h4; exact absurd h4 hv) | cases hc
  case mapEntry => simp [cop] at hc
  case entryStore => simp [cop] at hc
  case range => simp [cop] at hc
  case next => simp [cop] at hc
  case entry => simp [cop] at hc
  case typeAssert => simp [cop] at hc
  case extract x i =>
    simp only [cop, Option.map_eq_some_iff] at hc
    obtain ⟨y, hy, rfl⟩ := hc
    simp only [pev] at he
    obtain ⟨v, h1, he⟩ := bind_some he
    have hv := ev_sim hy T h1
    split at he
    · rename_i vs
      cases hx : a.eval x with
      | tuple ws =>
        rw [hx] at hv
        cases hv with
        | tuple _ _ hs hh =>
          have hlt : i < ws.size := by rw [← hs]; exact (Array.getElem?_eq_some_iff.1 he).1
          refine yld_of rfl ⟨ws[i], ?_, hh i u _ he (Array.getElem?_eq_getElem hlt)⟩
          simp [Instr.extract, hx, Array.getElem?_eq_getElem hlt]
      | _ => rw [hx] at hv; cases hv
    · simp at he
  case go => simp [cop] at hc
  case defer => simp [cop] at hc
  case panic => simp only [cop] at hc; injection hc with hc; subst hc; simp [pev] at he
  case send => simp [cop] at hc
  case recv => simp [cop] at hc
  case select => simp [cop] at hc
  case call c =>
    obtain ⟨callee, args, argTypes⟩ := c
    cases callee with
    | value f =>
      cases f with
      | func f =>
        simp only [cop] at hc
        split at hc
        · split at hc
          · injection hc with hc; subst hc; simp [pev] at he
          · simp at hc
        · simp at hc
      | _ =>
        simp only [cop] at hc
        split at hc
        · injection hc with hc; subst hc; simp [pev] at he
        · simp at hc
    | invoke r m => simp [cop] at hc
    | builtin b =>
      cases b
      case len =>
        simp only [cop] at hc
        split at hc
        · rename_i x t hax hat
          have hA : args = #[x] := by rw [← Array.toList_inj]; exact hax
          have hT : argTypes = #[t] := by rw [← Array.toList_inj]; exact hat
          subst hA; subst hT
          split at hc
          · rename_i x' hu hx'
            injection hc with hc; subst hc
            simp only [pev] at he
            obtain ⟨b, h5, he⟩ := bind_some he
            obtain ⟨v, h6, h7⟩ := bind_some h5
            have hx := ((ev_sim hx' T h6).str_of h7).2
            injection he with he; subst he
            exact ⟨_, by simp [execOp, resolve, invoke, builtin, Builtin.len_, hx, run_underlying hu, goInt], .int _ _⟩
          · rename_i e x' hu hx'
            injection hc with hc; subst hc
            simp only [pev] at he
            obtain ⟨b, h5, he⟩ := bind_some he
            obtain ⟨v, h6, h7⟩ := bind_some h5
            injection he with he; subst he
            rcases (ev_sim hx' T h6).sl_of h7 with ⟨_, hlen, _, _, hx⟩ | ⟨_, _, _, _, _, _, _, hx, _⟩ | ⟨z, es, _, hlen, _, _, hV⟩
            rotate_left 2
            · have : ∃ bb cc, a.eval x = .slice bb es.length cc := by
                rcases hV.vs_of with ⟨hx, h1 | ⟨a', c', h1⟩⟩ | ⟨r, f, c', _, h2, h1, _⟩
                · exact ⟨_, _, by rw [h1, hx]; rfl⟩
                · exact ⟨_, _, by rw [h1, hx]; rfl⟩
                · exact ⟨_, _, h1⟩
              obtain ⟨bb, cc, hx⟩ := this
              exact ⟨.int .i64 ((b.len : Nat) : Int), by simp [execOp, resolve, invoke, builtin, Builtin.len_, hx, run_underlying hu, goInt, hlen], .int _ _⟩
            · exact ⟨.int .i64 ((b.len : Nat) : Int), by simp [execOp, resolve, invoke, builtin, Builtin.len_, hx, run_underlying hu, goInt, hlen], .int _ _⟩
            · exact ⟨_, by simp [execOp, resolve, invoke, builtin, Builtin.len_, hx, run_underlying hu, goInt], .int _ _⟩
          · rename_i n e x' hu hx'
            injection hc with hc; subst hc
            simp only [pev] at he
            injection he with he; subst he
            exact ⟨_, by simp [execOp, resolve, invoke, builtin, Builtin.len_, run_underlying hu, goInt], .int _ _⟩
          · simp at hc
        · simp at hc
      case cap =>
        simp only [cop] at hc
        split at hc
        · rename_i x t hax hat
          have hA : args = #[x] := by rw [← Array.toList_inj]; exact hax
          have hT : argTypes = #[t] := by rw [← Array.toList_inj]; exact hat
          subst hA; subst hT
          split at hc
          · rename_i e x' hu hx'
            injection hc with hc; subst hc
            simp only [pev] at he
            obtain ⟨b, h5, he⟩ := bind_some he
            obtain ⟨v, h6, h7⟩ := bind_some h5
            rcases (ev_sim hx' T h6).sl_of h7 with ⟨hk, hlen, _, _, hx⟩ | ⟨_, _, _, _, hk, _⟩ | ⟨z, es, hk, _⟩
            · rw [hk] at he
              injection he with he; subst he
              exact ⟨_, by simp [execOp, resolve, invoke, builtin, Builtin.cap_, hx, run_underlying hu, goInt], .int _ _⟩
            · rw [hk] at he; cases he
            · rw [hk] at he; cases he
          · simp at hc
        · simp at hc
      case max =>
        simp only [cop] at hc
        split at hc
        · rename_i x' r' hx
          injection hc with hc; subst hc
          simp only [pev] at he
          obtain ⟨v, h1, he⟩ := bind_some he
          obtain ⟨l, h2, he⟩ := bind_some he
          have hl : VRL ι N (v :: l) (args.toList.map a.eval) := evs_sim hx T (by simp [evs, h1, h2])
          cases ha : args.toList.map a.eval with
          | nil => rw [ha] at hl; simp [VRL] at hl
          | cons y ys =>
            rw [ha] at hl
            obtain ⟨rv, h3, h4⟩ := minmax_sim (E := E) (w := w) true l ys v y u hl.tail hl.head he
            refine ⟨rv, ?_, h4⟩
            simp only [if_true] at h3
            have hm : (Builtin.max_ argTypes ty (args.map a.eval)).run E.P w = .ok rv w := by
              simp only [Builtin.max_, Array.toList_map, ha]; exact h3
            simp [execOp, resolve, invoke, builtin, hm]
        · simp at hc
      case min =>
        simp only [cop] at hc
        split at hc
        · rename_i x' r' hx
          injection hc with hc; subst hc
          simp only [pev] at he
          obtain ⟨v, h1, he⟩ := bind_some he
          obtain ⟨l, h2, he⟩ := bind_some he
          have hl : VRL ι N (v :: l) (args.toList.map a.eval) := evs_sim hx T (by simp [evs, h1, h2])
          cases ha : args.toList.map a.eval with
          | nil => rw [ha] at hl; simp [VRL] at hl
          | cons y ys =>
            rw [ha] at hl
            obtain ⟨rv, h3, h4⟩ := minmax_sim (E := E) (w := w) false l ys v y u hl.tail hl.head he
            refine ⟨rv, ?_, h4⟩
            simp only [Bool.false_eq_true, if_false] at h3
            have hm : (Builtin.min_ argTypes ty (args.map a.eval)).run E.P w = .ok rv w := by
              simp only [Builtin.min_, Array.toList_map, ha]; exact h3
            simp [execOp, resolve, invoke, builtin, hm]
        · simp at hc
      case append =>
        simp only [cop] at hc
        (repeat' split at hc) <;> first | (simp at hc; done) | (injection hc with hc; subst hc; simp [pev] at he; done)
      case copy =>
        simp only [cop] at hc
        split at hc
        · split at hc
          · obtain ⟨sz, _, hc⟩ := bind_some hc
            split at hc
            · injection hc with hc; subst hc; simp [pev] at he
            · simp at hc
          · simp at hc
        · simp at hc
      case clear =>
        simp only [cop] at hc
        split at hc
        · split at hc
          · split at hc
            · split at hc
              · injection hc with hc; subst hc; simp [pev] at he
              · simp at hc
            · simp at hc
          · simp at hc
        · simp at hc
      all_goals (simp [cop] at hc)
end
end
end Go.Proofs.Ytjnpdnlgkepmcaa.AM
