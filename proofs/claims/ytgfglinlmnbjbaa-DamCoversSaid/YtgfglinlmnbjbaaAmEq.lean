/- Comparisons of structs and arrays, part by part. Conditions: none. -/
import Derived.Test.YtgfglinlmnbjbaaAmPure
import Derived.Laws.StructEq
import Derived.ChangeKeysEq
namespace Go.Proofs.Ytgfglinlmnbjbaa.AM
set_option linter.unusedSimpArgs false
set_option linter.unusedVariables false
open Go Go.RowKit

section
variable {E : Env}

theorem shape_agg : ∀ (d : Nat) {t : TypeId} {s : Shp}, shape E d t = some s → tagg E t = some s.isAgg
  | 0, t, s, h => by simp [shape] at h
  | d + 1, t, s, h => by
    rw [shape] at h
    unfold tagg
    split at h
    · rename_i hu; rw [hu]; injection h with h; subst h; rfl
    · rename_i hu; rw [hu]; injection h with h; subst h; rfl
    · rename_i hu; rw [hu]; injection h with h; subst h; rfl
    · rename_i fs hu; rw [hu]
      split at h
      · simp at h
      · cases hfs : fs.toList with
        | nil => rw [hfs, shapeF] at h; injection h with h; subst h; rfl
        | cons f r =>
          rw [hfs] at h
          cases d with
          | zero => simp [shapeF] at h
          | succ d =>
            rw [shapeF] at h
            split at h
            · simp at h
            · split at h
              · injection h with h; subst h; rfl
              · simp at h
    · rename_i n e hu; rw [hu]
      split at h
      · injection h with h; subst h; cases n <;> rfl
      · simp at h
    · simp at h

theorem eqS_agg {s : Shp} (hs : s.isAgg = true) {a b : Value} {e : Bool} (h : eqS s a b = some e) : ∃ xs ys, a = .agg xs ∧ b = .agg ys := by
  cases s with
  | int k => simp [Shp.isAgg] at hs
  | bool => simp [Shp.isAgg] at hs
  | str => simp [Shp.isAgg] at hs
  | nil => unfold eqS at h; split at h <;> first | (simp at h; done) | exact ⟨_, _, rfl, rfl⟩ | (simp at *; done)
  | fld off sz s r => cases a <;> cases b <;> simp [eqS] at h; exact ⟨_, _, rfl, rfl⟩

/-- A part, for real. -/
theorem run_partS {t : TypeId} {s : Shp} {sz off : Nat} {xs : Array Value} {a : Value} {w : World} (hz : tsz E t = some sz) (hg : tagg E t = some s.isAgg) (h : partS s off sz xs = some a) :
    (part t xs off).run E.P w = .ok a w := by
  unfold partS at h
  unfold part
  simp only [Sem.run_bind, run_isAgg hg, Result.andThen]
  cases hb : s.isAgg with
  | true => rw [hb] at h; simp only [if_true, Option.some.injEq] at h; subst h; simp [run_sizeOf hz, Result.andThen]
  | false => rw [hb] at h; simp only [Bool.false_eq_true, if_false] at h ⊢; simp [h]

theorem eq_run : ∀ (d : Nat),
    (∀ (t : TypeId) (s : Shp), shape E d t = some s → ∀ D, d ≤ D → ∀ (a b : Value) (e : Bool) (w : World), eqS s a b = some e → (Op.equalIn (D + 1) t a b).run E.P w = .ok e w) ∧
    (∀ (fs : List Field) (s : Shp), shapeF E d fs = some s → ∀ D, d ≤ D → ∀ (xs ys : Array Value) (e : Bool) (w : World), eqS s (.agg xs) (.agg ys) = some e → (Op.eqFields (D + 1) xs ys fs).run E.P w = .ok e w)
  | 0 => by
    refine ⟨fun t s h => by simp [shape] at h, fun fs s h D hD xs ys e w he => ?_⟩
    cases fs with
    | nil => rw [shapeF] at h; injection h with h; subst h; simp only [eqS, Option.some.injEq] at he; subst he; rfl
    | cons f r => simp [shapeF] at h
  | d + 1 => by
    obtain ⟨ih1, ih2⟩ := eq_run d
    refine ⟨fun t s h D hD a b e w he => ?_, fun fs s h D hD xs ys e w he => ?_⟩
    · have hag := shape_agg (d + 1) h
      rw [shape] at h
      split at h
      · rename_i hu; injection h with h; subst h
        unfold eqS at he; split at he <;> first | (simp at *; done) | skip
        injection he with he; subst he; simp [Op.equalIn, run_underlying hu]
      · rename_i k hu; injection h with h; subst h
        unfold eqS at he; split at he <;> first | (simp at *; done) | skip
        rename_i hk; injection hk with hk; subst hk
        split at he
        · rename_i hkk; obtain ⟨rfl, rfl⟩ := hkk; injection he with he; subst he; simp [Op.equalIn, run_underlying hu]
        · simp at he
      · rename_i hu; injection h with h; subst h
        unfold eqS at he; split at he <;> first | (simp at *; done) | skip
        injection he with he; subst he; simp [Op.equalIn, run_underlying hu]
      · rename_i fs hu
        split at h
        · simp at h
        · rename_i hst
          have hst : E.P.stoodInHeld t = false := by simpa using hst
          have hsa : s.isAgg = true := by
            unfold tagg at hag; rw [hu] at hag; injection hag with hag; exact hag.symm
          obtain ⟨xs, ys, rfl, rfl⟩ := eqS_agg hsa he
          have hf : E.P.fieldsOf t = fs := by simp [Program.fieldsOf, hu]
          rw [run_equalIn_struct w D t xs ys (by rw [hf]; exact hu) hst, hf]
          obtain ⟨D', rfl⟩ : ∃ D', D = D' + 1 := ⟨D - 1, by omega⟩
          exact ih2 fs.toList s h D' (by omega) xs ys e w he
      · rename_i n el hu
        split at h
        · rename_i sz s' hz hs'
          injection h with h; subst h
          have hsa : (shapeA sz s' n 0).isAgg = true := by cases n <;> rfl
          obtain ⟨xs, ys, rfl, rfl⟩ := eqS_agg hsa he
          have hz' := hz
          unfold tsz at hz
          cases hi : E.P.info? el with
          | none => simp [hi] at hz
          | some i =>
            simp [hi] at hz
            have hc : E.P.cellsOf el = sz := by simp [Program.cellsOf, hi, hz]
            rw [run_equalIn_array w D xs ys hu hi, hc]
            obtain ⟨D', rfl⟩ : ∃ D', D = D' + 1 := ⟨D - 1, by omega⟩
            have hag' := shape_agg d hs'
            have key : ∀ (m k : Nat) (e : Bool), eqS (shapeA sz s' m k) (.agg xs) (.agg ys) = some e → (Op.eqItems (D' + 1) el sz xs ys (List.range' k m)).run E.P w = .ok e w := by
              intro m
              induction m with
              | zero => intro k e he; simp only [shapeA, eqS, Option.some.injEq] at he; subst he; rfl
              | succ m ihm =>
                intro k e he
                simp only [shapeA, eqS] at he
                split at he
                · rename_i a b ha hb
                  split at he
                  · rename_i hab
                    simp only [List.range'_succ, Op.eqItems, Sem.run_bind, run_partS hz' hag' ha, run_partS hz' hag' hb, ih1 el s' hs' D' (by omega) a b true w hab, Result.andThen, Bool.not_true, Bool.false_eq_true, if_false]
                    exact ihm (k + 1) e he
                  · rename_i hab
                    injection he with he; subst he
                    simp [List.range'_succ, Op.eqItems, run_partS hz' hag' ha, run_partS hz' hag' hb, ih1 el s' hs' D' (by omega) a b false w hab, Result.andThen]
                  · simp at he
                · simp at he
            have := key n 0 e he
            rwa [← List.range_eq_range'] at this
        · simp at h
      · simp at h
    · cases fs with
      | nil => rw [shapeF] at h; injection h with h; subst h; simp only [eqS, Option.some.injEq] at he; subst he; rfl
      | cons f r =>
        rw [shapeF] at h
        split at h
        · simp at h
        · rename_i hn
          split at h
          · rename_i sz s1 rest hz hs1 hrest
            injection h with h; subst h
            have hag' := shape_agg d hs1
            simp only [eqS] at he
            split at he
            · rename_i a b ha hb
              split at he
              · rename_i hab
                simp only [Op.eqFields, if_pos (show f.name ≠ "_" from hn), Sem.run_bind, run_partS hz hag' ha, run_partS hz hag' hb, ih1 f.type s1 hs1 D (by omega) a b true w hab, Result.andThen, Bool.not_true, Bool.false_eq_true, if_false]
                exact ih2 r rest hrest D (by omega) xs ys e w he
              · rename_i hab
                injection he with he; subst he
                simp only [Op.eqFields, if_pos (show f.name ≠ "_" from hn), Sem.run_bind, run_partS hz hag' ha, run_partS hz hag' hb, ih1 f.type s1 hs1 D (by omega) a b false w hab, Result.andThen, Bool.not_false, if_true]
                rfl
              · simp at he
            · simp at he
          · simp at h

/-- The comparison does not see addresses. -/
theorem eqS_vr {ι : Iota} {N : Nat} : ∀ (s : Shp) {a b a' b' : Value} {e : Bool}, eqS s a b = some e → VR ι N a a' → VR ι N b b' → eqS s a' b' = some e
  | .int k, a, b, a', b', e, h, ha, hb => by
    unfold eqS at h; split at h <;> first | (simp at *; done) | skip
    rename_i hk; injection hk with hk; subst hk; cases ha; cases hb; exact h
  | .bool, a, b, a', b', e, h, ha, hb => by
    unfold eqS at h; split at h <;> first | (simp at *; done) | (cases ha; cases hb; exact h)
  | .str, a, b, a', b', e, h, ha, hb => by
    unfold eqS at h; split at h <;> first | (simp at *; done) | (cases ha; cases hb; exact h)
  | .nil, a, b, a', b', e, h, ha, hb => by
    obtain ⟨xs, ys, rfl, rfl⟩ := eqS_agg rfl h
    cases ha; cases hb; exact h
  | .fld off sz s r, a, b, a', b', e, h, ha, hb => by
    obtain ⟨xs, ys, rfl, rfl⟩ := eqS_agg rfl h
    cases ha with
    | agg _ xs' hx hxx => cases hb with
      | agg _ ys' hy hyy =>
        have part : ∀ {zs zs' : Array Value} {z : Value}, zs.size = zs'.size → (∀ (i : Nat) (u v : Value), zs[i]? = some u → zs'[i]? = some v → VR ι N u v) → partS s off sz zs = some z → ∃ z', partS s off sz zs' = some z' ∧ VR ι N z z' := by
          intro zs zs' z h1 h2 h3
          unfold partS at h3 ⊢
          split at h3
          · rename_i hg; rw [if_pos hg]; injection h3 with h3; subst h3; exact ⟨_, rfl, vr_extract h1 h2 _ _⟩
          · rename_i hg; rw [if_neg hg]
            have hlt : off < zs'.size := by rw [← h1]; exact (Array.getElem?_eq_some_iff.1 h3).1
            exact ⟨_, Array.getElem?_eq_getElem hlt, h2 _ _ _ h3 (Array.getElem?_eq_getElem hlt)⟩
        simp only [eqS] at h ⊢
        split at h
        · rename_i p q hp hq
          obtain ⟨p', hp', hpp⟩ := part hx hxx hp
          obtain ⟨q', hq', hqq⟩ := part hy hyy hq
          rw [hp', hq']
          simp only
          split at h
          · rename_i hpq; rw [eqS_vr s hpq hpp hqq]; exact eqS_vr r h (.agg _ _ hx hxx) (.agg _ _ hy hyy)
          · rename_i hpq; rw [eqS_vr s hpq hpp hqq]; exact h
          · simp at h
        · simp at h

theorem run_eqv {s : Shp} {neq : Bool} {t : TypeId} {a b : Value} {e : Bool} {x y : Operand} {w : World} (hs : shape E 40 t = some s) (hag : s.isAgg = true) (hgd : E.P.eqGuardType E.P.depth t = false) (he : eqS s a b = some e) :
    ((do eqGuard (if neq then .neq else .eql) t x y a b; binOp (if neq then .neq else .eql) t a b) : Sem Value).run E.P w = .ok (.bool (if neq then !e else e)) w := by
  obtain ⟨xs, ys, rfl, rfl⟩ := eqS_agg hag he
  rw [Sem.run_bind, run_eqGuard_agg w _ t x y xs ys hgd]
  exact run_eqlneq rfl rfl ((eq_run 40).1 t s hs 9999 (by omega) _ _ e w he)
end
end Go.Proofs.Ytgfglinlmnbjbaa.AM
