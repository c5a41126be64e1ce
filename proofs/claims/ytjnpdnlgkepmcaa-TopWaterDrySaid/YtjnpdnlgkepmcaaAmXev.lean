/- Every operation but a call, one theorem; and what a call looks like. Conditions: none. -/
import Derived.Test.YtjnpdnlgkepmcaaAmStr
import Derived.Test.YtjnpdnlgkepmcaaAmMap
namespace Go.Proofs.Ytjnpdnlgkepmcaa.AM
set_option linter.unusedSimpArgs false
set_option linter.unusedVariables false
open Go Go.RowKit
def WShape (E : Env) (o : Oper) : IOp → Prop
 | .alloc z => ∃ t, o.op = .alloc t ∧ tzero E t = some z
 | .box x => ∃ t y, o.op = .box t y ∧ copd E y = some x
 | .s2b x => ∃ src dst e y, o.op = .convert src dst y ∧ E.P.underlying src = some .string ∧ E.P.underlying dst = some (.slice e) ∧ E.P.underlying e = some (.int .u8) ∧ copd E y = some x
 | .bslice len sz z l => ∃ t e ps, o.op = .buildSlice t len ps ∧ E.P.underlying t = some (.slice e) ∧ tsz E e = some sz ∧ tzero E e = some z ∧ len * sz ≤ 65536 ∧ z.length = sz ∧ 0 < sz ∧ cparts E (fun i => some (i * sz, sz)) ps.toList = some l
 | .mslice sz by_ z l c => ∃ t e yl yc, o.op = .makeSlice t yl yc ∧ E.P.underlying t = some (.slice e) ∧ tsz E e = some sz ∧ tby E e = some by_ ∧ tzero E e = some z ∧ copd E yl = some l ∧ copd E yc = some c ∧ z.length = sz ∧ 0 < sz
 | .load n g x => ∃ t y, o.op = .load t y ∧ tsz E t = some n ∧ tagg E t = some g ∧ copd E y = some x
 | .store n pa x => ∃ t y z, o.op = .store t y z ∧ tsz E t = some n ∧ copd E y = some pa ∧ copd E z = some x
 | .append sz by_ so x => ∃ ys yx t t' e e' z, o.op = .call { callee := .builtin .append, args := #[ys, yx], argTypes := #[t, t'] } ∧ E.P.underlying t = some (.slice e) ∧ E.P.underlying t' = some (.slice e') ∧ tsz E e = some sz ∧ tby E e = some by_ ∧ tzero E e = some z ∧
  copd E ys = some so ∧ copd E yx = some x ∧ z.length = sz ∧ 0 < sz
 | .appz sz by_ z so x => ∃ ys yx t t' e, o.op = .call { callee := .builtin .append, args := #[ys, yx], argTypes := #[t, t'] } ∧ E.P.underlying t = some (.slice e) ∧ E.P.underlying t' = some (.int .i64) ∧ tsz E e = some sz ∧ tby E e = some by_ ∧ tzero E e = some z ∧
  copd E ys = some so ∧ copd E yx = some x ∧ z.length = sz ∧ 0 < sz
 | .copy sz d x => ∃ yd yx t t' e e', o.op = .call { callee := .builtin .copy, args := #[yd, yx], argTypes := #[t, t'] } ∧ E.P.underlying t = some (.slice e) ∧ E.P.underlying t' = some (.slice e') ∧ tsz E e = some sz ∧
  copd E yd = some d ∧ copd E yx = some x ∧ 0 < sz
 | .clr sz z x => ∃ yx t e, o.op = .call { callee := .builtin .clear, args := #[yx], argTypes := #[t] } ∧ E.P.underlying t = some (.slice e) ∧ tsz E e = some sz ∧ tzero E e = some z ∧ copd E yx = some x ∧ z.length = sz ∧ 0 < sz
 | .mp n x y => MPS E o x y n
 | .sliceV sz x lo hi mx => ∃ t y ylo yhi ymx e, o.op = .slice t y ylo yhi ymx ∧ E.P.underlying t = some (.slice e) ∧ copd E y = some x ∧ copdO E ylo = some lo ∧ copdO E yhi = some hi ∧ copdO E ymx = some mx ∧ tsz E e = some sz
 | .call k l => ∃ f args ty, o.op = .call { callee := .value (.func f), args := args, argTypes := ty } ∧ E.id k = f ∧ copds E args.toList = some l
 | .callv g l => ∃ g' args ty, o.op = .call { callee := .value g', args := args, argTypes := ty } ∧ copd E g' = some g ∧ copds E args.toList = some l
 | _ => True
theorem arr1 {α : Type} {a : Array α} {x : α} (h : a.toList = [x]) : a = #[x] := by rw [← Array.toList_inj]; exact h
theorem arr2 {α : Type} {a : Array α} {x y : α} (h : a.toList = [x, y]) : a = #[x, y] := by rw [← Array.toList_inj]; exact h
theorem cop_shape {E : Env} {o : Oper} {i : IOp} (hc : cop E o = some i) : WShape E o i := by
  obtain ⟨dst, op, ty, pos, after, guard⟩ := o
  cases op
  case alloc t => simp only [cop, Option.map_eq_some_iff] at hc; obtain ⟨y, hy, rfl⟩ := hc; exact ⟨t, rfl, hy⟩
  case box t x => simp only [cop, Option.map_eq_some_iff] at hc; obtain ⟨y, hy, rfl⟩ := hc; exact ⟨t, x, rfl, hy⟩
  case build t ps =>
    simp only [cop] at hc
    split at hc
    · split at hc
      · simp only [Option.map_eq_some_iff] at hc; obtain ⟨y, hy, rfl⟩ := hc; trivial
      · simp at hc
    · split at hc
      · simp only [Option.map_eq_some_iff] at hc; obtain ⟨y, hy, rfl⟩ := hc; trivial
      · simp at hc
    · simp at hc
  case buildSlice t len ps =>
    simp only [cop] at hc
    split at hc
    · rename_i e hu
      split at hc
      · rename_i sz z hsz hz
        split at hc
        · rename_i hb
          simp only [Option.map_eq_some_iff] at hc; obtain ⟨y, hy, rfl⟩ := hc
          exact ⟨t, e, ps, rfl, hu, hsz, hz, hb.1, hb.2.1, hb.2.2, hy⟩
        · simp at hc
      · simp at hc
    · simp at hc
  case makeMap t r =>
    cases r with
    | some _ => simp [cop] at hc
    | none =>
      simp only [cop] at hc
      split at hc
      · split at hc
        · injection hc with hc; subst hc; exact ⟨t, rfl⟩
        · cases hc
      · cases hc
  case lookup t x i c =>
    cases c with
    | true => simp [cop] at hc
    | false =>
      simp only [cop] at hc
      split at hc
      · rename_i k e px pi hu hx hi
        split at hc
        · rename_i hk hz
          injection hc with hc; subst hc; exact ⟨t, x, i, k, e, rfl, hu, hx, hi, hk, hz⟩
        · cases hc
      · cases hc
  case mapUpdate t x i v =>
    by_cases hv : v = .const (.bool true)
    · subst hv
      simp only [cop] at hc
      split at hc
      · rename_i k e px pi hu hx hi
        split at hc
        · rename_i hk
          injection hc with hc; subst hc; exact ⟨t, x, i, k, e, rfl, hu, hx, hi, hk⟩
        · cases hc
      · cases hc
    · unfold cop at hc
      split at hc <;> first | (rename_i h; simp at h; done) | (rename_i h; injection h with h1 h2 h3 h4; exact absurd h4 hv) | cases hc
  case makeSlice t l c =>
    simp only [cop] at hc
    split at hc
    · rename_i e hu
      split at hc
      · rename_i sz by_ z l' c' h1 h2 h3 h4 h5
        split at hc
        · rename_i hb
          injection hc with hc; subst hc
          exact ⟨t, e, l, c, rfl, hu, h1, h2, h3, h4, h5, hb.1, hb.2⟩
        · simp at hc
      · simp at hc
    · simp at hc
  case convert src dst x =>
    simp only [cop] at hc
    split at hc
    · simp only [Option.map_eq_some_iff] at hc; obtain ⟨y, hy, rfl⟩ := hc; trivial
    · rename_i e h1 h2
      split at hc
      · rename_i h3
        simp only [Option.map_eq_some_iff] at hc; obtain ⟨y, hy, rfl⟩ := hc
        exact ⟨src, dst, e, x, rfl, h1, h2, h3, hy⟩
      · simp at hc
    · simp at hc
  case load t x =>
    simp only [cop] at hc
    split at hc
    · rename_i h1 h2 h3; injection hc with hc; subst hc; exact ⟨t, x, rfl, h1, h2, h3⟩
    · simp at hc
  case slice t x lo hi mx =>
    simp only [cop] at hc
    split at hc
    · injection hc with hc; subst hc; trivial
    · rename_i e x' lo' hi' mx' hu h1 h2 h3 h4
      split at hc
      · rename_i sz hsz
        split at hc
        · simp at hc
        · injection hc with hc; subst hc; exact ⟨t, x, lo, hi, mx, e, rfl, hu, h1, h2, h3, h4, hsz⟩
      · simp at hc
    · (repeat' split at hc) <;> first | (simp at hc; done) | (injection hc with hc; subst hc; trivial)
    · (repeat' split at hc) <;> first | (simp at hc; done) | (injection hc with hc; subst hc; trivial)
  case store t x y =>
    simp only [cop] at hc
    split at hc
    · rename_i h1 h2 h3; injection hc with hc; subst hc; exact ⟨t, x, y, rfl, h1, h2, h3⟩
    · simp at hc
  case binOp op t x y t2 =>
    simp only [cop, cbin] at hc
    (repeat' split at hc) <;> first | (simp at hc; done) | (injection hc with hc; subst hc; trivial)
  case makeFunc fn f c =>
    cases fn <;> simp only [cop] at hc <;> (repeat' split at hc) <;> first | (simp at hc; done) | (injection hc with hc; subst hc; trivial)
  case call c =>
    obtain ⟨callee, args, argTypes⟩ := c
    cases callee with
    | value f =>
      cases f with
      | func f =>
        simp only [cop] at hc
        split at hc
        · rename_i k l h1 h2
          split at hc
          · rename_i hk; injection hc with hc; subst hc; exact ⟨f, args, argTypes, rfl, hk, h2⟩
          · simp at hc
        · simp at hc
      | tmp t =>
        simp only [cop] at hc
        split at hc
        · rename_i h1 h2; injection hc with hc; subst hc; exact ⟨_, args, argTypes, rfl, h1, h2⟩
        · simp at hc
      | const t =>
        simp only [cop] at hc
        split at hc
        · rename_i h1 h2; injection hc with hc; subst hc; exact ⟨_, args, argTypes, rfl, h1, h2⟩
        · simp at hc
      | global t => simp [cop, copd] at hc
    | invoke r m => simp [cop] at hc
    | builtin b =>
      cases b
      case append =>
        simp only [cop] at hc
        split at hc
        · rename_i ys yx t t' hax hat
          split at hc
          · rename_i e e' so x hu hu' hs hx
            split at hc
            · rename_i sz by_ z h1 h2 h3
              split at hc
              · rename_i hb
                injection hc with hc; subst hc
                exact ⟨ys, yx, t, t', e, e', z, by rw [arr2 hax, arr2 hat], hu, hu', h1, h2, h3, hs, hx, hb.1, hb.2⟩
              · simp at hc
            · simp at hc
          · rename_i e so x hu hu' hs hx
            split at hc
            · rename_i sz by_ z h1 h2 h3
              split at hc
              · rename_i hb
                injection hc with hc; subst hc
                exact ⟨ys, yx, t, t', e, by rw [arr2 hax, arr2 hat], hu, hu', h1, h2, h3, hs, hx, hb.1, hb.2⟩
              · simp at hc
            · simp at hc
          · simp at hc
        · simp at hc
      case copy =>
        simp only [cop] at hc
        split at hc
        · rename_i ys yx t t' hax hat
          split at hc
          · rename_i e e' so x hu hu' hs hx
            obtain ⟨sz, hsz, hc⟩ := bind_some hc
            split at hc
            · rename_i hb
              injection hc with hc; subst hc
              exact ⟨ys, yx, t, t', e, e', by rw [arr2 hax, arr2 hat], hu, hu', hsz, hs, hx, hb⟩
            · simp at hc
          · simp at hc
        · simp at hc
      case clear =>
        simp only [cop] at hc
        split at hc
        · rename_i yx t hax hat
          split at hc
          · rename_i e x hu hx
            split at hc
            · rename_i sz z h1 h2
              split at hc
              · rename_i hb
                injection hc with hc; subst hc
                exact ⟨yx, t, e, by rw [arr1 hax, arr1 hat], hu, h1, h2, hx, hb.1, hb.2⟩
              · simp at hc
            · simp at hc
          · simp at hc
        · simp at hc
      all_goals
        simp only [cop] at hc
        (repeat' split at hc) <;> first | (simp at hc; done) | (injection hc with hc; subst hc; trivial)
  all_goals
    simp only [cop, Option.map_eq_some_iff] at hc
    first
      | (simp at hc; done)
      | (obtain ⟨y, hy, rfl⟩ := hc; trivial)
      | ((repeat' split at hc) <;> first | (simp at hc; done) | (injection hc with hc; subst hc; trivial) | (simp only [Option.map_eq_some_iff] at hc; obtain ⟨y, hy, rfl⟩ := hc; trivial))
section
variable {E : Env} {ι : Iota} {s : St} {a : Act} {w : World}
theorem done_of_yld {o : Oper} {u : Value} (R : Rel ι s.h w) (h : Yld E ι s.h.next a w o u) : Done E ι s a w o (some u, s.h) := by
 obtain ⟨rv, h1, h2⟩ := h
 exact ⟨ι, w, .value rv, h1, ⟨rv, rfl, h2⟩, R, Ext.refl _ _ _⟩
def isCall : IOp → Bool
 | .call .. | .callv .. => true
 | _ => false
theorem sev_sim {o : Oper} {sz : Nat} {x : Opd} {lo hi mx : Option Opd} {u : Value × AHeap} (hc : cop E o = some (.sliceV sz x lo hi mx)) (R : Rel ι s.h w) (T : TR ι s.h.next s.t a.tmps) (he : sev E s sz x lo hi mx = some u) : Done E ι s a w o (some u.1, u.2) := by
  obtain ⟨t, y, ylo, yhi, ymx, e, hop, hu, h1, h2, h3, h4, hsz⟩ := cop_shape hc
  unfold sev at he
  split at he
  · rename_i hi0
    obtain ⟨sa, h5, he⟩ := bind_some he
    obtain ⟨v, h6, h7⟩ := bind_some h5
    split at he
    · rename_i b o' hbase
      split at he
      · rename_i c hg
        obtain ⟨l, h8, he⟩ := bind_some he
        obtain ⟨h, h9, he⟩ := bind_some he
        split at he
        · rename_i hcond
          obtain ⟨hcode, hpos, hle, hrow⟩ := hcond
          injection he with he; subst he
          rcases (ev_sim h1 T h6).sl_of h7 with ⟨hb', _⟩ | ⟨blk, oo, a', c', hb', hlt, hv, hx, hn, hex, ha, hroom⟩ | ⟨z, es, hb', _⟩
          · rw [hbase] at hb'; cases hb'
          · rw [hbase] at hb'; injection hb' with e1 e2; subst e1; subst e2
            obtain ⟨hlen, htot, _⟩ := R.rw b c hg
            obtain ⟨z', hz'⟩ : ∃ z', sz = z' + 1 := ⟨sz - 1, by omega⟩
            have hr := hroom z' (by omega)
            rw [← hz'] at hr
            have hcap : h ≤ c' := by
              have : h * sz ≤ c' * sz := by omega
              exact Nat.le_of_mul_le_mul_right this hpos
            have h9' : bnd E s c' (some hi0) = some h := by
              unfold bnd at h9 ⊢
              exact h9
            have this := sl_bounds (E := E) (w := w) (isS := true) (len := c') (cap := c') (m := c') h2 h3 h4 T (by cases lo with | none => exact h8 | some q => unfold bnd at h8 ⊢; exact h8) h9' rfl hle hcap (Nat.le_refl _) (Nat.le_refl _) (by simp)
            have hmx : ymx = none := by
              cases ymx with
              | none => rfl
              | some q => simp [copdO] at h4
            subst hmx
            simp only [Option.map_none, Option.isSome_none, Bool.false_eq_true, if_false] at this
            have hb2 : (Instr.sliceBounds true sa.len c' (ylo.map a.eval) (yhi.map a.eval) none).run E.P w = .ok (l, h, c') w := by
              have hyhi : ∃ q, yhi = some q := by
                cases yhi with
                | none => simp [copdO] at h3
                | some q => exact ⟨q, rfl⟩
              obtain ⟨q, rfl⟩ := hyhi
              exact this
            refine ⟨ι, w, .value (.slice (some (if c' = l then a' else a'.add (l * sz))) (h - l) (c' - l)), ?_, ⟨_, rfl, ?_⟩, R, Ext.refl _ _ _⟩
            · unfold execOp
              simp only [hop, Instr.sliceAt, Sem.run_bind, run_underlying hu, Result.andThen, Instr.slice, hx, Option.map_none, hb2, run_sizeOf hsz, Sem.run_pure]
              split <;> simp_all
            · refine .slice b _ _ _ _ _ hlt ?_ (by omega) (fun h0 => by omega) ?_
              · by_cases hz : c' = l
                · left; omega
                · right
                  rw [if_neg hz, ha.resolve_left (by omega), Addr.add_lit, Nat.add_assoc]
              · intro z hz
                have : z = z' := by omega
                subst this
                rw [hz', Nat.add_assoc, ← Nat.add_mul, show l + (c' - l) = c' by omega, ← hz']; exact hr
          · rw [hbase] at hb'; cases hb'
        · cases he
      · cases he
    · cases he
  · rename_i hi0 mx0
    obtain ⟨sa, h5, he⟩ := bind_some he
    obtain ⟨v, h6, h7⟩ := bind_some h5
    split at he
    · rename_i z es hbase
      obtain ⟨l, h8, he⟩ := bind_some he
      obtain ⟨h, h9, he⟩ := bind_some he
      obtain ⟨m, h10, he⟩ := bind_some he
      split at he
      · rename_i hcond
        injection he with he; subst he
        obtain ⟨rfl, hpos, rfl, rfl, rfl⟩ := hcond
        rcases (ev_sim h1 T h6).sl_of h7 with ⟨hb', _⟩ | ⟨blk, oo, a', c', hb', _⟩ | ⟨z', es', hb', hlen, _, _, hV⟩
        · rw [hbase] at hb'; cases hb'
        · rw [hbase] at hb'; cases hb'
        · rw [hbase] at hb'; injection hb' with e1 e2; subst e1; subst e2
          obtain ⟨bb, cc, hx, hcc⟩ : ∃ bb cc, a.eval y = .slice bb es.length cc ∧ es.length ≤ cc := by
            rcases hV.vs_of with ⟨hx, h1 | ⟨a', c', h1⟩⟩ | ⟨r, f, c', _, h2, h1, _⟩
            · exact ⟨_, _, by rw [h1, hx]; rfl, by simp [hx]⟩
            · exact ⟨_, _, by rw [h1, hx]; rfl, by simp [hx]⟩
            · exact ⟨_, _, h1, h2⟩
          have := sl_bounds (E := E) (w := w) (isS := true) (len := es.length) (cap := cc) (m := es.length) h2 h3 h4 T (by cases lo with | none => exact h8 | some q => unfold bnd at h8 ⊢; exact h8) (by unfold bnd at h9 ⊢; exact h9) (by unfold bnd at h10 ⊢; exact h10) (Nat.zero_le _) (Nat.le_refl _) (Nat.le_refl _) hcc (by simp)
          have hmx : ymx.isSome = true := by
            cases ymx with
            | none => simp [copdO] at h4
            | some q => rfl
          rw [if_pos hmx] at this
          have hvr : VR ι s.h.next (VS z es) (.slice (bb.map fun a => if es.length = 0 then a else a.add (0 * z)) (es.length - 0) (es.length - 0)) := by
            have := VR.subl (M := es.length) (l := 0) (h := es.length) (hi := true) (by rw [← hx]; exact hV) (Nat.zero_le _) (Nat.le_refl _) (Nat.le_refl _) hcc (.inl rfl)
            rw [show AM.subl es 0 es.length true = es by simp [AM.subl]] at this
            exact this
          have hT : TailR ⟨0, 0, 0, es.length, true⟩ ι.im es.length 0 w := ⟨rfl, rfl, fun _ => .inr rfl, fun _ => rfl, fun h => by simp at h⟩
          have R1 := R.addTail (t := ⟨0, 0, 0, es.length, true⟩) (fun h => by simp at h) hT
          have X1 := (Ext.refl ι s.h w).addTail (t := ⟨0, 0, 0, es.length, true⟩) (n := es.length) (z := 0) (fun h => by simp at h)
          refine ⟨_, w, .value _, ?_, ⟨_, rfl, .vt z es s.h.next (.slice (bb.map fun a => if es.length = 0 then a else a.add (0 * z)) (es.length - 0) (es.length - 0)) (by simp) (hvr.more (by simp) X1.up) (by simp [updT]) (fun _ => .inl ⟨by simp [updT], _, rfl⟩)⟩, R1, X1⟩
          unfold execOp
          simp only [hop, Instr.sliceAt, Sem.run_bind, run_underlying hu, Result.andThen, Instr.slice, hx, this, run_sizeOf hsz, Sem.run_pure]
          cases bb with
          | none =>
            rw [hx] at hV
            have h00 : es.length = 0 ∧ cc = 0 := by
              rcases hV.vs_of with ⟨h0, h1 | ⟨a', c', h1⟩⟩ | ⟨r, f, c', _, h2, h1, _⟩
              · injection h1 with _ h1 h2; exact ⟨h1, h2⟩
              · cases h1
              · cases h1
            simp [h00.1]
          | some p => split <;> simp_all
      · cases he
    · cases he
  · cases he
theorem xev_sim {o : Oper} {i : IOp} {r : Option Value × AHeap} (hc : cop E o = some i) (R : Rel ι s.h w) (T : TR ι s.h.next s.t a.tmps) (he : xev E s i = some r) : Done E ι s a w o r := by
 have hw := cop_shape hc
 cases i
 case alloc z => exact alloc_sim hw R he
 case box x => exact box_sim hw R T he
 case s2b x => exact s2b_sim hw R T he
 case bslice => exact bslice_sim hw R T he
 case mslice => exact mslice_sim hw R T he
 case store => exact storeop_sim hw R T he
 case append => exact append_sim hw R T he
 case copy => exact copy_sim hw R T he
 case appz => exact appz_sim hw R T he
 case clr => exact clr_sim hw R T he
 case mp n x y =>
  match n, hw, he with
  | 0, hw, he => exact mp_make (x := x) (y := y) hw R he
  | 1, hw, he => exact mp_get (x := x) (y := y) hw R T he
  | n + 2, hw, he => exact mp_set (n := n) (x := x) (y := y) hw R T he
 case load n g x =>
  simp only [xev] at he
  obtain ⟨v, h1, he⟩ := bind_some he
  injection he with he; subst he
  exact done_of_yld R (lev_sim hc R T h1)
 all_goals
  simp only [xev] at he
  obtain ⟨v, h1, he⟩ := bind_some he
  injection he with he; subst he
  exact done_of_yld R (pev_sim hc T h1)
end
end Go.Proofs.Ytjnpdnlgkepmcaa.AM
