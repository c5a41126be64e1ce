/- Every operation but a call, one theorem; and what a call looks like. Conditions: none. -/
import Derived.Test.YtfdapegcngmknaaGreatAmStr
namespace Go.Proofs.YtfdapegcngmknaaGreat.AM
open Go Go.RowKit

/-- What the translated operation is, where the small language's one is known. -/
def WShape (E : Env) (o : Oper) : IOp → Prop
  | .alloc z => ∃ t, o.op = .alloc t ∧ tzero E t = some z
  | .box x => ∃ t y, o.op = .box t y ∧ copd E y = some x
  | .s2b x => ∃ src dst e y, o.op = .convert src dst y ∧ E.P.underlying src = some .string ∧ E.P.underlying dst = some (.slice e) ∧ E.P.underlying e = some (.int .u8) ∧ copd E y = some x
  | .bslice len sz z l => ∃ t e ps, o.op = .buildSlice t len ps ∧ E.P.underlying t = some (.slice e) ∧ tsz E e = some sz ∧ tzero E e = some z ∧ len * sz ≤ 65536 ∧ z.length = sz ∧ 0 < sz ∧ cparts E (fun i => some (i * sz, sz)) ps.toList = some l
  | .mslice sz by_ z l c => ∃ t e yl yc, o.op = .makeSlice t yl yc ∧ E.P.underlying t = some (.slice e) ∧ tsz E e = some sz ∧ tby E e = some by_ ∧ tzero E e = some z ∧ copd E yl = some l ∧ copd E yc = some c ∧ z.length = sz ∧ 0 < sz
  | .load n g x => ∃ t y, o.op = .load t y ∧ tsz E t = some n ∧ tagg E t = some g ∧ copd E y = some x
  | .store n pa x => ∃ t y z, o.op = .store t y z ∧ tsz E t = some n ∧ copd E y = some pa ∧ copd E z = some x
  | .append sz by_ so x => ∃ ys yx t t' e e' z, o.op = .call { callee := .builtin .append, args := #[ys, yx], argTypes := #[t, t'] } ∧ E.P.underlying t = some (.slice e) ∧ E.P.underlying t' = some (.slice e') ∧ tsz E e = some sz ∧ tby E e = some by_ ∧ tzero E e = some z ∧
      copd E ys = some so ∧ copd E yx = some x ∧ z.length = sz ∧ 0 < sz
  | .copy sz d x => ∃ yd yx t t' e e', o.op = .call { callee := .builtin .copy, args := #[yd, yx], argTypes := #[t, t'] } ∧ E.P.underlying t = some (.slice e) ∧ E.P.underlying t' = some (.slice e') ∧ tsz E e = some sz ∧
      copd E yd = some d ∧ copd E yx = some x ∧ 0 < sz
  | .call k l => ∃ f args ty, o.op = .call { callee := .value (.func f), args := args, argTypes := ty } ∧ E.id k = f ∧ copds E args.toList = some l
  | .callv g l => ∃ g' args ty, o.op = .call { callee := .value g', args := args, argTypes := ty } ∧ copd E g' = some g ∧ copds E args.toList = some l
  | _ => True

theorem arr1 {α : Type} {a : Array α} {x : α} (h : a.toList = [x]) : a = #[x] := by rw [← Array.toList_inj]; exact h
theorem arr2 {α : Type} {a : Array α} {x y : α} (h : a.toList = [x, y]) : a = #[x, y] := by rw [← Array.toList_inj]; exact h

theorem cop_shape {E : Env} {o : Oper} {i : IOp} (hc : cop E o = some i) : WShape E o i := by
  obtain ⟨dst, op, ty, pos, after, guard⟩ := o
  cases op
  case alloc t => simp only [cop, Option.map_eq_some_iff] at hc; obtain ⟨y, hy, rfl⟩ := hc; exact ⟨t, rfl, hy⟩
  case box t x => simp only [cop, Option.map_eq_some_iff] at hc; obtain ⟨y, hy, rfl⟩ := hc; exact ⟨t, x, rfl, hy⟩
  case build t ps =>
    simp only [cop] at hc
    split at hc
    · split at hc
      · simp only [Option.map_eq_some_iff] at hc; obtain ⟨y, hy, rfl⟩ := hc; trivial
      · simp at hc
    · split at hc
      · simp only [Option.map_eq_some_iff] at hc; obtain ⟨y, hy, rfl⟩ := hc; trivial
      · simp at hc
    · simp at hc
  case buildSlice t len ps =>
    simp only [cop] at hc
    split at hc
    · rename_i e hu
      split at hc
      · rename_i sz z hsz hz
        split at hc
        · rename_i hb
          simp only [Option.map_eq_some_iff] at hc; obtain ⟨y, hy, rfl⟩ := hc
          exact ⟨t, e, ps, rfl, hu, hsz, hz, hb.1, hb.2.1, hb.2.2, hy⟩
        · simp at hc
      · simp at hc
    · simp at hc
  case makeSlice t l c =>
    simp only [cop] at hc
    split at hc
    · rename_i e hu
      split at hc
      · rename_i sz by_ z l' c' h1 h2 h3 h4 h5
        split at hc
        · rename_i hb
          injection hc with hc; subst hc
          exact ⟨t, e, l, c, rfl, hu, h1, h2, h3, h4, h5, hb.1, hb.2⟩
        · simp at hc
      · simp at hc
    · simp at hc
  case convert src dst x =>
    simp only [cop] at hc
    split at hc
    · simp only [Option.map_eq_some_iff] at hc; obtain ⟨y, hy, rfl⟩ := hc; trivial
    · rename_i e h1 h2
      split at hc
      · rename_i h3
        simp only [Option.map_eq_some_iff] at hc; obtain ⟨y, hy, rfl⟩ := hc
        exact ⟨src, dst, e, x, rfl, h1, h2, h3, hy⟩
      · simp at hc
    · simp at hc
  case load t x =>
    simp only [cop] at hc
    split at hc
    · rename_i h1 h2 h3; injection hc with hc; subst hc; exact ⟨t, x, rfl, h1, h2, h3⟩
    · simp at hc
  case store t x y =>
    simp only [cop] at hc
    split at hc
    · rename_i h1 h2 h3; injection hc with hc; subst hc; exact ⟨t, x, y, rfl, h1, h2, h3⟩
    · simp at hc
  case binOp op t x y t2 =>
    simp only [cop, cbin] at hc
    (repeat' split at hc) <;> first | (simp at hc; done) | (injection hc with hc; subst hc; trivial)
  case makeFunc fn f c =>
    cases fn <;> simp only [cop] at hc <;> (repeat' split at hc) <;> first | (simp at hc; done) | (injection hc with hc; subst hc; trivial)
  case call c =>
    obtain ⟨callee, args, argTypes⟩ := c
    cases callee with
    | value f =>
      cases f with
      | func f =>
        simp only [cop] at hc
        split at hc
        · rename_i k l h1 h2
          split at hc
          · rename_i hk; injection hc with hc; subst hc; exact ⟨f, args, argTypes, rfl, hk, h2⟩
          · simp at hc
        · simp at hc
      | tmp t =>
        simp only [cop] at hc
        split at hc
        · rename_i h1 h2; injection hc with hc; subst hc; exact ⟨_, args, argTypes, rfl, h1, h2⟩
        · simp at hc
      | const t =>
        simp only [cop] at hc
        split at hc
        · rename_i h1 h2; injection hc with hc; subst hc; exact ⟨_, args, argTypes, rfl, h1, h2⟩
        · simp at hc
      | global t => simp [cop, copd] at hc
    | invoke r m => simp [cop] at hc
    | builtin b =>
      cases b
      case append =>
        simp only [cop] at hc
        split at hc
        · rename_i ys yx t t' hax hat
          split at hc
          · rename_i e e' so x hu hu' hs hx
            split at hc
            · rename_i sz by_ z h1 h2 h3
              split at hc
              · rename_i hb
                injection hc with hc; subst hc
                exact ⟨ys, yx, t, t', e, e', z, by rw [arr2 hax, arr2 hat], hu, hu', h1, h2, h3, hs, hx, hb.1, hb.2⟩
              · simp at hc
            · simp at hc
          · simp at hc
        · simp at hc
      case copy =>
        simp only [cop] at hc
        split at hc
        · rename_i ys yx t t' hax hat
          split at hc
          · rename_i e e' so x hu hu' hs hx
            obtain ⟨sz, hsz, hc⟩ := bind_some hc
            split at hc
            · rename_i hb
              injection hc with hc; subst hc
              exact ⟨ys, yx, t, t', e, e', by rw [arr2 hax, arr2 hat], hu, hu', hsz, hs, hx, hb⟩
            · simp at hc
          · simp at hc
        · simp at hc
      all_goals
        simp only [cop] at hc
        (repeat' split at hc) <;> first | (simp at hc; done) | (injection hc with hc; subst hc; trivial)
  all_goals
    simp only [cop, Option.map_eq_some_iff] at hc
    first
      | (simp at hc; done)
      | (obtain ⟨y, hy, rfl⟩ := hc; trivial)
      | ((repeat' split at hc) <;> first | (simp at hc; done) | (injection hc with hc; subst hc; trivial) | (simp only [Option.map_eq_some_iff] at hc; obtain ⟨y, hy, rfl⟩ := hc; trivial))

section
variable {E : Env} {ι : Iota} {s : St} {a : Act} {w : World}

theorem done_of_yld {o : Oper} {u : Value} (R : Rel ι s.h w) (h : Yld E ι s.h.next a w o u) : Done E ι s a w o (some u, s.h) := by
  obtain ⟨rv, h1, h2⟩ := h
  exact ⟨ι, w, .value rv, h1, ⟨rv, rfl, h2⟩, R, Ext.refl _ _ _⟩

def isCall : IOp → Bool
  | .call .. | .callv .. => true
  | _ => false

theorem xev_sim {o : Oper} {i : IOp} {r : Option Value × AHeap} (hc : cop E o = some i) (R : Rel ι s.h w) (T : TR ι s.h.next s.t a.tmps) (he : xev E s i = some r) : Done E ι s a w o r := by
  have hw := cop_shape hc
  cases i
  case alloc z => exact alloc_sim hw R he
  case box x => exact box_sim hw R T he
  case s2b x => exact s2b_sim hw R T he
  case bslice => exact bslice_sim hw R T he
  case mslice => exact mslice_sim hw R T he
  case store => exact storeop_sim hw R T he
  case append => exact append_sim hw R T he
  case copy => exact copy_sim hw R T he
  case load n g x =>
    simp only [xev] at he
    obtain ⟨v, h1, he⟩ := bind_some he
    injection he with he; subst he
    exact done_of_yld R (lev_sim hc R T h1)
  all_goals
    simp only [xev] at he
    obtain ⟨v, h1, he⟩ := bind_some he
    injection he with he; subst he
    exact done_of_yld R (pev_sim hc T h1)
end
end Go.Proofs.YtfdapegcngmknaaGreat.AM
