/- The pure operations, one theorem: what the small language yields, the model yields. Conditions: none. -/
import Derived.Test.YtacgibkgojnfeaaGreatDoorAmPev
namespace Go.Proofs.YtacgibkgojnfeaaGreatDoor.AM
set_option linter.unusedSimpArgs false
set_option linter.unusedVariables false
open Go Go.RowKit

section
variable {E : Env} {ι : Iota} {N : Nat} {s : St} {a : Act} {w : World}

theorem bind_some {α β : Type} {o : Option α} {f : α → Option β} {y : β} (h : o.bind f = some y) : ∃ x, o = some x ∧ f x = some y := Option.bind_eq_some_iff.1 h

theorem cbin_sim {op : BinOp} {t : TypeId} {x y : Operand} {i : IOp} {u : Value} (hc : cbin E op t x y = some i) (T : TR ι N s.t a.tmps) (he : pev E s i = some u) :
    ∃ rv, ((do eqGuard op t x y (a.eval x) (a.eval y); binOp op t (a.eval x) (a.eval y)) : Sem Value).run E.P w = .ok rv w ∧ VR ι N u rv := by
  unfold cbin at hc
  split at hc
  · rename_i ax ay hx hy
    have int : ∀ {k : IntKind} {z : Operand} {az : Opd} {n : Int}, copd E z = some az → (s.ev E az).bind (vint k) = some n → a.eval z = .int k n := by
      intro k z az n h1 h2
      obtain ⟨v, h3, h4⟩ := bind_some h2
      exact ((ev_sim h1 T h3).int_of h4).2
    split at hc
    · rename_i k hu
      split at hc
      · injection hc with hc; subst hc
        simp only [pev] at he
        obtain ⟨m, h1, he⟩ := bind_some he
        obtain ⟨n, h2, he⟩ := bind_some he
        obtain ⟨v, h3, h4⟩ := bind_some h2
        obtain ⟨k', _, hv⟩ := (ev_sim hy T h3).any_of h4
        rw [int hx h1, hv]
        split at he
        · simp at he
        · rename_i hn
          injection he with he; subst he
          refine ⟨_, ?_, .int k _⟩
          rw [eqGuard_shl, binOp_shl]
          simp [Op.shift, hn]
      · injection hc with hc; subst hc
        simp only [pev] at he
        obtain ⟨m, h1, he⟩ := bind_some he
        obtain ⟨n, h2, he⟩ := bind_some he
        obtain ⟨v, h3, h4⟩ := bind_some h2
        obtain ⟨k', _, hv⟩ := (ev_sim hy T h3).any_of h4
        rw [int hx h1, hv]
        split at he
        · simp at he
        · rename_i hn
          injection he with he; subst he
          refine ⟨_, ?_, .int k _⟩
          rw [eqGuard_shr, binOp_shr]
          simp [Op.shift, hn]
      · injection hc with hc; subst hc
        simp only [pev] at he
        obtain ⟨m, h1, he⟩ := bind_some he
        obtain ⟨n, h2, he⟩ := bind_some he
        rw [int hx h1, int hy h2]
        obtain ⟨h3, h4⟩ := run_ibin (P := E.P) (w := w) (t := t) (x := x) (y := y) he
        exact ⟨u, h3, vrc_vr h4⟩
    · injection hc with hc; subst hc
      simp only [pev] at he
      obtain ⟨m, h1, he⟩ := bind_some he
      obtain ⟨n, h2, he⟩ := bind_some he
      obtain ⟨v, h3, h4⟩ := bind_some h1
      obtain ⟨v', h5, h6⟩ := bind_some h2
      rw [((ev_sim hx T h3).str_of h4).2, ((ev_sim hy T h5).str_of h6).2]
      obtain ⟨h7, h8⟩ := run_sbin (P := E.P) (w := w) (t := t) (x := x) (y := y) he
      exact ⟨u, h7, vrc_vr h8⟩
    · rename_i hu
      have hb : ∀ neq, pev E s (.bbin neq ax ay) = some u → ∃ rv, ((do eqGuard (if neq then .neq else .eql) t x y (a.eval x) (a.eval y); binOp (if neq then .neq else .eql) t (a.eval x) (a.eval y)) : Sem Value).run E.P w = .ok rv w ∧ VR ι N u rv := by
        intro neq he
        simp only [pev] at he
        obtain ⟨m, h1, he⟩ := bind_some he
        obtain ⟨n, h2, he⟩ := bind_some he
        obtain ⟨v, h3, h4⟩ := bind_some h1
        obtain ⟨v', h5, h6⟩ := bind_some h2
        rw [((ev_sim hx T h3).bool_of h4).2, ((ev_sim hy T h5).bool_of h6).2]
        injection he with he; subst he
        exact ⟨_, run_bbin hu, .bool _⟩
      split at hc
      · injection hc with hc; subst hc; exact hb false he
      · injection hc with hc; subst hc; exact hb true he
      · simp at hc
    · rename_i fs hu
      split at hc
      · simp at hc
      · rename_i hgd
        have hb : ∀ neq sh, shape E 40 t = some sh → sh.isAgg = true → pev E s (.eqv sh neq ax ay) = some u → ∃ rv, ((do eqGuard (if neq then .neq else .eql) t x y (a.eval x) (a.eval y); binOp (if neq then .neq else .eql) t (a.eval x) (a.eval y)) : Sem Value).run E.P w = .ok rv w ∧ VR ι N u rv := by
          intro neq sh hsh hag he
          simp only [pev] at he
          obtain ⟨m, h1, he⟩ := bind_some he
          obtain ⟨n, h2, he⟩ := bind_some he
          obtain ⟨e, h3, he⟩ := bind_some he
          injection he with he; subst he
          exact ⟨_, run_eqv hsh hag (by simpa using hgd) (eqS_vr _ h3 (ev_sim hx T h1) (ev_sim hy T h2)), .bool _⟩
        have hag : ∀ sh, shape E 40 t = some sh → sh.isAgg = true := by
          intro sh hsh
          have := shape_agg 40 hsh
          unfold tagg at this; rw [hu] at this; injection this with this; exact this.symm
        split at hc
        · rename_i sh hsh; injection hc with hc; subst hc; exact hb false sh hsh (hag sh hsh) he
        · rename_i sh hsh; injection hc with hc; subst hc; exact hb true sh hsh (hag sh hsh) he
        · simp at hc
    · rename_i fs hu
      split at hc
      · simp at hc
      · rename_i hgd
        have hb : ∀ neq sh, shape E 40 t = some sh → sh.isAgg = true → pev E s (.eqv sh neq ax ay) = some u → ∃ rv, ((do eqGuard (if neq then .neq else .eql) t x y (a.eval x) (a.eval y); binOp (if neq then .neq else .eql) t (a.eval x) (a.eval y)) : Sem Value).run E.P w = .ok rv w ∧ VR ι N u rv := by
          intro neq sh hsh hag he
          simp only [pev] at he
          obtain ⟨m, h1, he⟩ := bind_some he
          obtain ⟨n, h2, he⟩ := bind_some he
          obtain ⟨e, h3, he⟩ := bind_some he
          injection he with he; subst he
          exact ⟨_, run_eqv hsh hag (by simpa using hgd) (eqS_vr _ h3 (ev_sim hx T h1) (ev_sim hy T h2)), .bool _⟩
        have hag : ∀ sh, shape E 40 t = some sh → sh.isAgg = true := by
          intro sh hsh
          have := shape_agg 40 hsh
          unfold tagg at this; rw [hu] at this; injection this with this; exact this.symm
        split at hc
        · rename_i sh hsh; injection hc with hc; subst hc; exact hb false sh hsh (hag sh hsh) he
        · rename_i sh hsh; injection hc with hc; subst hc; exact hb true sh hsh (hag sh hsh) he
        · simp at hc
    · rename_i d _ _ _ _ _ hu
      split at hc
      · rename_i k hk
        obtain ⟨n, rfl, hn⟩ := nilOf_of hk
        injection hc with hc; subst hc
        simp only [pev] at he
        obtain ⟨b, h1, he⟩ := bind_some he
        obtain ⟨v, h2, h3⟩ := bind_some h1
        injection he with he; subst he
        exact ⟨_, run_nileq (neq := false) hu (hn _ _ ((ev_sim hx T h2).nil_of h3)), .bool _⟩
      · rename_i k hk
        obtain ⟨n, rfl, hn⟩ := nilOf_of hk
        injection hc with hc; subst hc
        simp only [pev] at he
        obtain ⟨b, h1, he⟩ := bind_some he
        obtain ⟨v, h2, h3⟩ := bind_some h1
        injection he with he; subst he
        exact ⟨_, run_nileq (neq := true) hu (hn _ _ ((ev_sim hx T h2).nil_of h3)), .bool _⟩
      · simp at hc
    · simp at hc
  · simp at hc
end
end Go.Proofs.YtacgibkgojnfeaaGreatDoor.AM
