/- Memory that nothing reaches any more is left out of a run. Conditions: none. -/
import Derived.Test.YtgfglinlmnbjbaaGreatAmExec
namespace Go.Proofs.YtgfglinlmnbjbaaGreat.AM
set_option linter.unusedSimpArgs false
set_option linter.unusedVariables false
open Go Go.RowKit
section
variable {ι ι' : Iota} {h h' h2 : AHeap} {w w' : World}
theorem Rel.fewer (hn : h2.next = h.next) (hg : ∀ b o, h2.get b = some o → h.get b = some o) (R : Rel ι h w) : Rel ι h2 w where
 lt b o hb := by rw [hn]; exact R.lt b o (hg b o hb)
 real b o r hb ha := R.real b o r (hg b o hb) ha
 rw b c hb := by have := R.rw b c (hg b _ hb); rw [hn]; exact this
 tail b n z hb := R.tail b n z (hg b _ hb)
 loop b l hb := by have := R.loop b l (hg b _ hb); rw [hn]; exact this
 sep b o b' o' r hb ha hb' hne := R.sep b o b' o' r (hg b o hb) ha (hg b' o' hb') hne
 im := R.im
 gb := R.gb
theorem Ext.fewer (hn : h2.next = h'.next) (hg : ∀ b o, h2.get b = some o → h'.get b = some o) (X : Ext ι h w ι' h' w') : Ext ι h w ι' h2 w' where
 next := by rw [hn]; exact X.next
 up := X.up
 size := X.size
 frame r hr hm := ⟨(X.frame r hr hm).1, fun ⟨b, o, hb, ha⟩ => (X.frame r hr hm).2 ⟨b, o, hg b o hb, ha⟩⟩
 imf := X.imf
 os := X.os
 tape := X.tape
 output := X.output
end
theorem Lift.gc {Q Q' : Value → AHeap → Prop} {ι : Iota} {h : AHeap} {w w' : World} {e : Ending} (hq : ∀ u h', Q u h' → ∃ h2 : AHeap, h2.next = h'.next ∧ (∀ b o, h2.get b = some o → h'.get b = some o) ∧ Q' u h2) (H : Lift Q ι h w e w') : Lift Q' ι h w e w' := by
 obtain ⟨ι', u, v, h', h1, h2, h3, h4, h5⟩ := H
 obtain ⟨h6, hn, hg, h7⟩ := hq u h' h2
 exact ⟨ι', u, v, h6, h1, h7, by rw [hn]; exact h3, h4.fewer hn hg, h5.fewer hn hg⟩
theorem ICallV.gc {E : Env} {fv : Value} {us : List Value} {h : AHeap} {Q Q' : Value → AHeap → Prop} (H : ICallV E fv us h Q) (hq : ∀ u h', Q u h' → ∃ h2 : AHeap, h2.next = h'.next ∧ (∀ b o, h2.get b = some o → h'.get b = some o) ∧ Q' u h2) : ICallV E fv us h Q' := by
 intro ι w fv' vs R hf hl
 obtain ⟨nx, w1, h1, h2, h3, h4⟩ := H ι w fv' vs R hf hl
 refine ⟨nx, w1, h1, h2, h3, ?_⟩
 cases nx with
 | enter f args => exact h4.mono fun e w' => Lift.gc hq
 | round l f tmps as bd => exact ⟨h4.1, h4.2.mono fun e w' => Lift.gc hq⟩
 | _ => exact h4
def vrefs : Nat → Value → List Nat
 | 0, _ => []
 | _ + 1, .pointer (some a) => [a.block]
 | _ + 1, .slice (some a) _ _ => [a.block]
 | n + 1, .agg vs => vs.toList.flatMap (vrefs n)
 | n + 1, .tuple vs => vs.toList.flatMap (vrefs n)
 | n + 1, .func (.yield l) xs cs => l :: (xs.toList.flatMap (vrefs n) ++ cs.toList.flatMap (vrefs n))
 | n + 1, .func _ xs cs => xs.toList.flatMap (vrefs n) ++ cs.toList.flatMap (vrefs n)
 | _ + 1, _ => []
def orefs : AObj → List Nat
 | .rw c => c.flatMap (vrefs 4)
 | .loop L => L.tmps.flatMap fun p => vrefs 4 p.2
 | _ => []
def fRefs (n0 : Nat) : List Nat → (List Nat → Bool) → Bool
 | [], k => k []
 | b :: r, k => bif Nat.blt b n0 then fRefs n0 r k else fNat b fun b => fRefs n0 r fun r => k (b :: r)
def memN (b : Nat) : List Nat → Bool
 | [] => false
 | x :: r => bif Nat.beq b x then true else memN b r
def gcK (n0 : Nat) (refs : List Nat) : List (Nat × AObj) → (List (Nat × AObj) → Bool) → Bool
 | [], k => k []
 | (b, o) :: r, k => bif Nat.blt b n0 || memN b refs then gcK n0 refs r fun r => k ((b, o) :: r) else gcK n0 refs r k
theorem gcK_sound {n0 : Nat} {refs : List Nat} : ∀ {l : List (Nat × AObj)} {k : List (Nat × AObj) → Bool}, gcK n0 refs l k = true → ∃ l2, k l2 = true ∧ ∀ b, look l2 b = if (Nat.blt b n0 || memN b refs) = true then look l b else none
  | [], k, H => ⟨[], H, fun b => by simp [look]⟩
  | (b, o) :: r, k, H => by
    simp only [gcK] at H
    cases hb : Nat.blt b n0 || memN b refs with
    | true =>
      rw [hb] at H
      obtain ⟨l2, h1, h2⟩ := gcK_sound (l := r) H
      refine ⟨(b, o) :: l2, h1, fun c => ?_⟩
      simp only [look]
      by_cases hc : c = b
      · subst hc; simp [hb]
      · simp only [hc, if_false]; rw [h2 c]
    | false =>
      rw [hb] at H
      obtain ⟨l2, h1, h2⟩ := gcK_sound (l := r) H
      refine ⟨l2, h1, fun c => ?_⟩
      rw [h2 c]
      simp only [look]
      by_cases hc : c = b
      · subst hc; simp [hb]
      · simp only [hc, if_false]
def gcF (n0 : Nat) (v : Value) (h : AHeap) (k : AHeap → Bool) : Bool :=
 bif Nat.beq h.next n0 then k h else fRefs n0 (vrefs 4 v ++ h.objs.flatMap fun p => orefs p.2) fun refs => gcK n0 refs h.objs fun l => k ⟨h.next, l, h.m⟩
theorem fRefs_sound {n0 : Nat} : ∀ {l : List Nat} {k : List Nat → Bool}, fRefs n0 l k = true → ∃ l2, k l2 = true
  | [], _, H => ⟨[], H⟩
  | b :: r, k, H => by
    simp only [fRefs, fNat_eq] at H
    cases hb : Nat.blt b n0 with
    | true => rw [hb] at H; exact fRefs_sound (l := r) H
    | false =>
      rw [hb] at H
      obtain ⟨l2, h⟩ := fRefs_sound (l := r) H
      exact ⟨_, h⟩
theorem gcF_sound {n0 : Nat} {v : Value} {h : AHeap} {k : AHeap → Bool} (H : gcF n0 v h k = true) : ∃ h2 : AHeap, h2.next = h.next ∧ (∀ b o, h2.get b = some o → h.get b = some o) ∧ k h2 = true := by
  unfold gcF at H
  cases hb : Nat.beq h.next n0 with
  | true => rw [hb] at H; exact ⟨h, rfl, fun _ _ h => h, H⟩
  | false =>
    rw [hb] at H
    obtain ⟨refs, H⟩ := fRefs_sound H
    obtain ⟨l2, h1, h2⟩ := gcK_sound H
    refine ⟨⟨h.next, l2, h.m⟩, rfl, fun b o hb => ?_, h1⟩
    unfold AHeap.get at hb ⊢
    rw [show look (AHeap.mk h.next l2 h.m).objs b = look l2 b from rfl, h2 b] at hb
    split at hb
    · exact hb
    · cases hb
end Go.Proofs.YtgfglinlmnbjbaaGreat.AM
