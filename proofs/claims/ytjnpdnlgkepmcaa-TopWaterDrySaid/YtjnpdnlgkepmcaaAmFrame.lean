/- A call that was proved on a part of the memory does the same where there is more. Conditions: none. -/
import Derived.Test.YtjnpdnlgkepmcaaAmLift4
namespace Go.Proofs.Ytjnpdnlgkepmcaa.AM
set_option linter.unusedSimpArgs false
set_option linter.unusedVariables false
open Go Go.RowKit
variable {E : Env}
def Iota.mix (ι ι2 : Iota) (N : Nat) : Iota := ⟨fun b => if b < N then ι2.loc b else ι.loc b, fun b => if b < N then ι2.tk b else ι.tk b, ι2.im, ι2.gi⟩
theorem mix_lo {ι ι2 : Iota} {N b : Nat} (h : b < N) : (ι.mix ι2 N) b = ι2 b := if_pos h
theorem mix_hi {ι ι2 : Iota} {N b : Nat} (h : N ≤ b) : (ι.mix ι2 N) b = ι b := if_neg (by omega)
theorem mix_tlo {ι ι2 : Iota} {N b : Nat} (h : b < N) : (ι.mix ι2 N).tk b = ι2.tk b := if_pos h
theorem mix_thi {ι ι2 : Iota} {N b : Nat} (h : N ≤ b) : (ι.mix ι2 N).tk b = ι.tk b := if_neg (by omega)
theorem mix_alo {ι ι2 : Iota} {N b : Nat} {o : AObj} (h : b < N) : (ι.mix ι2 N).at b o = ι2.at b o := by
 cases o <;> simp only [Iota.at, mix_lo h, mix_tlo h]
theorem mix_ahi {ι ι2 : Iota} {N b : Nat} {o : AObj} (h : N ≤ b) : (ι.mix ι2 N).at b o = ι.at b o := by
 cases o <;> simp only [Iota.at, mix_hi h, mix_thi h]
theorem mix_self {ι : Iota} {N : Nat} : ι.mix ι N = ι := by
 obtain ⟨a, b, c, d⟩ := ι
 simp only [Iota.mix, ite_self]
theorem frame_grow {ι ι2 : Iota} {h h0 h2 hm : AHeap} {w w2 : World} (R : Rel ι h w) (hN : h0.next ≤ h.next) (hbase : ∀ b, b < h0.next → h.get b = h0.get b) (hlt : ∀ b o, h0.get b = some o → b < h0.next)
   (e2 : h2.next = h0.next) (em : hm.next = h.next) (m1 : ∀ b, b < h0.next → hm.get b = h2.get b) (m2 : ∀ b, h0.next ≤ b → hm.get b = h.get b) (X : Ext ι h0 w ι2 h2 w2) (R2 : Rel ι2 h2 w2) :
   Rel (ι.mix ι2 h0.next) hm w2 ∧ Ext ι h w (ι.mix ι2 h0.next) hm w2 := by
 have up2 : Up h2.next ι2 (ι.mix ι2 h0.next) := ⟨fun b hb => mix_lo (by omega), fun b hb => .inl (mix_tlo (by omega)), fun _ _ _ h => h⟩
 have up : Up h.next ι (ι.mix ι2 h0.next) := by
   refine ⟨fun b hb => ?_, fun b hb => ?_, X.up.im⟩
   · by_cases hb0 : b < h0.next
     · rw [mix_lo hb0]; exact X.up.loc b hb0
     · exact mix_hi (by omega)
   · by_cases hb0 : b < h0.next
     · rw [mix_tlo hb0]; exact X.up.tk b hb0
     · exact .inl (mix_thi (by omega))
 have own : ∀ b o r, h0.next ≤ b → h.get b = some o → ι.at b o = some r → ¬ MutAt ι h0 r := by
   rintro b o r hb ho hr ⟨b', o', hb', ho'⟩
   have hl := hlt b' o' hb'
   exact R.sep b o b' o' r ho hr (by rw [hbase b' hl]; exact hb') (by omega) ho'
 have ownr : ∀ b o r, h0.next ≤ b → h.get b = some o → ι.at b o = some r → r < w.heap.size ∧ w2.heap[r]? = w.heap[r]? ∧ (¬ MutAt ι2 h2 r) ∧ ∀ i, ι2.im r i = ι.im r i := by
   intro b o r hb ho hr
   have h1 := own b o r hb ho hr
   have h2 := R.real b o r ho hr
   exact ⟨h2, (X.frame r h2 h1).1, (X.frame r h2 h1).2, fun i => X.imf r i h2 h1⟩
 have hc : ∀ (r i : Nat), w2.heap[r]? = w.heap[r]? → w2.cell? ⟨r, i, none⟩ = w.cell? ⟨r, i, none⟩ := fun r i e => by unfold World.cell?; rw [show (⟨r, i, none⟩ : Addr).block = r from rfl, e]
 have hfz : ∀ (r i : Nat), w2.heap[r]? = w.heap[r]? → w2.frozen? ⟨r, i, none⟩ = w.frozen? ⟨r, i, none⟩ := fun r i e => by unfold World.frozen?; rw [show (⟨r, i, none⟩ : Addr).block = r from rfl, e]
 refine ⟨⟨fun b o hb => ?_, fun b o r hb hr => ?_, fun b c hb => ?_, fun b n z hb => ?_, fun b l hb => ?_, fun b o b' o' r hb hr hb' hne => ?_, R2.im, R2.gb⟩, ⟨by omega, up, X.size, fun r hr hn => ?_, fun r i hr hn => ?_, X.os, X.tape, X.output⟩⟩
 · rw [em]
   by_cases hb0 : b < h0.next
   · omega
   · rw [m2 b (by omega)] at hb; exact R.lt b o hb
 · by_cases hb0 : b < h0.next
   · rw [m1 b hb0] at hb; rw [mix_alo hb0] at hr; exact R2.real b o r hb hr
   · rw [m2 b (by omega)] at hb; rw [mix_ahi (by omega)] at hr; exact Nat.lt_of_lt_of_le (R.real b o r hb hr) X.size
 · by_cases hb0 : b < h0.next
   · rw [m1 b hb0] at hb
     obtain ⟨h5, h6, h7⟩ := R2.rw b c hb
     rw [mix_lo hb0]
     exact ⟨h5, h6, h7.more (by omega) up2 (mix_lo hb0) fun _ _ h => h⟩
   · have hb1 : h0.next ≤ b := by omega
     rw [m2 b hb1] at hb
     obtain ⟨h5, h6, h7⟩ := R.rw b c hb
     obtain ⟨h8, h9, _, h10⟩ := ownr b _ _ hb1 hb rfl
     rw [mix_hi hb1]
     refine ⟨h5, fun i hi => ?_, h7.more (by omega) up (mix_hi hb1) fun i v hv => by rw [hc _ _ h9]; exact hv⟩
     rw [hc _ _ h9, hfz _ _ h9]
     exact ⟨(h6 i hi).1, (h6 i hi).2.1, by show ι2.im _ _ = none; rw [h10]; exact (h6 i hi).2.2⟩
 · by_cases hb0 : b < h0.next
   · rw [m1 b hb0] at hb
     rw [mix_tlo hb0]; exact R2.tail b n z hb
   · have hb1 : h0.next ≤ b := by omega
     rw [m2 b hb1] at hb
     rw [mix_thi hb1]
     refine (R.tail b n z hb).more (fun hf i _ => ?_) (fun hf i hh2 => ?_)
     · obtain ⟨_, h9, _, _⟩ := ownr b _ (ι.tk b).r hb1 hb (by simp [Iota.at, hf])
       rw [hc _ _ h9, hfz _ _ h9]; exact ⟨fun h => h, rfl⟩
     · obtain ⟨_, _, _, h10⟩ := ownr b _ (ι.tk b).r hb1 hb (by simp [Iota.at, hf])
       show ι2.im _ _ = none
       rw [h10]; exact hh2
 · by_cases hb0 : b < h0.next
   · rw [m1 b hb0] at hb
     rw [mix_lo hb0]
     obtain ⟨o, h5, h6⟩ := R2.loop b l hb
     exact ⟨o, h5, h6.more (by omega) up2⟩
   · have hb1 : h0.next ≤ b := by omega
     rw [m2 b hb1] at hb
     rw [mix_hi hb1]
     obtain ⟨o, h5, h6⟩ := R.loop b l hb
     obtain ⟨_, h9, _, _⟩ := ownr b _ _ hb1 hb rfl
     exact ⟨o, by rw [h9]; exact h5, h6.more (by omega) up⟩
 · by_cases hb0 : b < h0.next <;> by_cases hb0' : b' < h0.next
   · rw [m1 b hb0] at hb; rw [m1 b' hb0'] at hb'; rw [mix_alo hb0] at hr; rw [mix_alo hb0']
     exact R2.sep b o b' o' r hb hr hb' hne
   · rw [m1 b hb0] at hb; rw [m2 b' (by omega)] at hb'; rw [mix_alo hb0] at hr; rw [mix_ahi (by omega)]
     intro hr'
     exact (ownr b' o' r (by omega) hb' hr').2.2.1 ⟨b, o, hb, hr⟩
   · rw [m2 b (by omega)] at hb; rw [m1 b' hb0'] at hb'; rw [mix_ahi (by omega)] at hr; rw [mix_alo hb0']
     intro hr'
     exact (ownr b o r (by omega) hb hr).2.2.1 ⟨b', o', hb', hr'⟩
   · rw [m2 b (by omega)] at hb; rw [m2 b' (by omega)] at hb'; rw [mix_ahi (by omega)] at hr; rw [mix_ahi (by omega)]
     exact R.sep b o b' o' r hb hr hb' hne
 · have hn0 : ¬ MutAt ι h0 r := fun ⟨b, o, hb, ho⟩ => hn ⟨b, o, by rw [hbase b (hlt b o hb)]; exact hb, ho⟩
   obtain ⟨h5, h6⟩ := X.frame r hr hn0
   refine ⟨h5, fun ⟨b, o, hb, ho⟩ => ?_⟩
   by_cases hb0 : b < h0.next
   · rw [m1 b hb0] at hb; rw [mix_alo hb0] at ho; exact h6 ⟨b, o, hb, ho⟩
   · rw [m2 b (by omega)] at hb; rw [mix_ahi (by omega)] at ho; exact hn ⟨b, o, hb, ho⟩
 · exact X.imf r i hr fun ⟨b, o, hb, ho⟩ => hn ⟨b, o, by rw [hbase b (hlt b o hb)]; exact hb, ho⟩
theorem get_live {h : AHeap} {b : Nat} {o : AObj} (hg : h.get b = some o) : o ≠ .dead := by
 unfold AHeap.get at hg
 obtain ⟨x, _, h2⟩ := bind_some hg
 intro e; subst e
 cases x <;> simp [AObj.live] at h2
theorem ICallV.frame {fv : Value} {us : List Value} {u : Value} {h h0 h0' h' : AHeap} (hN : h0.next ≤ h.next) (e2 : h0'.next = h0.next) (em : h'.next = h.next) (hbase : ∀ b, b < h0.next → h.get b = h0.get b)
  (hob : ∀ b o, h0.get b = some o → OBnd h0.next b o) (m1 : ∀ b, b < h0.next → h'.get b = h0'.get b) (m2 : ∀ b, h0.next ≤ b → h'.get b = h.get b) (hfv : Bnd h0.next fv) (hus : ∀ x, x ∈ us → Bnd h0.next x)
  (H : ICallV E fv us h0 fun v h'' => v = u ∧ h'' = h0') : ICallV E fv us h fun v h'' => v = u ∧ h'' = h' := by
 intro ι w fv' vs R hf hl
 have hlt : ∀ b o, h0.get b = some o → b < h0.next := fun b o hb => by
  have := hob b o hb
  cases o with
  | rw c => exact this.1
  | tail n z => exact this
  | dead => exact absurd rfl (get_live hb)
  | loop L => exact this.1
 have hup : ∀ b o, h0.get b = some o → h.get b = some o := fun b o hb => by rw [hbase b (hlt b o hb)]; exact hb
 have R0 : Rel ι h0 w := by
  refine ⟨hlt, fun b o r hb hr => R.real b o r (hup b o hb) hr, fun b c hb => ?_, fun b n z hb => R.tail b n z (hup b _ hb), fun b l hb => ?_, fun b o b' o' r hb hr hb' hne => R.sep b o b' o' r (hup b o hb) hr (hup b' o' hb') hne, R.im, R.gb⟩
  · obtain ⟨h5, h6, h7⟩ := R.rw b c (hup b _ hb)
    have hbo := hob b _ hb
    refine ⟨h5, h6, fun i u hu => ?_⟩
    obtain ⟨h8, v, h9, h10⟩ := h7 i u hu
    exact ⟨h8, v, h9, hbo.2.2 u (mem_of_at hu) _ _ _ h10⟩
  · obtain ⟨o, h5, ⟨hp, rt, d, fn, h6, h7, h8⟩ | h6⟩ := R.loop b l (hup b _ hb)
    case inr => exact ⟨o, h5, ⟨.inr h6⟩⟩
    have hbo := hob b _ hb
    refine ⟨o, h5, ⟨.inl ⟨hp, rt, d, fn, h6, fun t u hu => ?_, h8⟩⟩⟩
    obtain ⟨v, h9, h10⟩ := h7 t u hu
    exact ⟨v, h9, hbo.2 t u hu _ _ _ h10⟩
 obtain ⟨nx, w1, h1, h2, h3, h4⟩ := H ι w fv' vs R0 (hfv _ _ _ hf) ⟨hl.1, fun i a b ha hb => hus a (mem_of_at ha) _ _ _ (hl.2 i a b ha hb)⟩
 obtain ⟨R1, X1⟩ := frame_grow R hN hbase hlt rfl rfl hbase (fun _ _ => rfl) h3 h2
 rw [mix_self] at R1 X1
 refine ⟨nx, w1, h1, R1, X1, ?_⟩
 have key : ∀ e w', Lift (fun v h'' => v = u ∧ h'' = h0') ι h0 w1 e w' → Lift (fun v h'' => v = u ∧ h'' = h') ι h w1 e w' := by
  rintro e w' ⟨ι', x, v, h'', rfl, ⟨rfl, rfl⟩, hvr, R', X'⟩
  obtain ⟨R3, X3⟩ := frame_grow R1 hN hbase hlt e2 em m1 m2 X' R'
  refine ⟨_, x, v, h', rfl, ⟨rfl, rfl⟩, ?_, R3, X3⟩
  exact hvr.more (by omega) ⟨fun b hb => mix_lo (by omega), fun b hb => .inl (mix_tlo (by omega)), fun _ _ _ h => h⟩
 cases nx with
 | enter f args => exact h4.mono key
 | round l f tmps az bd => exact ⟨h4.1, h4.2.mono key⟩
 | _ => exact h4
theorem ICalls.frame {k : Nat} {us : List Value} {u : Value} {h h0 : AHeap} {c : Nat} {x : AObj} (hc : c < h0.next) (hN : h0.next ≤ h.next) (hbase : ∀ b, b < h0.next → h.get b = h0.get b)
   (hob : ∀ b o, h0.get b = some o → OBnd h0.next b o) (hus : ∀ x, x ∈ us → Bnd h0.next x)
   (H : ICalls E k us h0 fun v h'' => v = u ∧ h'' = h0.put c x) : ICalls E k us h fun v h'' => v = u ∧ h'' = h.put c x := by
 refine ICallV.frame (h0' := h0.put c x) hN rfl rfl hbase hob (fun b hb => ?_) (fun b hb => ?_) ((Clo.func _ [] [] (fun v h => by cases h) (fun v h => by cases h)).bnd) hus H
 · rw [AHeap.get_put, AHeap.get_put, hbase b hb]
 · rw [AHeap.get_put, if_neg (by omega)]
end Go.Proofs.Ytjnpdnlgkepmcaa.AM
