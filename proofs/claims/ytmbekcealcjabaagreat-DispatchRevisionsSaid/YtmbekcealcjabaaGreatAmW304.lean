/- DispatchRevisions' plain law. Conditions: none. -/
import Derived.Test.YtmbekcealcjabaaGreatAmR7
namespace Go.Proofs.YtmbekcealcjabaaGreat.AM
set_option linter.unusedSimpArgs false
set_option linter.unusedVariables false
open Go Go.RowKit

variable {l : Rv} {o : List Int}
theorem name_loop (hl : l.length ≤ 10) : oloop (l304_1 l) 0 = some (Sum.inr true) ∨ oloop (l304_1 l) 0 = some (Sum.inl ()) := by
  have h : oloop (l304_1 l) 0 = some ((scanF (fun i => bif decide ((20 : Int) < ((gr l i).1.size : Int)) then some (Sum.inr true : Unit ⊕ Bool) else none) l.length 0).getD (Sum.inl ())) := by
    refine oloop_scanB (fun i => (i : Int)) l.length (fun i => decide ((20 : Int) < ((gr l i).1.size : Int))) (fun _ => Sum.inr true) rfl ?_ ?_
    · intro i hi
      have t1 : ilt (i : Int) ((l.length : Nat) : Int) = true := ilt_t (by omega)
      have t2 : ile 0 (i : Int) = true := ile_t (by omega)
      have w1 : IntKind.i64.wrap ((i : Int) + 1) = ((i + 1 : Nat) : Int) := by rw [wr (by omega) (by omega)]; omega
      unfold l304_1
      simp only [List.length_map, t1, t2, oite_t, ogrd_t, Int.toNat_natCast, get_gr hi, obnd_s, w1, ilt_eq]
      cases decide ((20 : Int) < ((gr l i).1.size : Int)) <;> rfl
    · have t1 : ilt ((l.length : Nat) : Int) ((l.length : Nat) : Int) = false := ilt_f (by omega)
      unfold l304_1
      simp only [List.length_map, t1, oite_f]
  rw [h]
  cases e : scanF (fun i => bif decide ((20 : Int) < ((gr l i).1.size : Int)) then some (Sum.inr true : Unit ⊕ Bool) else none) l.length 0 with
  | none => exact .inr rfl
  | some r =>
    obtain ⟨k, _, _, h3⟩ := scanF_some e
    cases hb : decide ((20 : Int) < ((gr l k).1.size : Int)) with
    | true => rw [hb] at h3; injection h3 with h3; subst h3; exact .inl rfl
    | false => rw [hb] at h3; cases h3
theorem f304_true (hA : f198 = some true) (hs : ∀ p, p ∈ l → p.1.size ≤ 9223372036854775807) : f304 l o = some true := by
  unfold f304
  rw [hA]
  simp only [obnd_s, Bool.not_true, oite_f, List.length_map, ilt_eq]
  by_cases h1 : (10 : Int) < (l.length : Int)
  · rw [decide_eq_true h1]; rfl
  rw [decide_eq_false h1, oite_f, obnd_s]
  by_cases h2 : (10 : Int) < (o.length : Int)
  · rw [decide_eq_true h2]; rfl
  rw [decide_eq_false h2, oite_f]
  rcases name_loop (l := l) (by omega) with h | h
  · rw [h]; rfl
  rw [h, obndS_l]
  have hll : l.length ≤ 1000000 := by omega
  by_cases h3 : (ckR l).2 = 0
  case neg =>
    simp only [f334_w hll, obnd_s, f244_e (l := l) (by omega) hs, f38_w (show o.length ≤ 1000000 by omega), Nat.beq_refl, ogrd_t, f335_n hll hs h3, f210_n hll hs h3, f336_n hll hs h3, f337_e (l := l) (by omega) hs, ieq_eq, decide_true, Bool.not_true, oite_f, decide_eq_false h3, Bool.not_false, oite_t]
    rfl
  obtain ⟨hc, ok⟩ := ckR_0 h3
  have hfew := ok.few
  have hpos := ok.pos
  obtain ⟨b, e210, hb, _⟩ := f210_e hs ok hc
  have e2 := f210_o hs ok hc
  have hbo : (bestO l).length ≤ 1000000000 := by
    rw [e2] at e210
    injection e210 with e210
    injection e210 with e210 _
    rw [e210, hb.length_eq, evr_len]; omega
  have hown : (ownG l).length ≤ 1000000000 := by
    have := selG_len l (2 ^ l.length - 1)
    show (selG l (2 ^ l.length - 1)).length ≤ _
    omega
  by_cases h4 : ckO l.length o = 0
  case neg =>
    simp only [f334_w hll, obnd_s, f244_e (l := l) (by omega) hs, f38_w (show o.length ≤ 1000000 by omega), Nat.beq_refl, ogrd_t, f335_o hs ok hc h4, e2, f336_e hs ok hc, f337_e (l := l) (by omega) hs, hc, f338_e (l := l) (o := o) (by omega), f340_e ok, f341_e ok, f26_refl hbo, f26_refl hown, ieq_eq, decide_true, Bool.not_true, oite_f, decide_eq_false h4, Bool.not_false, oite_t]
  have ho := ckO_0 h4
  have hlen : o.length = l.length := by rw [ho.length_eq, evr_len]
  have hne : o ≠ [] := fun e => by rw [e] at hlen; simp at hlen; omega
  simp only [f334_w hll, obnd_s, f244_e (l := l) (by omega) hs, f38_w (show o.length ≤ 1000000 by omega), Nat.beq_refl, ogrd_t, f335_e hs ok hc ho, e2, f336_e hs ok hc, f337_e (l := l) (by omega) hs, hc, f338_e (l := l) (o := o) (by omega), h4, f339_e ok (inR_perm ho (evr_inR l)) (by omega) hne, f340_e ok, f341_e ok, f26_refl hbo, f26_refl hown, ieq_eq, decide_true, Bool.not_true, oite_f, oite_t]
end Go.Proofs.YtmbekcealcjabaaGreat.AM
