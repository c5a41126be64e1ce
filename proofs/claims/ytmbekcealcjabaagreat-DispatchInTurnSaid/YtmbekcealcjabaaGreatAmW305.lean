/- DispatchInTurn's plain law. Conditions: none. -/
import Derived.Test.YtmbekcealcjabaaGreatAmR5
namespace Go.Proofs.YtmbekcealcjabaaGreat.AM
set_option linter.unusedSimpArgs false
set_option linter.unusedVariables false
open Go Go.RowKit

theorem f334_e {l : Rv} (h : l.length ≤ 8) : f334 l = some l := by
  unfold f334; rw [ogrd_fits (by simp; omega) (by simp; omega)]; rfl
theorem f38_e {o : List Int} (h : o.length ≤ 8) : f38 o = some o := by
  unfold f38; rw [if_pos (fits_t (by omega) (by omega))]
variable {l : Rv} {o G : List Int}
/-- No group's bound is greater than the best lateness. -/
theorem bnd_le (ok : okR l) (hn : G.Nodup) (hi : ∀ x, x ∈ G → 0 ≤ x ∧ x < l.length) (hne : G ≠ []) : bndR (dR l) (pR l) G ≤ bestL l := by
  have hb := byD_evr l
  have hin := byD_in (evr_inR l)
  have hmem : ∀ x, x ∈ (byD l (evr l.length)).filter (fun x => decide (x ∈ G)) ↔ x ∈ G := by
    intro x
    rw [List.mem_filter, decide_eq_true_eq]
    exact ⟨fun h => h.2, fun h => ⟨hb.mem_iff.2 (evr_mem.2 (hi x h)), h⟩⟩
  have hp : ((byD l (evr l.length)).filter fun x => decide (x ∈ G)).Perm G := (List.perm_ext_iff_of_nodup ((hb.nodup_iff.2 (evr_nodup _)).sublist List.filter_sublist) hn).2 hmem
  have := late_bound (dR l) (pR l) (fun x => decide (x ∈ G)) (mxF (dR l) G) (byD l (evr l.length)) 0 (pos_of ok hin) (fun x _ hx => mxF_ge _ (of_decide_eq_true hx)) (by
    obtain ⟨a, r, rfl⟩ : ∃ a r, G = a :: r := by
      cases G with
      | nil => exact absurd rfl hne
      | cons a r => exact ⟨a, r, rfl⟩
    exact ⟨a, hb.mem_iff.2 (evr_mem.2 (hi a (by simp))), by simp⟩)
  rw [sP_perm _ hp] at this
  unfold bndR bestL
  omega
theorem own_loop (ok : okR l) : oloop (l305_1 (ownG l, 0) l) 0 = some (.inl ()) := by
  obtain ⟨m, h1, h2, h3, h4⟩ := ownG_ok ok
  have hfew := ok.few
  have hin : inR l (ownG l) := by rw [h3]; exact grp_in l m
  have hlen : (ownG l).length ≤ l.length := by rw [h3]; exact grp_len _ _
  have hasc : (ownG l).Pairwise (· < ·) := by
    rw [h3]
    refine List.Pairwise.sublist (grp_sub _ _) ?_
    unfold evr
    rw [List.pairwise_map]
    exact List.pairwise_lt_range.imp fun h => by omega
  have hw : IntKind.i64.wrap ((l.length : Int) - 1) = (l.length : Int) - 1 := wr (by omega) (by omega)
  refine oloop_all (fun i => (i : Int)) (ownG l).length rfl ?_ ?_
  · intro i hi
    have hx := hin _ (List.getElem_mem hi)
    have t1 : ilt (i : Int) (((ownG l).length : Nat) : Int) = true := ilt_t (by omega)
    have t2 : ile 0 (i : Int) = true := ile_t (by omega)
    have w2 : IntKind.i64.wrap ((i : Int) + 1) = ((i + 1 : Nat) : Int) := by rw [wr (by omega) (by omega)]; omega
    have g1 : (ownG l)[i]? = some (ownG l)[i] := List.getElem?_eq_getElem hi
    unfold l305_1
    simp only [List.length_map, t1, t2, oite_t, ogrd_t, Int.toNat_natCast, g1, obnd_s, hw, w2, f15_e]
    rw [decide_eq_true hx.1, decide_eq_true (show (ownG l)[i] ≤ (l.length : Int) - 1 by omega), Bool.and_self, Bool.not_true, oite_f]
    by_cases h0 : i = 0
    · subst h0; rfl
    · have t3 : ilt 0 (i : Int) = true := ilt_t (by omega)
      have w1 : IntKind.i64.wrap ((i : Int) - 1) = ((i - 1 : Nat) : Int) := by rw [wr (by omega) (by omega)]; omega
      have t4 : ile 0 ((i - 1 : Nat) : Int) = true := ile_t (by omega)
      have hi2 : i - 1 < (ownG l).length := by omega
      have g2 : (ownG l)[i - 1]? = some (ownG l)[i - 1] := List.getElem?_eq_getElem hi2
      have hlt := List.pairwise_iff_getElem.1 hasc (i - 1) i hi2 hi (by omega)
      have t5 : ile (ownG l)[i] (ownG l)[i - 1] = false := by rw [ile_eq]; simp; omega
      simp only [t3, oite_t, w1, t4, ogrd_t, Int.toNat_natCast, g2, obnd_s, t5]; rfl
  · have t1 : ilt (((ownG l).length : Nat) : Int) ((((ownG l).map eI).length : Nat) : Int) = false := by rw [List.length_map]; exact ilt_f (by omega)
    unfold l305_1
    simp only [t1, oite_f]
/-- The given group: not one, or its bound is not greater. -/
theorem grp_loop (hfew : l.length ≤ 8) (hl : G.length ≤ l.length) : oloop (l305_2 G l) 0 = some (.inr (.inr true)) ∨ (oloop (l305_2 G l) 0 = some (.inl ()) ∧ ∀ i, i < G.length → ordE l.length G i = 0) := by
  have hw : IntKind.i64.wrap ((l.length : Int) - 1) = (l.length : Int) - 1 := wr (by omega) (by omega)
  have h : oloop (l305_2 G l) 0 = some ((scanF (fun i => bif !decide (ordE l.length G i = 0) then some (Sum.inr (Sum.inr true) : Unit ⊕ (Unit ⊕ Bool)) else none) G.length 0).getD (Sum.inl ())) := by
    refine oloop_scanB (fun i => (i : Int)) G.length (fun i => !decide (ordE l.length G i = 0)) (fun _ => Sum.inr (Sum.inr true)) rfl ?_ ?_
    · intro i hi
      have t1 : ilt (i : Int) ((G.length : Nat) : Int) = true := ilt_t (by omega)
      have t2 : ile 0 (i : Int) = true := ile_t (by omega)
      have w2 : IntKind.i64.wrap ((i : Int) + 1) = ((i + 1 : Nat) : Int) := by rw [wr (by omega) (by omega)]; omega
      unfold l305_2
      simp only [List.length_map, t1, t2, oite_t, ogrd_t, Int.toNat_natCast, get_gi hi, obnd_s, hw, w2, f15_e, oslH_n (Nat.le_of_lt hi), f344_e (l := G.take i) (gi G i) (by rw [List.length_take]; omega)]
      unfold ordE
      cases (decide (0 ≤ gi G i) && decide (gi G i ≤ (l.length : Int) - 1)) <;> cases hasI (G.take i) (gi G i) <;> rfl
    · have t1 : ilt ((G.length : Nat) : Int) ((G.length : Nat) : Int) = false := ilt_f (by omega)
      unfold l305_2
      simp only [List.length_map, t1, oite_f]
  rw [h]
  cases e : scanF (fun i => bif !decide (ordE l.length G i = 0) then some (Sum.inr (Sum.inr true) : Unit ⊕ (Unit ⊕ Bool)) else none) G.length 0 with
  | some r =>
    obtain ⟨k, _, _, h3⟩ := scanF_some e
    cases hb : !decide (ordE l.length G k = 0) with
    | true => rw [hb] at h3; injection h3 with h3; subst h3; exact .inl rfl
    | false => rw [hb] at h3; cases h3
  | none =>
    refine .inr ⟨rfl, fun i hi => ?_⟩
    have h3 := scanF_none e i (Nat.zero_le _) (by omega)
    cases hb : !decide (ordE l.length G i = 0) with
    | true => rw [hb] at h3; cases h3
    | false => simpa using hb
theorem swap_loop (hs : ∀ p, p ∈ l → p.1.size ≤ 9223372036854775807) (ok : okR l) (hc : ckR l = (0, 0)) (ho : o.Perm (evr l.length)) : oloop (l305_3 o l (late (dR l) (pR l) o 0, 0)) 0 = some (.inl ()) := by
  have hfew := ok.few
  have hpos := ok.pos
  have hlen : o.length = l.length := by rw [ho.length_eq, evr_len]
  have hin : inR l o := inR_perm ho (evr_inR l)
  refine oloop_all (fun i => (i : Int)) (o.length - 1) rfl ?_ ?_
  · intro i hi
    have hi1 : i < o.length := by omega
    have hi2 : i + 1 < o.length := by omega
    have w1 : IntKind.i64.wrap ((i : Int) + 1) = ((i + 1 : Nat) : Int) := by rw [wr (by omega) (by omega)]; omega
    have t1 : ilt ((i + 1 : Nat) : Int) (((o.map eI).length : Nat) : Int) = true := by rw [List.length_map]; exact ilt_t (by omega)
    have t2 : ile 0 (i : Int) = true := ile_t (by omega)
    have t3 : ile 0 ((i + 1 : Nat) : Int) = true := ile_t (by omega)
    have g1 : o[i]? = some o[i] := List.getElem?_eq_getElem hi1
    have g2 : o[i + 1]? = some o[i + 1] := List.getElem?_eq_getElem hi2
    have ha := hin _ (List.getElem_mem hi1)
    have hb := hin _ (List.getElem_mem hi2)
    have t4 : ile 0 o[i] = true := ile_t ha.1
    have t5 : ile 0 o[i + 1] = true := ile_t hb.1
    unfold l305_3
    simp only [w1, t1, t2, t3, t4, t5, oite_t, ogrd_t, Int.toNat_natCast, g1, g2, obnd_s, inR_get ha, inR_get hb, f38_e (show o.length ≤ 8 by omega), f334_e hfew]
    rw [show (gr l (o[i]).toNat).2.1 = dR l o[i] from rfl, show (gr l (o[i + 1]).toNat).2.1 = dR l o[i + 1] from rfl, ile_eq]
    by_cases hd : dR l o[i] ≤ dR l o[i + 1]
    · rw [decide_eq_true hd, oite_t]
    · rw [decide_eq_false hd, oite_f]
      have t6 : ilt (i : Int) (o.length : Int) = true := ilt_t (by omega)
      have t7 : Nat.blt i o.length = true := by rw [Nat.blt_eq]; omega
      have t8 : ilt ((i + 1 : Nat) : Int) (o.length : Int) = true := ilt_t (by omega)
      have t9 : Nat.blt (i + 1) (o.set i o[i + 1]).length = true := by rw [Nat.blt_eq]; simp; omega
      have t10 : Nat.beq o.length ((o.set i o[i + 1]).set (i + 1) o[i]).length = true := by rw [Nat.beq_eq]; simp
      have hsplit : o = o.take i ++ o[i] :: o[i + 1] :: o.drop (i + 2) := by
        rw [List.getElem_cons_drop, List.getElem_cons_drop, List.take_append_drop]
      have hother : (o.set i o[i + 1]).set (i + 1) o[i] = o.take i ++ o[i + 1] :: o[i] :: o.drop (i + 2) := by
        have hti : (o.take i).length = i := by simp; omega
        generalize ha' : o[i] = a at *
        generalize hb' : o[i + 1] = b at *
        generalize o.take i = p at *
        generalize o.drop (i + 2) = r at *
        subst hsplit
        rw [List.set_append_right _ _ (by omega), List.set_append_right _ _ (by omega), hti]
        simp
      have hperm : ((o.set i o[i + 1]).set (i + 1) o[i]).Perm (evr l.length) := by
        rw [hother]
        refine List.Perm.trans ?_ ho
        refine List.Perm.trans ?_ (List.Perm.of_eq hsplit.symm)
        exact List.Perm.append_left _ (List.Perm.swap _ _ _)
      have e335 := f335_e hs ok hc hperm
      have hle : late (dR l) (pR l) ((o.set i o[i + 1]).set (i + 1) o[i]) 0 ≤ late (dR l) (pR l) o 0 := by
        have hsw := late_swap (dR l) (pR l) (a := o[i + 1]) (b := o[i]) (r := o.drop (i + 2)) (d := 0 + sP (pR l) (o.take i)) (by omega) (by have := pR_le ok hb; omega) (by have := pR_le ok ha; omega)
        have e2 : late (dR l) (pR l) o 0 = late (dR l) (pR l) (o.take i ++ o[i] :: o[i + 1] :: o.drop (i + 2)) 0 := congrArg (fun z => late (dR l) (pR l) z 0) hsplit
        rw [hother, e2, late_app, late_app]
        omega
      simp only [t6, t7, t8, t9, t10, ogrd_t, e335, obnd_s]
      rw [ieq_eq, decide_eq_true rfl, Bool.not_true, oite_f, obnd_s, ilt_f (by omega), oite_f]
  · have w1 : IntKind.i64.wrap (((o.length - 1 : Nat) : Int) + 1) = (o.length : Int) := by rw [wr (by omega) (by omega)]; omega
    have t1 : ilt (o.length : Int) (((o.map eI).length : Nat) : Int) = false := by rw [List.length_map]; exact ilt_f (by omega)
    unfold l305_3
    simp only [w1, t1, oite_f]
theorem f305_true (hA : f198 = some true) (hs : ∀ p, p ∈ l → p.1.size ≤ 9223372036854775807) : f305 l o G = some true := by
  unfold f305
  rw [hA]
  simp only [obnd_s, Bool.not_true, oite_f, List.length_map, ilt_eq, ieq_eq]
  by_cases h1 : (8 : Int) < (l.length : Int)
  · rw [decide_eq_true h1]; rfl
  rw [decide_eq_false h1, oite_f, f342_e (by omega) hs]
  simp only [obnd_s]
  by_cases h2 : (ckR l).2 = 0
  case neg => rw [decide_eq_false h2]; rfl
  rw [decide_eq_true h2]
  simp only [Bool.not_true, oite_f, f338_e (l := l) (o := o) (by omega), obnd_s]
  by_cases h3 : ckO l.length o = 0
  case neg => rw [decide_eq_false h3]; rfl
  obtain ⟨hc, ok⟩ := ckR_0 h2
  have hfew := ok.few
  have ho := ckO_0 h3
  have hlen : o.length = l.length := by rw [ho.length_eq, evr_len]
  obtain ⟨b, e210, hb, hbl⟩ := f210_e hs ok hc
  have hblen : b.length = l.length := by rw [hb.length_eq, evr_len]
  obtain ⟨m, hm1, hm2, hm3, hm4⟩ := ownG_ok ok
  have hin : inR l (ownG l) := by rw [hm3]; exact grp_in l m
  have hown : (ownG l).length ≤ l.length := by rw [hm3]; exact grp_len _ _
  have hne : (ownG l).length ≠ 0 := fun h => grp_ne hm1 hm2 (by rw [← hm3]; exact List.eq_nil_of_length_eq_zero h)
  have hbest := bestL_le ok ho
  rw [decide_eq_true h3]
  simp only [Bool.not_true, oite_f, f334_e hfew, obnd_s, f38_e (show o.length ≤ 8 by omega), f38_e (show b.length ≤ 8 by omega), Nat.beq_refl, ogrd_t, f335_e hs ok hc ho, e210, f335_e hs ok hc hb, hbl, f336_e hs ok hc, decide_true]
  rw [decide_eq_false (show ¬ late (dR l) (pR l) o 0 < bestL l by omega), decide_eq_false (show ¬ (((ownG l).length : Nat) : Int) = 0 by omega), decide_eq_false (show ¬ ((l.length : Nat) : Int) < (((ownG l).length : Nat) : Int) by omega)]
  simp only [oite_f, obnd_s, own_loop ok, obndS_l, f343_e ok hin (by omega), hm4, decide_true, Bool.not_true]
  have hsw := swap_loop hs ok hc ho
  by_cases h4 : (0 : Int) < (G.length : Int)
  case neg => rw [decide_eq_false h4]; simp only [oite_f, obnd_s, obndS_l]; rw [hsw]; rfl
  rw [decide_eq_true h4]
  by_cases h5 : G.length ≤ l.length
  case neg => rw [show ile (G.length : Int) (l.length : Int) = false by rw [ile_eq]; simp; omega]; simp only [oite_t, oite_f, obnd_s, obndS_l]; rw [hsw]; rfl
  rw [show ile (G.length : Int) (l.length : Int) = true from ile_t (by omega)]
  simp only [oite_t, obnd_s]
  rcases grp_loop (l := l) (G := G) hfew h5 with h6 | ⟨h6, h7⟩
  · rw [h6]; rfl
  · obtain ⟨h8, h9⟩ := ordE_0.1 h7
    have hb := bnd_le ok h8 h9 (by intro h; subst h; simp at h4)
    rw [h6, obndS_l, f343_e ok h9 (by omega), obnd_s, decide_eq_false (show ¬ bestL l < bndR (dR l) (pR l) G by omega), oite_f, obndS_l, hsw]; rfl
end Go.Proofs.YtmbekcealcjabaaGreat.AM
