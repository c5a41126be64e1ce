/- Plain law: DamGauges. Conditions: none. -/
import Derived.Test.YtfdapegcngmknaaGreatAmP7
namespace Go.Proofs.YtfdapegcngmknaaGreat.AM
set_option linter.unusedSimpArgs false
set_option linter.unusedVariables false
open Go Go.RowKit

abbrev G := ByteArray × Int × Int × Int × Int
def gG (l : List G) (i : Nat) : G := l.getD i (⟨#[]⟩, 0, 0, 0, 0)
theorem get_gG {l : List G} {i : Nat} (h : i < l.length) : l[i]? = some (gG l i) := by unfold gG; rw [getD_i h, List.getElem?_eq_getElem h]
def val (n : Int) : Bool := decide (-1000000 ≤ n) && decide (n ≤ 1000000)
theorem f84_e (n : Int) : f84 n = some (val n) := by
  unfold f84 f78
  have : IntKind.i64.wrap (0 - 1000000) = -1000000 := by rw [wr (by omega) (by omega)]; rfl
  simp (disch := omega) only [obnd_s, obnd_n, oite_ss, oite_t, oite_f, ogrd_t, ogrd_f, obndS_l, obndS_r, ilt_eq, ile_eq, ieq_eq, imax_e, imin_e, List.length_map, Int.toNat_natCast, decide_true, decide_false, Bool.not_true, Bool.not_false, Bool.not_eq_true, Bool.false_eq_true, if_true, if_false, reduceIte, not_false_eq_true, not_true_eq_false, Int.natCast_nonneg, Int.ofNat_lt, Int.ofNat_le, Bool.cond_true, Bool.cond_false, cond_true, cond_false, Bool.true_and, Bool.and_true, Bool.false_and, Bool.and_false, Bool.true_or, Bool.or_true, Bool.false_or, Bool.or_false, Bool.cond_true_left, Bool.cond_false_right, Bool.cond_true_right, Bool.cond_false_left, f65_e, this]; rfl
theorem f188_e (n : Int) : f188 n = some (val n) := by unfold f188; simp (disch := omega) only [obnd_s, obnd_n, oite_ss, oite_t, oite_f, ogrd_t, ogrd_f, obndS_l, obndS_r, ilt_eq, ile_eq, ieq_eq, imax_e, imin_e, List.length_map, Int.toNat_natCast, decide_true, decide_false, Bool.not_true, Bool.not_false, Bool.not_eq_true, Bool.false_eq_true, if_true, if_false, reduceIte, not_false_eq_true, not_true_eq_false, Int.natCast_nonneg, Int.ofNat_lt, Int.ofNat_le, Bool.cond_true, Bool.cond_false, cond_true, cond_false, Bool.true_and, Bool.and_true, Bool.false_and, Bool.and_false, Bool.true_or, Bool.or_true, Bool.false_or, Bool.or_false, Bool.cond_true_left, Bool.cond_false_right, Bool.cond_true_right, Bool.cond_false_left, f15_e]; rfl
def vLo (x : G) : Int := x.2.1 - x.2.2.2.2
def vHi (x : G) : Int := x.2.2.1 - x.2.2.2.1
def rngG (x : G) : Bool := val x.2.1 && val x.2.2.1 && val x.2.2.2.1 && val x.2.2.2.2
def ordG (x : G) : Bool := decide (x.2.1 ≤ x.2.2.1) && decide (x.2.2.2.1 ≤ x.2.2.2.2)
def knownG (l : List G) (i : Nat) : Bool := (l.take i).any fun x => x.1.toList == (gG l i).1.toList
def gaugE (l : List G) (i : Nat) : Int := bif !nameB (gG l i).1 then 4 else bif knownG l i then 5 else bif !rngG (gG l i) then 2 else bif !ordG (gG l i) then 9 else 0
def errV (f : Nat → Int) (n : Nat) : Option Int := scanF (fun i => bif !decide (f i = 0) then some (f i) else none) n 0
def gErr (l : List G) : Int := bif decide (l.length = 0) then 10 else bif decide (12 < l.length) then 8 else (errV (gaugE l) l.length).getD 0
theorem errV_scan {σ : Type} (f : Nat → Int) (n : Nat) (k : Int → σ) : scanF (fun i => bif !decide (f i = 0) then some (k (f i)) else none) n 0 = (errV f n).map k := by
  unfold errV; rw [← scanF_map]
  refine scanF_congr fun i _ _ => ?_
  cases (!decide (f i = 0)) <;> rfl
theorem scan_any {α ρ : Type} (q : α → Bool) (l : List α) (d : α) (r z : ρ) {i : Nat} (hi : i ≤ l.length) : (scanF (fun k => bif q (l.getD k d) then some r else none) i 0).getD z = bif (l.take i).any q then r else z := by
  have h1 : scanF (fun k => bif q (l.getD k d) then some r else none) i 0 = scanF (fun k => bif q ((l.take i).getD k d) then some ((fun _ => r) k) else none) i 0 := by
    refine scanF_congr fun k _ hk => ?_
    have : (l.take i).getD k d = l.getD k d := by
      rw [List.getD_eq_getElem?_getD, List.getD_eq_getElem?_getD, List.getElem?_take, if_pos (by omega)]
    rw [this]
  rw [h1, scan_find q d (fun _ => r) i (l.take i) 0 (by rw [List.length_take]; omega), List.drop_zero, ← List.findIdx?_isSome]
  cases (l.take i).findIdx? q <;> rfl
theorem f195_e {p : ByteArray → Int → Int → Int → Int → Option Bool} {l : List G} (q : G → Bool) (hp : ∀ x, x ∈ l → p x.1 x.2.1 x.2.2.1 x.2.2.2.1 x.2.2.2.2 = some (q x)) (hl : l.length < 4611686018427387904) : f195 p l = some (findI q l) := by
  unfold f195
  rw [oloop_scanB (fun i => (i : Int)) l.length (fun i => q (l.getD i (⟨#[]⟩, 0, 0, 0, 0))) (fun i => .inr (i : Int)) (d := .inl ()) (e0 := 0) rfl ?_ ?_, scan_find q _ _ l.length l 0 (by omega)]
  · rw [List.drop_zero]; unfold findI
    cases l.findIdx? q with
    | none => rfl
    | some i => simp [obndS_r]
  · intro i hi
    rw [getD_i hi]
    have := hp l[i] (List.getElem_mem hi)
    simp (disch := omega) only [obnd_s, obnd_n, oite_ss, oite_t, oite_f, ogrd_t, ogrd_f, obndS_l, obndS_r, ilt_eq, ile_eq, ieq_eq, imax_e, imin_e, List.length_map, Int.toNat_natCast, decide_true, decide_false, Bool.not_true, Bool.not_false, Bool.not_eq_true, Bool.false_eq_true, if_true, if_false, reduceIte, not_false_eq_true, not_true_eq_false, Int.natCast_nonneg, Int.ofNat_lt, Int.ofNat_le, Bool.cond_true, Bool.cond_false, cond_true, cond_false, Bool.true_and, Bool.and_true, Bool.false_and, Bool.and_false, Bool.true_or, Bool.or_true, Bool.false_or, Bool.or_false, Bool.cond_true_left, Bool.cond_false_right, Bool.cond_true_right, Bool.cond_false_left, hi, get_i hi, wr, this]; rfl
  · simp (disch := omega) only [obnd_s, obnd_n, oite_ss, oite_t, oite_f, ogrd_t, ogrd_f, obndS_l, obndS_r, ilt_eq, ile_eq, ieq_eq, imax_e, imin_e, List.length_map, Int.toNat_natCast, decide_true, decide_false, Bool.not_true, Bool.not_false, Bool.not_eq_true, Bool.false_eq_true, if_true, if_false, reduceIte, not_false_eq_true, not_true_eq_false, Int.natCast_nonneg, Int.ofNat_lt, Int.ofNat_le, Bool.cond_true, Bool.cond_false, cond_true, cond_false, Bool.true_and, Bool.and_true, Bool.false_and, Bool.and_false, Bool.true_or, Bool.or_true, Bool.false_or, Bool.or_false, Bool.cond_true_left, Bool.cond_false_right, Bool.cond_true_right, Bool.cond_false_left, Int.lt_irrefl]
theorem f193_e {p : ByteArray → Int → Int → Int → Int → Option Bool} {l : List G} (q : G → Bool) (hp : ∀ x, x ∈ l → p x.1 x.2.1 x.2.2.1 x.2.2.2.1 x.2.2.2.2 = some (q x)) (hl : l.length < 4611686018427387904) : f193 p l = some (l.any q) := by
  unfold f193
  rw [f195_e q hp hl]
  simp (disch := omega) only [obnd_s, obnd_n, oite_ss, oite_t, oite_f, ogrd_t, ogrd_f, obndS_l, obndS_r, ilt_eq, ile_eq, ieq_eq, imax_e, imin_e, List.length_map, Int.toNat_natCast, decide_true, decide_false, Bool.not_true, Bool.not_false, Bool.not_eq_true, Bool.false_eq_true, if_true, if_false, reduceIte, not_false_eq_true, not_true_eq_false, Int.natCast_nonneg, Int.ofNat_lt, Int.ofNat_le, Bool.cond_true, Bool.cond_false, cond_true, cond_false, Bool.true_and, Bool.and_true, Bool.false_and, Bool.and_false, Bool.true_or, Bool.or_true, Bool.false_or, Bool.or_false, Bool.cond_true_left, Bool.cond_false_right, Bool.cond_true_right, Bool.cond_false_left, findI_any]
theorem f63_4 (a b c d : Int) : f63 [a, b, c, d] = some (fstN [a, b, c, d]) := f63_e (by simp)
theorem fst4 (a b c d : Int) : fstN [a, b, c, d] = if a = 0 then if b = 0 then if c = 0 then d else c else b else a := by
  simp only [fstN]; repeat' split
  all_goals first | rfl | (symm; assumption) | (exfalso; omega) | omega
def smallG (l : List G) : Prop := l.length ≤ 14 ∧ ∀ x, x ∈ l → x.1.size ≤ 30
theorem mem_gG {l : List G} {i : Nat} (h : i < l.length) : gG l i ∈ l := by unfold gG; rw [getD_i h]; exact List.getElem_mem h
theorem f186_e {l : List G} (h : smallG l) : f186 l = some (gErr l) := by
  unfold f186 gErr
  have hl := h.1
  have e1 : decide ((0 : Int) < ((l.length : Nat) : Int)) = !decide (l.length = 0) := by rw [← decide_not]; congr 1; exact propext (by omega)
  have e2 : decide (((l.length : Nat) : Int) ≤ 12) = !decide (12 < l.length) := by rw [← decide_not]; congr 1; exact propext (by omega)
  simp (disch := omega) only [obnd_s, obnd_n, oite_ss, oite_t, oite_f, ogrd_t, ogrd_f, obndS_l, obndS_r, ilt_eq, ile_eq, ieq_eq, imax_e, imin_e, List.length_map, Int.toNat_natCast, decide_true, decide_false, Bool.not_true, Bool.not_false, Bool.not_eq_true, Bool.false_eq_true, if_true, if_false, reduceIte, not_false_eq_true, not_true_eq_false, Int.natCast_nonneg, Int.ofNat_lt, Int.ofNat_le, Bool.cond_true, Bool.cond_false, cond_true, cond_false, Bool.true_and, Bool.and_true, Bool.false_and, Bool.and_false, Bool.true_or, Bool.or_true, Bool.false_or, Bool.or_false, Bool.cond_true_left, Bool.cond_false_right, Bool.cond_true_right, Bool.cond_false_left, e1, e2, f64_e, f63_2, fst2]
  cases decide (l.length = 0) with
  | true => rfl
  | false =>
    cases decide (12 < l.length) with
    | true => rfl
    | false =>
      simp (disch := omega) only [obnd_s, obnd_n, oite_ss, oite_t, oite_f, ogrd_t, ogrd_f, obndS_l, obndS_r, ilt_eq, ile_eq, ieq_eq, imax_e, imin_e, List.length_map, Int.toNat_natCast, decide_true, decide_false, Bool.not_true, Bool.not_false, Bool.not_eq_true, Bool.false_eq_true, if_true, if_false, reduceIte, not_false_eq_true, not_true_eq_false, Int.natCast_nonneg, Int.ofNat_lt, Int.ofNat_le, Bool.cond_true, Bool.cond_false, cond_true, cond_false, Bool.true_and, Bool.and_true, Bool.false_and, Bool.and_false, Bool.true_or, Bool.or_true, Bool.false_or, Bool.or_false, Bool.cond_true_left, Bool.cond_false_right, Bool.cond_true_right, Bool.cond_false_left]
      rw [oloop_scanB (fun i => (i : Int)) l.length (fun i => !decide (gaugE l i = 0)) (fun i => .inr (gaugE l i)) (d := .inl ()) (e0 := 0) rfl ?_ ?_, errV_scan (gaugE l) l.length (Sum.inr : Int → Unit ⊕ Int)]
      · cases errV (gaugE l) l.length <;> rfl
      · intro i hi
        have hn := h.2 _ (mem_gG hi)
        unfold l186_1
        simp (disch := omega) only [obnd_s, obnd_n, oite_ss, oite_t, oite_f, ogrd_t, ogrd_f, obndS_l, obndS_r, ilt_eq, ile_eq, ieq_eq, imax_e, imin_e, List.length_map, Int.toNat_natCast, decide_true, decide_false, Bool.not_true, Bool.not_false, Bool.not_eq_true, Bool.false_eq_true, if_true, if_false, reduceIte, not_false_eq_true, not_true_eq_false, Int.natCast_nonneg, Int.ofNat_lt, Int.ofNat_le, Bool.cond_true, Bool.cond_false, cond_true, cond_false, Bool.true_and, Bool.and_true, Bool.false_and, Bool.and_false, Bool.true_or, Bool.or_true, Bool.false_or, Bool.or_false, Bool.cond_true_left, Bool.cond_false_right, Bool.cond_true_right, Bool.cond_false_left, hi, get_gG hi, oslH_n (Nat.le_of_lt hi), f193_e (p := fun z0 z1 z2 z3 z4 => f194 z0 z1 z2 z3 z4 (gG l i).1 (gG l i).2.1 (gG l i).2.2.1 (gG l i).2.2.2.1 (gG l i).2.2.2.2) (l := l.take i) (fun x => x.1.toList == (gG l i).1.toList) (fun _ _ => rfl) (by rw [List.length_take]; omega), f84_e, f88_e (show (gG l i).1.size < 4611686018427387904 by omega), f64_e, f63_4, fst4, wr]
        unfold gaugE
        rw [show (List.any (l.take i) fun x => x.1.toList == (gG l i).1.toList) = knownG l i from rfl, show (val (gG l i).2.1 && val (gG l i).2.2.1 && val (gG l i).2.2.2.1 && val (gG l i).2.2.2.2) = rngG (gG l i) from rfl, show (decide ((gG l i).2.1 ≤ (gG l i).2.2.1) && decide ((gG l i).2.2.2.1 ≤ (gG l i).2.2.2.2)) = ordG (gG l i) from rfl]
        cases nameB (gG l i).1 <;> cases knownG l i <;> cases rngG (gG l i) <;> cases ordG (gG l i) <;> rfl
      · unfold l186_1; simp (disch := omega) only [obnd_s, obnd_n, oite_ss, oite_t, oite_f, ogrd_t, ogrd_f, obndS_l, obndS_r, ilt_eq, ile_eq, ieq_eq, imax_e, imin_e, List.length_map, Int.toNat_natCast, decide_true, decide_false, Bool.not_true, Bool.not_false, Bool.not_eq_true, Bool.false_eq_true, if_true, if_false, reduceIte, not_false_eq_true, not_true_eq_false, Int.natCast_nonneg, Int.ofNat_lt, Int.ofNat_le, Bool.cond_true, Bool.cond_false, cond_true, cond_false, Bool.true_and, Bool.and_true, Bool.false_and, Bool.and_false, Bool.true_or, Bool.or_true, Bool.false_or, Bool.or_false, Bool.cond_true_left, Bool.cond_false_right, Bool.cond_true_right, Bool.cond_false_left, Int.lt_irrefl]
theorem f175_e {l : List G} (h : smallG l) : f175 l = some (gErr l) := by
  unfold f175 gErr
  have hl := h.1
  have e1 : decide (((l.length : Nat) : Int) = 0) = decide (l.length = 0) := ceq 0 _
  have e2 : decide ((12 : Int) < ((l.length : Nat) : Int)) = decide (12 < l.length) := by rw [Bool.eq_iff_iff, decide_eq_true_eq, decide_eq_true_eq]; omega
  simp (disch := omega) only [obnd_s, obnd_n, oite_ss, oite_t, oite_f, ogrd_t, ogrd_f, obndS_l, obndS_r, ilt_eq, ile_eq, ieq_eq, imax_e, imin_e, List.length_map, Int.toNat_natCast, decide_true, decide_false, Bool.not_true, Bool.not_false, Bool.not_eq_true, Bool.false_eq_true, if_true, if_false, reduceIte, not_false_eq_true, not_true_eq_false, Int.natCast_nonneg, Int.ofNat_lt, Int.ofNat_le, Bool.cond_true, Bool.cond_false, cond_true, cond_false, Bool.true_and, Bool.and_true, Bool.false_and, Bool.and_false, Bool.true_or, Bool.or_true, Bool.false_or, Bool.or_false, Bool.cond_true_left, Bool.cond_false_right, Bool.cond_true_right, Bool.cond_false_left, e1, e2]
  cases decide (l.length = 0) with
  | true => rfl
  | false =>
    cases decide (12 < l.length) with
    | true => rfl
    | false =>
      simp (disch := omega) only [obnd_s, obnd_n, oite_ss, oite_t, oite_f, ogrd_t, ogrd_f, obndS_l, obndS_r, ilt_eq, ile_eq, ieq_eq, imax_e, imin_e, List.length_map, Int.toNat_natCast, decide_true, decide_false, Bool.not_true, Bool.not_false, Bool.not_eq_true, Bool.false_eq_true, if_true, if_false, reduceIte, not_false_eq_true, not_true_eq_false, Int.natCast_nonneg, Int.ofNat_lt, Int.ofNat_le, Bool.cond_true, Bool.cond_false, cond_true, cond_false, Bool.true_and, Bool.and_true, Bool.false_and, Bool.and_false, Bool.true_or, Bool.or_true, Bool.false_or, Bool.or_false, Bool.cond_true_left, Bool.cond_false_right, Bool.cond_true_right, Bool.cond_false_left]
      rw [oloop_scanB (fun i => (i : Int)) l.length (fun i => !decide (gaugE l i = 0)) (fun i => .inr (gaugE l i)) (d := .inl ()) (e0 := 0) rfl ?_ ?_, errV_scan (gaugE l) l.length (Sum.inr : Int → Unit ⊕ Int)]
      · cases errV (gaugE l) l.length <;> rfl
      · intro i hi
        have hn := h.2 _ (mem_gG hi)
        have hin : oloop (l175_1 (i : Int) l (gG l i)) (0 : Int) = some (bif knownG l i then .inr (.inr (.inr 5)) else .inl ()) := by
          rw [oloop_scanB (fun i => (i : Int)) i (fun k => (l.getD k (⟨#[]⟩, 0, 0, 0, 0)).1.toList == (gG l i).1.toList) (fun _ => .inr (.inr (.inr 5))) (d := .inl ()) (e0 := 0) rfl ?_ ?_, scan_any (fun x : G => x.1.toList == (gG l i).1.toList) l _ _ _ (Nat.le_of_lt hi)]
          · rfl
          · intro k hk
            have hk' : k < l.length := by omega
            unfold l175_1
            simp (disch := omega) only [obnd_s, obnd_n, oite_ss, oite_t, oite_f, ogrd_t, ogrd_f, obndS_l, obndS_r, ilt_eq, ile_eq, ieq_eq, imax_e, imin_e, List.length_map, Int.toNat_natCast, decide_true, decide_false, Bool.not_true, Bool.not_false, Bool.not_eq_true, Bool.false_eq_true, if_true, if_false, reduceIte, not_false_eq_true, not_true_eq_false, Int.natCast_nonneg, Int.ofNat_lt, Int.ofNat_le, Bool.cond_true, Bool.cond_false, cond_true, cond_false, Bool.true_and, Bool.and_true, Bool.false_and, Bool.and_false, Bool.true_or, Bool.or_true, Bool.false_or, Bool.or_false, Bool.cond_true_left, Bool.cond_false_right, Bool.cond_true_right, Bool.cond_false_left, hk, hk', get_gG hk', wr]; rfl
          · unfold l175_1; simp (disch := omega) only [obnd_s, obnd_n, oite_ss, oite_t, oite_f, ogrd_t, ogrd_f, obndS_l, obndS_r, ilt_eq, ile_eq, ieq_eq, imax_e, imin_e, List.length_map, Int.toNat_natCast, decide_true, decide_false, Bool.not_true, Bool.not_false, Bool.not_eq_true, Bool.false_eq_true, if_true, if_false, reduceIte, not_false_eq_true, not_true_eq_false, Int.natCast_nonneg, Int.ofNat_lt, Int.ofNat_le, Bool.cond_true, Bool.cond_false, cond_true, cond_false, Bool.true_and, Bool.and_true, Bool.false_and, Bool.and_false, Bool.true_or, Bool.or_true, Bool.false_or, Bool.or_false, Bool.cond_true_left, Bool.cond_false_right, Bool.cond_true_right, Bool.cond_false_left, Int.lt_irrefl]
        unfold l175_2
        simp (disch := omega) only [obnd_s, obnd_n, oite_ss, oite_t, oite_f, ogrd_t, ogrd_f, obndS_l, obndS_r, ilt_eq, ile_eq, ieq_eq, imax_e, imin_e, List.length_map, Int.toNat_natCast, decide_true, decide_false, Bool.not_true, Bool.not_false, Bool.not_eq_true, Bool.false_eq_true, if_true, if_false, reduceIte, not_false_eq_true, not_true_eq_false, Int.natCast_nonneg, Int.ofNat_lt, Int.ofNat_le, Bool.cond_true, Bool.cond_false, cond_true, cond_false, Bool.true_and, Bool.and_true, Bool.false_and, Bool.and_false, Bool.true_or, Bool.or_true, Bool.false_or, Bool.or_false, Bool.cond_true_left, Bool.cond_false_right, Bool.cond_true_right, Bool.cond_false_left, hi, get_gG hi, f91_e (show (gG l i).1.size < 4611686018427387904 by omega), hin, f188_e, wr]
        unfold gaugE
        have e3 : ordG (gG l i) = !(decide ((gG l i).2.2.1 < (gG l i).2.1) || decide ((gG l i).2.2.2.2 < (gG l i).2.2.2.1)) := by
          unfold ordG
          rw [show decide ((gG l i).2.1 ≤ (gG l i).2.2.1) = !decide ((gG l i).2.2.1 < (gG l i).2.1) by rw [← decide_not]; congr 1; exact propext (by omega), show decide ((gG l i).2.2.2.1 ≤ (gG l i).2.2.2.2) = !decide ((gG l i).2.2.2.2 < (gG l i).2.2.2.1) by rw [← decide_not]; congr 1; exact propext (by omega)]
          cases decide ((gG l i).2.2.1 < (gG l i).2.1) <;> cases decide ((gG l i).2.2.2.2 < (gG l i).2.2.2.1) <;> rfl
        rw [e3]
        unfold rngG
        cases nameB (gG l i).1 <;> cases knownG l i <;> cases val (gG l i).2.1 <;> cases val (gG l i).2.2.1 <;> cases val (gG l i).2.2.2.1 <;> cases val (gG l i).2.2.2.2 <;> cases decide ((gG l i).2.2.1 < (gG l i).2.1) <;> cases decide ((gG l i).2.2.2.2 < (gG l i).2.2.2.1) <;> rfl
      · unfold l175_2; simp (disch := omega) only [obnd_s, obnd_n, oite_ss, oite_t, oite_f, ogrd_t, ogrd_f, obndS_l, obndS_r, ilt_eq, ile_eq, ieq_eq, imax_e, imin_e, List.length_map, Int.toNat_natCast, decide_true, decide_false, Bool.not_true, Bool.not_false, Bool.not_eq_true, Bool.false_eq_true, if_true, if_false, reduceIte, not_false_eq_true, not_true_eq_false, Int.natCast_nonneg, Int.ofNat_lt, Int.ofNat_le, Bool.cond_true, Bool.cond_false, cond_true, cond_false, Bool.true_and, Bool.and_true, Bool.false_and, Bool.and_false, Bool.true_or, Bool.or_true, Bool.false_or, Bool.or_false, Bool.cond_true_left, Bool.cond_false_right, Bool.cond_true_right, Bool.cond_false_left, Int.lt_irrefl]

/-! ### What instruments agree on -/
def agrN (l : List G) : Nat → Int × Int
  | 0 => (-2000000, 2000000)
  | i + 1 => (max (agrN l i).1 (vLo (gG l i)), min (agrN l i).2 (vHi (gG l i)))
def allR (l : List G) : Prop := ∀ i, i < l.length → rngG (gG l i) = true
theorem rngG_b {x : G} (h : rngG x = true) : (-1000000 ≤ x.2.1 ∧ x.2.1 ≤ 1000000) ∧ (-1000000 ≤ x.2.2.1 ∧ x.2.2.1 ≤ 1000000) ∧ (-1000000 ≤ x.2.2.2.1 ∧ x.2.2.2.1 ≤ 1000000) ∧ (-1000000 ≤ x.2.2.2.2 ∧ x.2.2.2.2 ≤ 1000000) := by
  unfold rngG val at h
  simp only [Bool.and_eq_true, decide_eq_true_eq] at h
  exact ⟨h.1.1.1, h.1.1.2, h.1.2, h.2⟩
theorem f187_e {l : List G} (h : allR l) (hl : l.length ≤ 1000) : f187 l = some ((agrN l l.length).1, (agrN l l.length).2, decide ((agrN l l.length).1 ≤ (agrN l l.length).2)) := by
  unfold f187
  rw [oloop_all (fun i => ((agrN l i).1, (agrN l i).2, (i : Int))) l.length (r := ((agrN l l.length).1, (agrN l l.length).2)) (e0 := (((-2000000 : Int), (2000000 : Int), (0 : Int)))) rfl ?_ ?_]
  · simp (disch := omega) only [obnd_s, obnd_n, oite_ss, oite_t, oite_f, ogrd_t, ogrd_f, obndS_l, obndS_r, ilt_eq, ile_eq, ieq_eq, imax_e, imin_e, List.length_map, Int.toNat_natCast, decide_true, decide_false, Bool.not_true, Bool.not_false, Bool.not_eq_true, Bool.false_eq_true, if_true, if_false, reduceIte, not_false_eq_true, not_true_eq_false, Int.natCast_nonneg, Int.ofNat_lt, Int.ofNat_le, Bool.cond_true, Bool.cond_false, cond_true, cond_false, Bool.true_and, Bool.and_true, Bool.false_and, Bool.and_false, Bool.true_or, Bool.or_true, Bool.false_or, Bool.or_false, Bool.cond_true_left, Bool.cond_false_right, Bool.cond_true_right, Bool.cond_false_left]
  · intro i hi
    have hb := rngG_b (h i hi)
    simp (disch := omega) only [obnd_s, obnd_n, oite_ss, oite_t, oite_f, ogrd_t, ogrd_f, obndS_l, obndS_r, ilt_eq, ile_eq, ieq_eq, imax_e, imin_e, List.length_map, Int.toNat_natCast, decide_true, decide_false, Bool.not_true, Bool.not_false, Bool.not_eq_true, Bool.false_eq_true, if_true, if_false, reduceIte, not_false_eq_true, not_true_eq_false, Int.natCast_nonneg, Int.ofNat_lt, Int.ofNat_le, Bool.cond_true, Bool.cond_false, cond_true, cond_false, Bool.true_and, Bool.and_true, Bool.false_and, Bool.and_false, Bool.true_or, Bool.or_true, Bool.false_or, Bool.or_false, Bool.cond_true_left, Bool.cond_false_right, Bool.cond_true_right, Bool.cond_false_left, hi, get_gG hi, wr]; rfl
  · simp (disch := omega) only [obnd_s, obnd_n, oite_ss, oite_t, oite_f, ogrd_t, ogrd_f, obndS_l, obndS_r, ilt_eq, ile_eq, ieq_eq, imax_e, imin_e, List.length_map, Int.toNat_natCast, decide_true, decide_false, Bool.not_true, Bool.not_false, Bool.not_eq_true, Bool.false_eq_true, if_true, if_false, reduceIte, not_false_eq_true, not_true_eq_false, Int.natCast_nonneg, Int.ofNat_lt, Int.ofNat_le, Bool.cond_true, Bool.cond_false, cond_true, cond_false, Bool.true_and, Bool.and_true, Bool.false_and, Bool.and_false, Bool.true_or, Bool.or_true, Bool.false_or, Bool.or_false, Bool.cond_true_left, Bool.cond_false_right, Bool.cond_true_right, Bool.cond_false_left, Int.lt_irrefl]
theorem f189_e {x : G} (h : rngG x = true) : f189 x.1 x.2.1 x.2.2.1 x.2.2.2.1 x.2.2.2.2 = some (vLo x, vHi x) := by
  have hb := rngG_b h
  unfold f189
  rw [wr (by omega) (by omega), wr (by omega) (by omega)]; rfl
theorem agrN_1 {l : List G} (h : rngG (gG l 0) = true) : agrN l 1 = (vLo (gG l 0), vHi (gG l 0)) := by
  have hb := rngG_b h
  simp only [agrN]
  unfold vLo vHi
  rw [show max (-2000000) ((gG l 0).2.1 - (gG l 0).2.2.2.2) = (gG l 0).2.1 - (gG l 0).2.2.2.2 by omega, show min 2000000 ((gG l 0).2.2.1 - (gG l 0).2.2.2.1) = (gG l 0).2.2.1 - (gG l 0).2.2.2.1 by omega]
theorem f176_e {l : List G} (h : allR l) (hl : l.length ≤ 1000) (h0 : 0 < l.length) : f176 l = some ((agrN l l.length).1, (agrN l l.length).2, decide ((agrN l l.length).1 ≤ (agrN l l.length).2)) := by
  unfold f176
  rw [show (0 : Int).toNat = 0 from rfl, get_gG h0]
  simp only [obnd_s]
  rw [f189_e (h 0 h0)]
  simp only [obnd_s]
  rw [oloop_all (fun i => ((agrN l (i + 1)).1, (agrN l (i + 1)).2, ((i + 1 : Nat) : Int))) (l.length - 1) (r := ((agrN l l.length).1, (agrN l l.length).2)) (e0 := (vLo (gG l 0), vHi (gG l 0), (1 : Int))) (by rw [agrN_1 (h 0 h0)]; rfl) ?_ ?_]
  · simp (disch := omega) only [obnd_s, obnd_n, oite_ss, oite_t, oite_f, ogrd_t, ogrd_f, obndS_l, obndS_r, ilt_eq, ile_eq, ieq_eq, imax_e, imin_e, List.length_map, Int.toNat_natCast, decide_true, decide_false, Bool.not_true, Bool.not_false, Bool.not_eq_true, Bool.false_eq_true, if_true, if_false, reduceIte, not_false_eq_true, not_true_eq_false, Int.natCast_nonneg, Int.ofNat_lt, Int.ofNat_le, Bool.cond_true, Bool.cond_false, cond_true, cond_false, Bool.true_and, Bool.and_true, Bool.false_and, Bool.and_false, Bool.true_or, Bool.or_true, Bool.false_or, Bool.or_false, Bool.cond_true_left, Bool.cond_false_right, Bool.cond_true_right, Bool.cond_false_left]
  · intro i hi
    have hi' : i + 1 < l.length := by omega
    simp (disch := omega) only [obnd_s, obnd_n, oite_ss, oite_t, oite_f, ogrd_t, ogrd_f, obndS_l, obndS_r, ilt_eq, ile_eq, ieq_eq, imax_e, imin_e, List.length_map, Int.toNat_natCast, decide_true, decide_false, Bool.not_true, Bool.not_false, Bool.not_eq_true, Bool.false_eq_true, if_true, if_false, reduceIte, not_false_eq_true, not_true_eq_false, Int.natCast_nonneg, Int.ofNat_lt, Int.ofNat_le, Bool.cond_true, Bool.cond_false, cond_true, cond_false, Bool.true_and, Bool.and_true, Bool.false_and, Bool.and_false, Bool.true_or, Bool.or_true, Bool.false_or, Bool.or_false, Bool.cond_true_left, Bool.cond_false_right, Bool.cond_true_right, Bool.cond_false_left, hi', get_gG hi', f189_e (h (i + 1) hi'), wr]; rfl
  · rw [show l.length - 1 + 1 = l.length by omega]
    simp (disch := omega) only [obnd_s, obnd_n, oite_ss, oite_t, oite_f, ogrd_t, ogrd_f, obndS_l, obndS_r, ilt_eq, ile_eq, ieq_eq, imax_e, imin_e, List.length_map, Int.toNat_natCast, decide_true, decide_false, Bool.not_true, Bool.not_false, Bool.not_eq_true, Bool.false_eq_true, if_true, if_false, reduceIte, not_false_eq_true, not_true_eq_false, Int.natCast_nonneg, Int.ofNat_lt, Int.ofNat_le, Bool.cond_true, Bool.cond_false, cond_true, cond_false, Bool.true_and, Bool.and_true, Bool.false_and, Bool.and_false, Bool.true_or, Bool.or_true, Bool.false_or, Bool.or_false, Bool.cond_true_left, Bool.cond_false_right, Bool.cond_true_right, Bool.cond_false_left, Int.lt_irrefl]
def clash (l : List G) (i j : Nat) : Bool := !decide (max (vLo (gG l i)) (vLo (gG l j)) ≤ min (vHi (gG l i)) (vHi (gG l j)))
theorem two_ok {l : List G} {i j : Nat} (h : allR l) (hi : i < l.length) (hj : j < l.length) : allR [gG l i, gG l j] := by
  intro k hk
  match k, hk with
  | 0, _ => exact h i hi
  | 1, _ => exact h j hj
theorem two_clash {l : List G} {i j : Nat} (h : allR l) (hi : i < l.length) (hj : j < l.length) : decide ((agrN [gG l i, gG l j] 2).1 ≤ (agrN [gG l i, gG l j] 2).2) = !clash l i j := by
  have h1 := rngG_b (h i hi)
  have h2 := rngG_b (h j hj)
  unfold clash
  rw [Bool.not_not]
  have e1 : agrN [gG l i, gG l j] 2 = (max (max (-2000000) (vLo (gG l i))) (vLo (gG l j)), min (min 2000000 (vHi (gG l i))) (vHi (gG l j))) := rfl
  rw [e1]
  unfold vLo vHi
  congr 1
  exact propext (by simp only; omega)
def pairJ (l : List G) (i : Nat) : Option Nat := scanF (fun k => bif clash l i (i + 1 + k) then some (i + 1 + k) else none) (l.length - (i + 1)) 0
def pairP (l : List G) : Option (Nat × Nat) := scanF (fun i => (pairJ l i).map fun j => (i, j)) l.length 0
theorem pairJ_scan {σ : Type} (l : List G) (i : Nat) (k : Nat → σ) : scanF (fun m => bif clash l i (i + 1 + m) then some (k (i + 1 + m)) else none) (l.length - (i + 1)) 0 = (pairJ l i).map k := by
  unfold pairJ; rw [← scanF_map]
  refine scanF_congr fun m _ _ => ?_
  cases clash l i (i + 1 + m) <;> rfl
theorem pairP_scan {σ : Type} (l : List G) (k : Nat → Nat → σ) : scanF (fun i => (pairJ l i).map (k i)) l.length 0 = (pairP l).map fun x => k x.1 x.2 := by
  unfold pairP; rw [← scanF_map]
  refine scanF_congr fun i _ _ => ?_
  cases pairJ l i <;> rfl
theorem oslL_n {α : Type} {l : List α} {i : Nat} (h : i ≤ l.length) : oslL l (i : Int) = some (l.drop i) := by
  unfold oslL; rw [if_pos (by omega)]; rfl
theorem drop_gG {l : List G} {i k : Nat} (h : i + k < l.length) : (l.drop i)[k]? = some (gG l (i + k)) := by
  rw [List.getElem?_drop]; exact get_gG h
theorem f174_e {l : List G} (hs : smallG l) (h0 : gErr l = 0) (h : allR l) : f174 l = some (match pairP l with | some x => ((gG l x.1).1, (gG l x.2).1, 0) | none => (⟨#[]⟩, ⟨#[]⟩, 12)) := by
  have hl := hs.1
  unfold f174
  rw [f186_e hs, h0]
  simp (disch := omega) only [obnd_s, obnd_n, oite_ss, oite_t, oite_f, ogrd_t, ogrd_f, obndS_l, obndS_r, ilt_eq, ile_eq, ieq_eq, imax_e, imin_e, List.length_map, Int.toNat_natCast, decide_true, decide_false, Bool.not_true, Bool.not_false, Bool.not_eq_true, Bool.false_eq_true, if_true, if_false, reduceIte, not_false_eq_true, not_true_eq_false, Int.natCast_nonneg, Int.ofNat_lt, Int.ofNat_le, Bool.cond_true, Bool.cond_false, cond_true, cond_false, Bool.true_and, Bool.and_true, Bool.false_and, Bool.and_false, Bool.true_or, Bool.or_true, Bool.false_or, Bool.or_false, Bool.cond_true_left, Bool.cond_false_right, Bool.cond_true_right, Bool.cond_false_left]
  rw [oloop_scan (fun i => (i : Int)) l.length (fun i => (pairJ l i).map fun j => .inr ((gG l i).1, (gG l j).1, 0)) (d := .inl ()) (e0 := 0) rfl ?_ ?_, pairP_scan l (fun i j => (Sum.inr ((gG l i).1, (gG l j).1, 0) : Unit ⊕ (ByteArray × ByteArray × Int)))]
  · cases pairP l <;> rfl
  · intro i hi
    have hin : oloop (l174_1 (l.drop (i + 1)) (gG l i)) (0 : Int) = some (((pairJ l i).map fun j => .inr (.inr (.inr ((gG l i).1, (gG l j).1, 0)))).getD (.inl (gG l i))) := by
      rw [oloop_scanB (fun i => (i : Int)) (l.length - (i + 1)) (fun k => clash l i (i + 1 + k)) (fun k => .inr (.inr (.inr ((gG l i).1, (gG l (i + 1 + k)).1, 0)))) (d := .inl (gG l i)) (e0 := 0) rfl ?_ ?_, pairJ_scan l i (fun j => (Sum.inr (Sum.inr (Sum.inr ((gG l i).1, (gG l j).1, 0))) : G ⊕ (Int ⊕ (Unit ⊕ (ByteArray × ByteArray × Int)))))]
      · intro k hk
        have hk' : i + 1 + k < l.length := by omega
        have hk2 : (k : Int) < (((l.drop (i + 1)).length : Nat) : Int) := by rw [List.length_drop]; omega
        have hf := f187_e (two_ok h hi hk') (by simp)
        rw [show [gG l i, gG l (i + 1 + k)].length = 2 from rfl, two_clash h hi hk'] at hf
        unfold l174_1
        simp (disch := omega) only [obnd_s, obnd_n, oite_ss, oite_t, oite_f, ogrd_t, ogrd_f, obndS_l, obndS_r, ilt_eq, ile_eq, ieq_eq, imax_e, imin_e, List.length_map, Int.toNat_natCast, decide_true, decide_false, Bool.not_true, Bool.not_false, Bool.not_eq_true, Bool.false_eq_true, if_true, if_false, reduceIte, not_false_eq_true, not_true_eq_false, Int.natCast_nonneg, Int.ofNat_lt, Int.ofNat_le, Bool.cond_true, Bool.cond_false, cond_true, cond_false, Bool.true_and, Bool.and_true, Bool.false_and, Bool.and_false, Bool.true_or, Bool.or_true, Bool.false_or, Bool.or_false, Bool.cond_true_left, Bool.cond_false_right, Bool.cond_true_right, Bool.cond_false_left, hk2, drop_gG hk', hf, wr, Bool.not_not]; rfl
      · unfold l174_1
        simp (disch := omega) only [obnd_s, obnd_n, oite_ss, oite_t, oite_f, ogrd_t, ogrd_f, obndS_l, obndS_r, ilt_eq, ile_eq, ieq_eq, imax_e, imin_e, List.length_map, Int.toNat_natCast, decide_true, decide_false, Bool.not_true, Bool.not_false, Bool.not_eq_true, Bool.false_eq_true, if_true, if_false, reduceIte, not_false_eq_true, not_true_eq_false, Int.natCast_nonneg, Int.ofNat_lt, Int.ofNat_le, Bool.cond_true, Bool.cond_false, cond_true, cond_false, Bool.true_and, Bool.and_true, Bool.false_and, Bool.and_false, Bool.true_or, Bool.or_true, Bool.false_or, Bool.or_false, Bool.cond_true_left, Bool.cond_false_right, Bool.cond_true_right, Bool.cond_false_left, List.length_drop, Int.lt_irrefl]
    have hw : IntKind.i64.wrap ((i : Int) + 1) = ((i + 1 : Nat) : Int) := by rw [wr (by omega) (by omega)]; rfl
    unfold l174_2
    simp (disch := omega) only [obnd_s, obnd_n, oite_ss, oite_t, oite_f, ogrd_t, ogrd_f, obndS_l, obndS_r, ilt_eq, ile_eq, ieq_eq, imax_e, imin_e, List.length_map, Int.toNat_natCast, decide_true, decide_false, Bool.not_true, Bool.not_false, Bool.not_eq_true, Bool.false_eq_true, if_true, if_false, reduceIte, not_false_eq_true, not_true_eq_false, Int.natCast_nonneg, Int.ofNat_lt, Int.ofNat_le, Bool.cond_true, Bool.cond_false, cond_true, cond_false, Bool.true_and, Bool.and_true, Bool.false_and, Bool.and_false, Bool.true_or, Bool.or_true, Bool.false_or, Bool.or_false, Bool.cond_true_left, Bool.cond_false_right, Bool.cond_true_right, Bool.cond_false_left, hi, get_gG hi, hw, oslL_n (show i + 1 ≤ l.length by omega), hin]
    cases pairJ l i <;> rfl
  · unfold l174_2; simp (disch := omega) only [obnd_s, obnd_n, oite_ss, oite_t, oite_f, ogrd_t, ogrd_f, obndS_l, obndS_r, ilt_eq, ile_eq, ieq_eq, imax_e, imin_e, List.length_map, Int.toNat_natCast, decide_true, decide_false, Bool.not_true, Bool.not_false, Bool.not_eq_true, Bool.false_eq_true, if_true, if_false, reduceIte, not_false_eq_true, not_true_eq_false, Int.natCast_nonneg, Int.ofNat_lt, Int.ofNat_le, Bool.cond_true, Bool.cond_false, cond_true, cond_false, Bool.true_and, Bool.and_true, Bool.false_and, Bool.and_false, Bool.true_or, Bool.or_true, Bool.false_or, Bool.or_false, Bool.cond_true_left, Bool.cond_false_right, Bool.cond_true_right, Bool.cond_false_left, Int.lt_irrefl]
theorem f177_e {l : List G} (hs : smallG l) (h : allR l) : f177 l = some (match pairP l with | some x => ((gG l x.1).1, (gG l x.2).1, true) | none => (⟨#[]⟩, ⟨#[]⟩, false)) := by
  have hl := hs.1
  unfold f177
  rw [oloop_scan (fun i => (i : Int)) l.length (fun i => (pairJ l i).map fun j => .inr ((gG l i).1, (gG l j).1, true)) (d := .inl ()) (e0 := 0) rfl ?_ ?_, pairP_scan l (fun i j => (Sum.inr ((gG l i).1, (gG l j).1, true) : Unit ⊕ (ByteArray × ByteArray × Bool)))]
  · cases pairP l <;> rfl
  · intro i hi
    have hw : IntKind.i64.wrap ((i : Int) + 1) = ((i + 1 : Nat) : Int) := by rw [wr (by omega) (by omega)]; rfl
    have hin : oloop (l177_1 l (i : Int)) ((i + 1 : Nat) : Int) = some (((pairJ l i).map fun j => .inr (.inr (.inr ((gG l i).1, (gG l j).1, true)))).getD (.inl ())) := by
      rw [oloop_scanB (fun k => ((i + 1 + k : Nat) : Int)) (l.length - (i + 1)) (fun k => clash l i (i + 1 + k)) (fun k => .inr (.inr (.inr ((gG l i).1, (gG l (i + 1 + k)).1, true)))) (d := .inl ()) (e0 := ((i + 1 : Nat) : Int)) rfl ?_ ?_, pairJ_scan l i (fun j => (Sum.inr (Sum.inr (Sum.inr ((gG l i).1, (gG l j).1, true))) : Unit ⊕ (Int ⊕ (Unit ⊕ (ByteArray × ByteArray × Bool)))))]
      · intro k hk
        have hk' : i + 1 + k < l.length := by omega
        have hf := f176_e (two_ok h hi hk') (by simp) (by simp)
        rw [show [gG l i, gG l (i + 1 + k)].length = 2 from rfl, two_clash h hi hk'] at hf
        unfold l177_1
        simp (disch := omega) only [obnd_s, obnd_n, oite_ss, oite_t, oite_f, ogrd_t, ogrd_f, obndS_l, obndS_r, ilt_eq, ile_eq, ieq_eq, imax_e, imin_e, List.length_map, Int.toNat_natCast, decide_true, decide_false, Bool.not_true, Bool.not_false, Bool.not_eq_true, Bool.false_eq_true, if_true, if_false, reduceIte, not_false_eq_true, not_true_eq_false, Int.natCast_nonneg, Int.ofNat_lt, Int.ofNat_le, Bool.cond_true, Bool.cond_false, cond_true, cond_false, Bool.true_and, Bool.and_true, Bool.false_and, Bool.and_false, Bool.true_or, Bool.or_true, Bool.false_or, Bool.or_false, Bool.cond_true_left, Bool.cond_false_right, Bool.cond_true_right, Bool.cond_false_left, hk', hi, get_gG hi, get_gG hk', hf, wr, Bool.not_not]
        cases clash l i (i + 1 + k) <;> simp (disch := omega) only [obnd_s, obnd_n, oite_ss, oite_t, oite_f, ogrd_t, ogrd_f, obndS_l, obndS_r, ilt_eq, ile_eq, ieq_eq, imax_e, imin_e, List.length_map, Int.toNat_natCast, decide_true, decide_false, Bool.not_true, Bool.not_false, Bool.not_eq_true, Bool.false_eq_true, if_true, if_false, reduceIte, not_false_eq_true, not_true_eq_false, Int.natCast_nonneg, Int.ofNat_lt, Int.ofNat_le, Bool.cond_true, Bool.cond_false, cond_true, cond_false, Bool.true_and, Bool.and_true, Bool.false_and, Bool.and_false, Bool.true_or, Bool.or_true, Bool.false_or, Bool.or_false, Bool.cond_true_left, Bool.cond_false_right, Bool.cond_true_right, Bool.cond_false_left, hk', hi, get_gG hi, get_gG hk'] <;> rfl
      · unfold l177_1
        rw [show i + 1 + (l.length - (i + 1)) = l.length by omega]
        simp (disch := omega) only [obnd_s, obnd_n, oite_ss, oite_t, oite_f, ogrd_t, ogrd_f, obndS_l, obndS_r, ilt_eq, ile_eq, ieq_eq, imax_e, imin_e, List.length_map, Int.toNat_natCast, decide_true, decide_false, Bool.not_true, Bool.not_false, Bool.not_eq_true, Bool.false_eq_true, if_true, if_false, reduceIte, not_false_eq_true, not_true_eq_false, Int.natCast_nonneg, Int.ofNat_lt, Int.ofNat_le, Bool.cond_true, Bool.cond_false, cond_true, cond_false, Bool.true_and, Bool.and_true, Bool.false_and, Bool.and_false, Bool.true_or, Bool.or_true, Bool.false_or, Bool.or_false, Bool.cond_true_left, Bool.cond_false_right, Bool.cond_true_right, Bool.cond_false_left, Int.lt_irrefl]
    unfold l177_2
    simp (disch := omega) only [obnd_s, obnd_n, oite_ss, oite_t, oite_f, ogrd_t, ogrd_f, obndS_l, obndS_r, ilt_eq, ile_eq, ieq_eq, imax_e, imin_e, List.length_map, Int.toNat_natCast, decide_true, decide_false, Bool.not_true, Bool.not_false, Bool.not_eq_true, Bool.false_eq_true, if_true, if_false, reduceIte, not_false_eq_true, not_true_eq_false, Int.natCast_nonneg, Int.ofNat_lt, Int.ofNat_le, Bool.cond_true, Bool.cond_false, cond_true, cond_false, Bool.true_and, Bool.and_true, Bool.false_and, Bool.and_false, Bool.true_or, Bool.or_true, Bool.false_or, Bool.or_false, Bool.cond_true_left, Bool.cond_false_right, Bool.cond_true_right, Bool.cond_false_left, hi, hw, hin]
    cases pairJ l i <;> rfl
  · unfold l177_2; simp (disch := omega) only [obnd_s, obnd_n, oite_ss, oite_t, oite_f, ogrd_t, ogrd_f, obndS_l, obndS_r, ilt_eq, ile_eq, ieq_eq, imax_e, imin_e, List.length_map, Int.toNat_natCast, decide_true, decide_false, Bool.not_true, Bool.not_false, Bool.not_eq_true, Bool.false_eq_true, if_true, if_false, reduceIte, not_false_eq_true, not_true_eq_false, Int.natCast_nonneg, Int.ofNat_lt, Int.ofNat_le, Bool.cond_true, Bool.cond_false, cond_true, cond_false, Bool.true_and, Bool.and_true, Bool.false_and, Bool.and_false, Bool.true_or, Bool.or_true, Bool.false_or, Bool.or_false, Bool.cond_true_left, Bool.cond_false_right, Bool.cond_true_right, Bool.cond_false_left, Int.lt_irrefl]
/-! ### A pair contradicts each other exactly if they agree on nothing -/
theorem agr_le {l : List G} : ∀ {n : Nat} {i : Nat}, i < n → vLo (gG l i) ≤ (agrN l n).1 ∧ (agrN l n).2 ≤ vHi (gG l i)
  | 0, i, h => by omega
  | n + 1, i, h => by
    simp only [agrN]
    rcases Nat.lt_or_ge i n with h1 | h1
    · have := @agr_le l n i h1; omega
    · rw [show i = n by omega]; omega
theorem agr_at (l : List G) : ∀ n : Nat, ((agrN l n).1 = -2000000 ∨ ∃ a, a < n ∧ (agrN l n).1 = vLo (gG l a)) ∧ ((agrN l n).2 = 2000000 ∨ ∃ a, a < n ∧ (agrN l n).2 = vHi (gG l a))
  | 0 => ⟨.inl rfl, .inl rfl⟩
  | n + 1 => by
    obtain ⟨h1, h2⟩ := agr_at l n
    simp only [agrN]
    constructor
    · rcases Int.lt_or_le (agrN l n).1 (vLo (gG l n)) with h3 | h3
      · exact .inr ⟨n, by omega, by omega⟩
      · rcases h1 with h1 | ⟨a, ha, h1⟩
        · exact .inl (by omega)
        · exact .inr ⟨a, by omega, by omega⟩
    · rcases Int.lt_or_le (vHi (gG l n)) (agrN l n).2 with h3 | h3
      · exact .inr ⟨n, by omega, by omega⟩
      · rcases h2 with h2 | ⟨a, ha, h2⟩
        · exact .inl (by omega)
        · exact .inr ⟨a, by omega, by omega⟩
theorem scanF_some {ρ : Type} {f : Nat → Option ρ} {r : ρ} : ∀ {n i : Nat}, scanF f n i = some r → ∃ k, i ≤ k ∧ k < i + n ∧ f k = some r
  | 0, i, h => by cases h
  | n + 1, i, h => by
    simp only [scanF] at h
    cases hf : f i with
    | some r' => rw [hf] at h; exact ⟨i, Nat.le_refl _, by omega, by rw [hf]; exact h⟩
    | none =>
      rw [hf] at h
      obtain ⟨k, h1, h2, h3⟩ := scanF_some h
      exact ⟨k, by omega, by omega, h3⟩
theorem pair_iff {l : List G} (h : allR l) (ho : ∀ i, i < l.length → ordG (gG l i) = true) : (pairP l).isSome = !decide ((agrN l l.length).1 ≤ (agrN l l.length).2) := by
  cases hp : pairP l with
  | some x =>
    obtain ⟨i, _, hi, h1⟩ := scanF_some hp
    cases hj : pairJ l i with
    | none => rw [hj] at h1; cases h1
    | some j =>
      obtain ⟨k, _, hk, h2⟩ := scanF_some hj
      cases hc : clash l i (i + 1 + k) with
      | false => rw [hc] at h2; cases h2
      | true =>
        unfold clash at hc
        simp only [Bool.not_eq_true', decide_eq_false_iff_not] at hc
        have a1 := @agr_le l l.length i (by omega)
        have a2 := @agr_le l l.length (i + 1 + k) (by omega)
        have : ¬ ((agrN l l.length).1 ≤ (agrN l l.length).2) := by omega
        rw [decide_eq_false this]; rfl
  | none =>
    have nc : ∀ i j, i < j → j < l.length → clash l i j = false := by
      intro i j hij hj
      have h1 := scanF_none hp i (Nat.zero_le _) (by omega)
      have h2 : pairJ l i = none := by
        cases h3 : pairJ l i with
        | none => rfl
        | some y => rw [h3] at h1; cases h1
      have h3 := scanF_none h2 (j - (i + 1)) (Nat.zero_le _) (by omega)
      rw [show i + 1 + (j - (i + 1)) = j by omega] at h3
      cases h4 : clash l i j with
      | false => rfl
      | true => rw [h4] at h3; cases h3
    have le : ∀ i j, i < l.length → j < l.length → vLo (gG l i) ≤ vHi (gG l j) := by
      intro i j hi hj
      rcases Nat.lt_trichotomy i j with h1 | h1 | h1
      · have := nc i j h1 hj
        unfold clash at this
        simp only [Bool.not_eq_false', decide_eq_true_eq] at this
        omega
      · subst h1
        have := ho i hi
        unfold ordG at this
        simp only [Bool.and_eq_true, decide_eq_true_eq] at this
        unfold vLo vHi; omega
      · have := nc j i h1 hi
        unfold clash at this
        simp only [Bool.not_eq_false', decide_eq_true_eq] at this
        omega
    have : (agrN l l.length).1 ≤ (agrN l l.length).2 := by
      obtain ⟨h1, h2⟩ := agr_at l l.length
      rcases h1 with h1 | ⟨a, ha, h1⟩ <;> rcases h2 with h2 | ⟨b, hb, h2⟩
      · omega
      · have := rngG_b (h b hb); rw [h1, h2]; unfold vHi; omega
      · have := rngG_b (h a ha); rw [h1, h2]; unfold vLo; omega
      · rw [h1, h2]; exact le a b ha hb
    rw [decide_eq_true this]; rfl
structure okGs (l : List G) : Prop where
  pos : 0 < l.length
  le : l.length ≤ 12
  err : ∀ i, i < l.length → gaugE l i = 0
theorem gErr_ok {l : List G} (h : gErr l = 0) : okGs l := by
  unfold gErr at h
  cases h1 : decide (l.length = 0) with
  | true => rw [h1] at h; cases h
  | false =>
    rw [h1] at h
    simp only [cond_false] at h
    cases h2 : decide (12 < l.length) with
    | true => rw [h2] at h; cases h
    | false =>
      rw [h2] at h
      simp only [cond_false] at h
      have h1 := of_decide_eq_false h1
      have h2 := of_decide_eq_false h2
      refine ⟨by omega, by omega, ?_⟩
      cases h3 : errV (gaugE l) l.length with
      | some e =>
        rw [h3] at h
        obtain ⟨k, _, _, hk⟩ := scanF_some h3
        cases hd : decide (gaugE l k = 0) with
        | true => rw [hd] at hk; cases hk
        | false =>
          rw [hd] at hk
          simp only [Bool.not_false, cond_true, Option.some.injEq] at hk
          exact absurd (hk.trans h) (of_decide_eq_false hd)
      | none =>
        intro i hi
        have := scanF_none h3 i (Nat.zero_le _) (by omega)
        cases hd : decide (gaugE l i = 0) with
        | true => exact of_decide_eq_true hd
        | false => rw [hd] at this; cases this
theorem gErr_of {l : List G} (h : okGs l) : gErr l = 0 := by
  unfold gErr
  rw [decide_eq_false (show ¬ (l.length = 0) by have := h.pos; omega), decide_eq_false (show ¬ (12 < l.length) by have := h.le; omega)]
  have : errV (gaugE l) l.length = none := scanF_of_none fun k _ hk => by rw [h.err k (by omega)]; rfl
  rw [this]; rfl
theorem gaugE_0 {l : List G} {i : Nat} (h : gaugE l i = 0) : nameB (gG l i).1 = true ∧ knownG l i = false ∧ rngG (gG l i) = true ∧ ordG (gG l i) = true := by
  unfold gaugE at h
  cases h1 : nameB (gG l i).1 <;> cases h2 : knownG l i <;> cases h3 : rngG (gG l i) <;> cases h4 : ordG (gG l i) <;> simp [h1, h2, h3, h4] at h ⊢
theorem gaugE_of {l : List G} {i : Nat} (h : nameB (gG l i).1 = true ∧ knownG l i = false ∧ rngG (gG l i) = true ∧ ordG (gG l i) = true) : gaugE l i = 0 := by
  unfold gaugE; rw [h.1, h.2.1, h.2.2.1, h.2.2.2]; rfl
theorem gG_drop (l : List G) (i : Nat) : gG (l.drop 1) i = gG l (i + 1) := by
  unfold gG; rw [List.getD_eq_getElem?_getD, List.getD_eq_getElem?_getD, List.getElem?_drop, Nat.add_comm]
theorem okGs_drop {l : List G} (h : okGs l) (h2 : 1 < l.length) : okGs (l.drop 1) := by
  have hl : (l.drop 1).length = l.length - 1 := by rw [List.length_drop]
  refine ⟨by omega, by have := h.le; omega, fun i hi => ?_⟩
  obtain ⟨a1, a2, a3, a4⟩ := gaugE_0 (h.err (i + 1) (by omega))
  refine gaugE_of ?_
  rw [gG_drop]
  refine ⟨a1, ?_, a3, a4⟩
  unfold knownG at a2 ⊢
  rw [gG_drop]
  cases hk : ((l.drop 1).take i).any fun x => x.1.toList == (gG l (i + 1)).1.toList with
  | false => rfl
  | true =>
    rw [List.any_eq_true] at hk
    obtain ⟨x, hx, hq⟩ := hk
    rw [← a2, eq_comm, List.any_eq_true]
    refine ⟨x, ?_, hq⟩
    rw [List.take_drop] at hx
    rw [Nat.add_comm i 1]
    exact List.mem_of_mem_drop hx
theorem agr_drop (l : List G) : ∀ n : Nat, (agrN (l.drop 1) n).1 ≤ (agrN l (n + 1)).1 ∧ (agrN l (n + 1)).2 ≤ (agrN (l.drop 1) n).2
  | 0 => by simp only [agrN]; omega
  | n + 1 => by
    have := agr_drop l n
    rw [show agrN l (n + 1 + 1) = (max (agrN l (n + 1)).1 (vLo (gG l (n + 1))), min (agrN l (n + 1)).2 (vHi (gG l (n + 1)))) from rfl]
    simp only [agrN, gG_drop] at this ⊢
    omega
theorem f172_e {l : List G} (hs : smallG l) : f172 l = some (bif !decide (gErr l = 0) then (0, 0, gErr l) else bif !decide ((agrN l l.length).1 ≤ (agrN l l.length).2) then (0, 0, 13) else ((agrN l l.length).1, (agrN l l.length).2, 0)) := by
  unfold f172
  rw [f186_e hs]
  cases h1 : decide (gErr l = 0) with
  | false => simp (disch := omega) only [obnd_s, obnd_n, oite_ss, oite_t, oite_f, ogrd_t, ogrd_f, obndS_l, obndS_r, ilt_eq, ile_eq, ieq_eq, imax_e, imin_e, List.length_map, Int.toNat_natCast, decide_true, decide_false, Bool.not_true, Bool.not_false, Bool.not_eq_true, Bool.false_eq_true, if_true, if_false, reduceIte, not_false_eq_true, not_true_eq_false, Int.natCast_nonneg, Int.ofNat_lt, Int.ofNat_le, Bool.cond_true, Bool.cond_false, cond_true, cond_false, Bool.true_and, Bool.and_true, Bool.false_and, Bool.and_false, Bool.true_or, Bool.or_true, Bool.false_or, Bool.or_false, Bool.cond_true_left, Bool.cond_false_right, Bool.cond_true_right, Bool.cond_false_left, h1]
  | true =>
    have ok := gErr_ok (of_decide_eq_true h1)
    have hl := hs.1
    simp (disch := omega) only [obnd_s, obnd_n, oite_ss, oite_t, oite_f, ogrd_t, ogrd_f, obndS_l, obndS_r, ilt_eq, ile_eq, ieq_eq, imax_e, imin_e, List.length_map, Int.toNat_natCast, decide_true, decide_false, Bool.not_true, Bool.not_false, Bool.not_eq_true, Bool.false_eq_true, if_true, if_false, reduceIte, not_false_eq_true, not_true_eq_false, Int.natCast_nonneg, Int.ofNat_lt, Int.ofNat_le, Bool.cond_true, Bool.cond_false, cond_true, cond_false, Bool.true_and, Bool.and_true, Bool.false_and, Bool.and_false, Bool.true_or, Bool.or_true, Bool.false_or, Bool.or_false, Bool.cond_true_left, Bool.cond_false_right, Bool.cond_true_right, Bool.cond_false_left, h1, f187_e (fun i hi => (gaugE_0 (ok.err i hi)).2.2.1) (show l.length ≤ 1000 by omega)]
theorem f173_e {l : List G} (h : l.length ≤ 1000) : f173 l = some l := by
  unfold f173; rw [ogrd_fits (by simp; omega) (by simp; omega)]; rfl
theorem ba_beq (a : ByteArray) : (a == a) = true := by
  cases a; exact beq_self_eq_true (α := Array UInt8) _
theorem f166_true {l : List G} : f166 l = some true := by
  unfold f166
  rw [f10_e]
  simp (disch := omega) only [obnd_s, obnd_n, oite_ss, oite_t, oite_f, ogrd_t, ogrd_f, obndS_l, obndS_r, ilt_eq, ile_eq, ieq_eq, imax_e, imin_e, List.length_map, Int.toNat_natCast, decide_true, decide_false, Bool.not_true, Bool.not_false, Bool.not_eq_true, Bool.false_eq_true, if_true, if_false, reduceIte, not_false_eq_true, not_true_eq_false, Int.natCast_nonneg, Int.ofNat_lt, Int.ofNat_le, Bool.cond_true, Bool.cond_false, cond_true, cond_false, Bool.true_and, Bool.and_true, Bool.false_and, Bool.and_false, Bool.true_or, Bool.or_true, Bool.false_or, Bool.or_false, Bool.cond_true_left, Bool.cond_false_right, Bool.cond_true_right, Bool.cond_false_left]
  cases h0 : decide ((14 : Int) < (l.length : Int)) with
  | true => rfl
  | false =>
    have h0 := of_decide_eq_false h0
    have hl : l.length ≤ 14 := by omega
    simp (disch := omega) only [obnd_s, obnd_n, oite_ss, oite_t, oite_f, ogrd_t, ogrd_f, obndS_l, obndS_r, ilt_eq, ile_eq, ieq_eq, imax_e, imin_e, List.length_map, Int.toNat_natCast, decide_true, decide_false, Bool.not_true, Bool.not_false, Bool.not_eq_true, Bool.false_eq_true, if_true, if_false, reduceIte, not_false_eq_true, not_true_eq_false, Int.natCast_nonneg, Int.ofNat_lt, Int.ofNat_le, Bool.cond_true, Bool.cond_false, cond_true, cond_false, Bool.true_and, Bool.and_true, Bool.false_and, Bool.and_false, Bool.true_or, Bool.or_true, Bool.false_or, Bool.or_false, Bool.cond_true_left, Bool.cond_false_right, Bool.cond_true_right, Bool.cond_false_left]
    rw [oloop_scanB (fun i => (i : Int)) l.length (fun i => decide ((30 : Int) < ((gG l i).1.size : Int))) (fun i => .inr true) (d := .inl ()) (e0 := 0) rfl ?_ ?_]
    rotate_left
    · intro i hi
      simp (disch := omega) only [obnd_s, obnd_n, oite_ss, oite_t, oite_f, ogrd_t, ogrd_f, obndS_l, obndS_r, ilt_eq, ile_eq, ieq_eq, imax_e, imin_e, List.length_map, Int.toNat_natCast, decide_true, decide_false, Bool.not_true, Bool.not_false, Bool.not_eq_true, Bool.false_eq_true, if_true, if_false, reduceIte, not_false_eq_true, not_true_eq_false, Int.natCast_nonneg, Int.ofNat_lt, Int.ofNat_le, Bool.cond_true, Bool.cond_false, cond_true, cond_false, Bool.true_and, Bool.and_true, Bool.false_and, Bool.and_false, Bool.true_or, Bool.or_true, Bool.false_or, Bool.or_false, Bool.cond_true_left, Bool.cond_false_right, Bool.cond_true_right, Bool.cond_false_left, hi, get_gG hi, wr]; rfl
    · simp (disch := omega) only [obnd_s, obnd_n, oite_ss, oite_t, oite_f, ogrd_t, ogrd_f, obndS_l, obndS_r, ilt_eq, ile_eq, ieq_eq, imax_e, imin_e, List.length_map, Int.toNat_natCast, decide_true, decide_false, Bool.not_true, Bool.not_false, Bool.not_eq_true, Bool.false_eq_true, if_true, if_false, reduceIte, not_false_eq_true, not_true_eq_false, Int.natCast_nonneg, Int.ofNat_lt, Int.ofNat_le, Bool.cond_true, Bool.cond_false, cond_true, cond_false, Bool.true_and, Bool.and_true, Bool.false_and, Bool.and_false, Bool.true_or, Bool.or_true, Bool.false_or, Bool.or_false, Bool.cond_true_left, Bool.cond_false_right, Bool.cond_true_right, Bool.cond_false_left, Int.lt_irrefl]
    cases hsc : scanF (fun i => bif decide (30 < ((gG l i).1.size : Int)) then some (Sum.inr true : Unit ⊕ Bool) else none) l.length 0 with
    | some r =>
      obtain ⟨k, _, _, hk⟩ := scanF_some hsc
      cases hd : decide (30 < ((gG l k).1.size : Int)) with
      | false => rw [hd] at hk; cases hk
      | true => rw [hd] at hk; injection hk with hk; rw [← hk]; rfl
    | none =>
      have hs : smallG l := ⟨hl, fun x hx => by
        obtain ⟨i, hi, rfl⟩ := List.getElem_of_mem hx
        have := scanF_none hsc i (Nat.zero_le _) (by omega)
        have hg : gG l i = l[i] := by unfold gG; exact getD_i hi
        rw [← hg]
        cases hd : decide (30 < ((gG l i).1.size : Int)) with
        | true => rw [hd] at this; cases this
        | false => have := of_decide_eq_false hd; omega⟩
      have hs1 : smallG (l.drop 1) := ⟨by rw [List.length_drop]; omega, fun x hx => hs.2 x (List.mem_of_mem_drop hx)⟩
      simp (disch := omega) only [obnd_s, obnd_n, oite_ss, oite_t, oite_f, ogrd_t, ogrd_f, obndS_l, obndS_r, ilt_eq, ile_eq, ieq_eq, imax_e, imin_e, List.length_map, Int.toNat_natCast, decide_true, decide_false, Bool.not_true, Bool.not_false, Bool.not_eq_true, Bool.false_eq_true, if_true, if_false, reduceIte, not_false_eq_true, not_true_eq_false, Int.natCast_nonneg, Int.ofNat_lt, Int.ofNat_le, Bool.cond_true, Bool.cond_false, cond_true, cond_false, Bool.true_and, Bool.and_true, Bool.false_and, Bool.and_false, Bool.true_or, Bool.or_true, Bool.false_or, Bool.or_false, Bool.cond_true_left, Bool.cond_false_right, Bool.cond_true_right, Bool.cond_false_left, Option.getD_none, f173_e (show l.length ≤ 1000 by omega), f172_e hs, f175_e hs]
      cases h1 : decide (gErr l = 0) with
      | false =>
        have h2 := of_decide_eq_false h1
        have h174 : f174 l = some (⟨#[]⟩, ⟨#[]⟩, gErr l) := by
          unfold f174; rw [f186_e hs]; simp (disch := omega) only [obnd_s, obnd_n, oite_ss, oite_t, oite_f, ogrd_t, ogrd_f, obndS_l, obndS_r, ilt_eq, ile_eq, ieq_eq, imax_e, imin_e, List.length_map, Int.toNat_natCast, decide_true, decide_false, Bool.not_true, Bool.not_false, Bool.not_eq_true, Bool.false_eq_true, if_true, if_false, reduceIte, not_false_eq_true, not_true_eq_false, Int.natCast_nonneg, Int.ofNat_lt, Int.ofNat_le, Bool.cond_true, Bool.cond_false, cond_true, cond_false, Bool.true_and, Bool.and_true, Bool.false_and, Bool.and_false, Bool.true_or, Bool.or_true, Bool.false_or, Bool.or_false, Bool.cond_true_left, Bool.cond_false_right, Bool.cond_true_right, Bool.cond_false_left, h1]
        simp (disch := omega) only [obnd_s, obnd_n, oite_ss, oite_t, oite_f, ogrd_t, ogrd_f, obndS_l, obndS_r, ilt_eq, ile_eq, ieq_eq, imax_e, imin_e, List.length_map, Int.toNat_natCast, decide_true, decide_false, Bool.not_true, Bool.not_false, Bool.not_eq_true, Bool.false_eq_true, if_true, if_false, reduceIte, not_false_eq_true, not_true_eq_false, Int.natCast_nonneg, Int.ofNat_lt, Int.ofNat_le, Bool.cond_true, Bool.cond_false, cond_true, cond_false, Bool.true_and, Bool.and_true, Bool.false_and, Bool.and_false, Bool.true_or, Bool.or_true, Bool.false_or, Bool.or_false, Bool.cond_true_left, Bool.cond_false_right, Bool.cond_true_right, Bool.cond_false_left, h174, h1, ba_beq, eq_self]
      | true =>
        have h2 := of_decide_eq_true h1
        have ok := gErr_ok h2
        have hr : allR l := fun i hi => (gaugE_0 (ok.err i hi)).2.2.1
        have ho : ∀ i, i < l.length → ordG (gG l i) = true := fun i hi => (gaugE_0 (ok.err i hi)).2.2.2
        have hp := pair_iff hr ho
        simp (disch := omega) only [obnd_s, obnd_n, oite_ss, oite_t, oite_f, ogrd_t, ogrd_f, obndS_l, obndS_r, ilt_eq, ile_eq, ieq_eq, imax_e, imin_e, List.length_map, Int.toNat_natCast, decide_true, decide_false, Bool.not_true, Bool.not_false, Bool.not_eq_true, Bool.false_eq_true, if_true, if_false, reduceIte, not_false_eq_true, not_true_eq_false, Int.natCast_nonneg, Int.ofNat_lt, Int.ofNat_le, Bool.cond_true, Bool.cond_false, cond_true, cond_false, Bool.true_and, Bool.and_true, Bool.false_and, Bool.and_false, Bool.true_or, Bool.or_true, Bool.false_or, Bool.or_false, Bool.cond_true_left, Bool.cond_false_right, Bool.cond_true_right, Bool.cond_false_left, f174_e hs h2 hr, f177_e hs hr, f176_e hr (show l.length ≤ 1000 by omega) ok.pos]
        cases hpp : pairP l with
        | some x =>
          rw [hpp] at hp
          have hp : decide ((agrN l l.length).1 ≤ (agrN l l.length).2) = false := by
            cases hd : decide ((agrN l l.length).1 ≤ (agrN l l.length).2) with
            | false => rfl
            | true => rw [hd] at hp; cases hp
          simp (disch := omega) only [obnd_s, obnd_n, oite_ss, oite_t, oite_f, ogrd_t, ogrd_f, obndS_l, obndS_r, ilt_eq, ile_eq, ieq_eq, imax_e, imin_e, List.length_map, Int.toNat_natCast, decide_true, decide_false, Bool.not_true, Bool.not_false, Bool.not_eq_true, Bool.false_eq_true, if_true, if_false, reduceIte, not_false_eq_true, not_true_eq_false, Int.natCast_nonneg, Int.ofNat_lt, Int.ofNat_le, Bool.cond_true, Bool.cond_false, cond_true, cond_false, Bool.true_and, Bool.and_true, Bool.false_and, Bool.and_false, Bool.true_or, Bool.or_true, Bool.false_or, Bool.or_false, Bool.cond_true_left, Bool.cond_false_right, Bool.cond_true_right, Bool.cond_false_left, hp, ba_beq, eq_self, beq_self_eq_true]
          rfl
        | none =>
          rw [hpp] at hp
          have hp : decide ((agrN l l.length).1 ≤ (agrN l l.length).2) = true := by
            cases hd : decide ((agrN l l.length).1 ≤ (agrN l l.length).2) with
            | true => rfl
            | false => rw [hd] at hp; cases hp
          have e1 : decide ((l.length : Int) = 1) = decide (l.length = 1) := ceq 1 _
          simp (disch := omega) only [obnd_s, obnd_n, oite_ss, oite_t, oite_f, ogrd_t, ogrd_f, obndS_l, obndS_r, ilt_eq, ile_eq, ieq_eq, imax_e, imin_e, List.length_map, Int.toNat_natCast, decide_true, decide_false, Bool.not_true, Bool.not_false, Bool.not_eq_true, Bool.false_eq_true, if_true, if_false, reduceIte, not_false_eq_true, not_true_eq_false, Int.natCast_nonneg, Int.ofNat_lt, Int.ofNat_le, Bool.cond_true, Bool.cond_false, cond_true, cond_false, Bool.true_and, Bool.and_true, Bool.false_and, Bool.and_false, Bool.true_or, Bool.or_true, Bool.false_or, Bool.or_false, Bool.cond_true_left, Bool.cond_false_right, Bool.cond_true_right, Bool.cond_false_left, hp, ba_beq, eq_self, e1, beq_self_eq_true]
          cases h3 : decide (l.length = 1) with
          | true => rfl
          | false =>
            have h3 := of_decide_eq_false h3
            have hlp := ok.pos
            have ok1 := okGs_drop ok (by omega)
            have hd := agr_drop l (l.length - 1)
            rw [show l.length - 1 + 1 = l.length by omega] at hd
            have hle := of_decide_eq_true hp
            have h4 : decide ((agrN (l.drop 1) (l.drop 1).length).1 ≤ (agrN (l.drop 1) (l.drop 1).length).2) = true := by
              rw [List.length_drop]; exact decide_eq_true (by omega)
            have ho1 : oslL l 1 = some (l.drop 1) := oslL_n (i := 1) (by omega)
            simp (disch := omega) only [obnd_s, obnd_n, oite_ss, oite_t, oite_f, ogrd_t, ogrd_f, obndS_l, obndS_r, ilt_eq, ile_eq, ieq_eq, imax_e, imin_e, List.length_map, Int.toNat_natCast, decide_true, decide_false, Bool.not_true, Bool.not_false, Bool.not_eq_true, Bool.false_eq_true, if_true, if_false, reduceIte, not_false_eq_true, not_true_eq_false, Int.natCast_nonneg, Int.ofNat_lt, Int.ofNat_le, Bool.cond_true, Bool.cond_false, cond_true, cond_false, Bool.true_and, Bool.and_true, Bool.false_and, Bool.and_false, Bool.true_or, Bool.or_true, Bool.false_or, Bool.or_false, Bool.cond_true_left, Bool.cond_false_right, Bool.cond_true_right, Bool.cond_false_left, ho1, f173_e (show (l.drop 1).length ≤ 1000 by rw [List.length_drop]; omega), f172_e hs1, gErr_of ok1, h4]
            rw [List.length_drop]
            simp
            simpa using hd
end Go.Proofs.YtfdapegcngmknaaGreat.AM
