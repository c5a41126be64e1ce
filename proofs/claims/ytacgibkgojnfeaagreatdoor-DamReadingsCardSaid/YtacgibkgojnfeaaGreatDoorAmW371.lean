/- Plain law: DamReadings. Conditions: none. -/
import Derived.Test.YtacgibkgojnfeaaGreatDoorAmLf
import Derived.Test.YtacgibkgojnfeaaGreatDoorAmP0
import Derived.Lib.SplitLaws
import Derived.Lib.AtoiAllCases
namespace Go.Proofs.YtacgibkgojnfeaaGreatDoor.AM
section
set_option linter.unusedSimpArgs false
set_option linter.unusedVariables false
open Go Go.RowKit

def glue (p : List UInt8) : List (List UInt8) → List (List UInt8)
  | [] => [p]
  | h :: t => (p ++ h) :: t
/-- The parts between the bytes c. -/
def spl (c : UInt8) : List UInt8 → List (List UInt8)
  | [] => [[]]
  | x :: r => if x = c then [] :: spl c r else glue [x] (spl c r)
def mkB (l : List UInt8) : ByteArray := ⟨⟨l⟩⟩

theorem splitK_spl (c : UInt8) : ∀ (l : List UInt8), Lib.splitK [c] 0 (Lib.count l [c]) l = spl c l
  | [] => by rw [Lib.count_miss (by simp [Lib.index])]; rfl
  | x :: r => by
    have ih := splitK_spl c r
    by_cases h : x = c
    · subst h
      have hix : Lib.index (x :: r) [x] = ((0 : Nat) : Int) := by rw [Lib.index]; simp [List.isPrefixOf]
      rw [Lib.count_cons_eq, Nat.add_comm, Lib.splitK, hix]
      simp only [spl, if_true]
      rw [← ih]; simp
    · rw [Lib.count_cons_ne x c r h]
      simp only [spl, if_neg h]
      rw [← ih]
      have hp : ([c] : List UInt8).isPrefixOf (x :: r) = false := by simp [List.isPrefixOf, Ne.symm h]
      have hix : Lib.index (x :: r) [c] = if Lib.index r [c] == -1 then -1 else Lib.index r [c] + 1 := by rw [Lib.index, hp]; simp
      cases hk : Lib.count r [c] with
      | zero => rfl
      | succ k =>
        have hne : Lib.index r [c] ≠ -1 := fun e => by rw [Lib.count_miss e] at hk; cases hk
        have hge := Lib.index_ge r [c]
        obtain ⟨j, hj⟩ : ∃ j : Nat, Lib.index r [c] = j := ⟨(Lib.index r [c]).toNat, by omega⟩
        have hix' : Lib.index (x :: r) [c] = ((j + 1 : Nat) : Int) := by rw [hix, if_neg (fun e => hne (beq_iff_eq.1 e)), hj]; omega
        simp only [Lib.splitK, hix', hj]
        have e1 : ((((j + 1 : Nat) : Int)) == -1) = false := by simp; omega
        have e2 : (((j : Int)) == -1) = false := by simp
        simp only [e1, e2, Bool.false_eq_true, if_false, glue]
        simp
theorem splitB_spl (c : UInt8) (s : ByteArray) : Lib.splitB ⟨#[c]⟩ 0 (Lib.countB s ⟨#[c]⟩) s = (spl c s.data.toList).map mkB := by
  have h := Lib.splitB_data ⟨#[c]⟩ 0 (Lib.countB s ⟨#[c]⟩) s
  have h2 : Lib.countB s ⟨#[c]⟩ = Lib.count s.data.toList [c] := rfl
  rw [h2] at h ⊢
  rw [show (⟨#[c]⟩ : ByteArray).data.toList = [c] from rfl, splitK_spl] at h
  rw [← h, List.map_map]
  conv => lhs; rw [← List.map_id (Lib.splitB _ _ _ _)]
  apply List.map_congr_left
  intro x _
  rfl
theorem f382_e {s : ByteArray} {c : UInt8} (hs : s.size < 4294967281) : f382 s ⟨#[c]⟩ = some ((spl c s.data.toList).map mkB) := by
  unfold f382
  rw [decide_eq_true ⟨hs, Nat.le_refl _⟩, ogrd_t, splitB_spl]

theorem spl_ne (c : UInt8) : ∀ l, spl c l ≠ []
  | [] => by simp [spl]
  | x :: r => by
    simp only [spl]
    split
    · simp
    · cases spl c r <;> simp [glue]


/-- The parts so far, and where the present one begins. -/
def stC (c : UInt8) (l : List UInt8) : Nat → List (List UInt8) × Nat
  | 0 => ([], 0)
  | i + 1 => if l[i]? = some c then ((stC c l i).1 ++ [(l.drop (stC c l i).2).take (i - (stC c l i).2)], i + 1) else stC c l i
theorem stC_le (c : UInt8) (l : List UInt8) : ∀ i, (stC c l i).2 ≤ i ∧ (stC c l i).1.length ≤ i
  | 0 => ⟨Nat.le_refl _, Nat.le_refl _⟩
  | i + 1 => by
    have := stC_le c l i
    simp only [stC]
    split
    · exact ⟨Nat.le_refl _, by simp; omega⟩
    · omega
theorem glue_app (p q : List UInt8) (t : List (List UInt8)) : glue p (glue q t) = glue (p ++ q) t := by
  cases t <;> simp [glue]
theorem stC_spl (c : UInt8) (l : List UInt8) : ∀ i, i ≤ l.length → spl c l = (stC c l i).1 ++ glue ((l.take i).drop (stC c l i).2) (spl c (l.drop i))
  | 0, _ => by
    simp only [stC, List.take_zero, List.drop_nil, List.drop_zero, List.nil_append]
    cases l with
    | nil => rfl
    | cons x r =>
      simp only [spl]
      split
      · rfl
      · cases spl c r <;> rfl
  | i + 1, hi => by
    have ih := stC_spl c l i (by omega)
    have hle := (stC_le c l i).1
    have hd : l.drop i = l[i] :: l.drop (i + 1) := List.drop_eq_getElem_cons (by omega)
    have hx : l[i]? = some l[i] := List.getElem?_eq_getElem (by omega)
    rw [ih, hd]
    simp only [stC, hx, Option.some.injEq, spl]
    by_cases h : l[i] = c
    · rw [if_pos h, if_pos h]
      simp only [glue, List.append_nil]
      have e1 : (l.take (i + 1)).drop (i + 1) = [] := List.drop_eq_nil_of_le (by simp; omega)
      have e2 : (l.take i).drop (stC c l i).2 = (l.drop (stC c l i).2).take (i - (stC c l i).2) := by rw [List.drop_take]
      rw [e1, e2]
      cases he : spl c (l.drop (i + 1)) with
      | nil => exact absurd he (spl_ne _ _)
      | cons a b => simp
    · rw [if_neg h, if_neg h, glue_app]
      congr 2
      rw [List.take_succ_eq_append_getElem (by omega), List.drop_append_of_le_length (by simp; omega)]

theorem f386_e {s : ByteArray} {c : UInt8} {k : Int} (hk : k = (c.toNat : Int)) (hs : s.size ≤ 1000) : f386 s k = some ((spl c s.data.toList).map mkB) := by
  subst hk
  have hl : s.data.toList.length = s.size := by rw [Array.length_toList]; rfl
  generalize hL : s.data.toList = L at hl
  unfold f386
  rw [hL, ← hl]
  rw [oloop_all (fun i => ((stC c L i).1.map mkB, (((stC c L i).2 : Nat) : Int), (i : Int))) L.length (r := ((stC c L L.length).1.map mkB, (((stC c L L.length).2 : Nat) : Int))) (e0 := (([] : List ByteArray), (0 : Int), (0 : Int))) rfl ?_ ?_]
  · have h1 := stC_le c L L.length
    have h2 := stC_spl c L L.length (Nat.le_refl _)
    rw [List.take_length, List.drop_length, show spl c [] = [[]] from rfl] at h2
    simp (disch := omega) only [obnd_s, obnd_n, oite_ss, oite_t, oite_f, ogrd_t, ogrd_f, obndS_l, obndS_r, ilt_eq, ile_eq, ieq_eq, imax_e, imin_e, k0, k1, k2, k3, k4, k5, k6, k7, k8, k9, reduceIte, k10, k11, k12, k13, k14, k15, k16, k17, k18, k19, k20, k21, k22, k23, k24, k25, k26, k27, k28, h1.1]
    rw [ogrd_fits (by simp; omega) (by simp; omega), h2]
    simp [glue, mkB]
  · intro i hi
    have h1 := stC_le c L i
    have h3 : (stC c L i).1.length + 1 ≤ 1001 := by omega
    simp (disch := omega) only [obnd_s, obnd_n, oite_ss, oite_t, oite_f, ogrd_t, ogrd_f, obndS_l, obndS_r, ilt_eq, ile_eq, ieq_eq, imax_e, imin_e, k0, k1, k2, k3, k4, k5, k6, k7, k8, k9, reduceIte, k10, k11, k12, k13, k14, k15, k16, k17, k18, k19, k20, k21, k22, k23, k24, k25, k26, k27, k28, hi, get_i hi, wr, h1.1]
    by_cases h : L[i] = c
    · have h2 : ((L[i].toNat : Int) = (c.toNat : Int)) := by rw [h]
      simp only [stC, get_i hi, h, if_true]
      simp (disch := omega) only [obnd_s, obnd_n, oite_ss, oite_t, oite_f, ogrd_t, ogrd_f, obndS_l, obndS_r, ilt_eq, ile_eq, ieq_eq, imax_e, imin_e, k0, k1, k2, k3, k4, k5, k6, k7, k8, k9, reduceIte, k10, k11, k12, k13, k14, k15, k16, k17, k18, k19, k20, k21, k22, k23, k24, k25, k26, k27, k28, h1.1, Nat.le_of_lt hi]
      rw [ogrd_fits (by simp; omega) (by simp; omega)]
      simp [mkB]
    · have h2 : ¬ ((L[i].toNat : Int) = (c.toNat : Int)) := fun e => h (UInt8.toNat_inj.1 (by omega))
      simp only [stC, get_i hi, Option.some.injEq, if_neg h]
      simp (disch := omega) only [obnd_s, obnd_n, oite_ss, oite_t, oite_f, ogrd_t, ogrd_f, obndS_l, obndS_r, ilt_eq, ile_eq, ieq_eq, imax_e, imin_e, k0, k1, k2, k3, k4, k5, k6, k7, k8, k9, reduceIte, k10, k11, k12, k13, k14, k15, k16, k17, k18, k19, k20, k21, k22, k23, k24, k25, k26, k27, k28, h2]
      simp
  · simp (disch := omega) only [obnd_s, obnd_n, oite_ss, oite_t, oite_f, ogrd_t, ogrd_f, obndS_l, obndS_r, ilt_eq, ile_eq, ieq_eq, imax_e, imin_e, k0, k1, k2, k3, k4, k5, k6, k7, k8, k9, reduceIte, k10, k11, k12, k13, k14, k15, k16, k17, k18, k19, k20, k21, k22, k23, k24, k25, k26, k27, k28, Int.lt_irrefl]
end
section
set_option linter.unusedSimpArgs false
set_option linter.unusedVariables false
open Go Go.RowKit

def isDg (x : UInt8) : Bool := decide (48 ≤ x.toNat ∧ x.toNat ≤ 57)
def vstep (a : Nat) (x : UInt8) : Nat := 10 * a + (x.toNat - 48)
def val (l : List UInt8) : Nat := l.foldl vstep 0
/-- A numeral without a sign. -/
def canon (m : List UInt8) : Prop := m ≠ [] ∧ (∀ x, x ∈ m → isDg x = true) ∧ (m.head? = some 48 → m.length = 1)

theorem isDg_of {d : Nat} (h : d < 10) : isDg (UInt8.ofNat (48 + d)) = true ∧ (UInt8.ofNat (48 + d)).toNat = 48 + d := by
  have : (UInt8.ofNat (48 + d)).toNat = 48 + d := by rw [UInt8.toNat_ofNat']; omega
  exact ⟨by unfold isDg; rw [this]; simp; omega, this⟩
theorem dg_of {x : UInt8} (h : isDg x = true) : UInt8.ofNat (48 + (x.toNat - 48)) = x ∧ x.toNat - 48 < 10 := by
  have := of_decide_eq_true h
  refine ⟨?_, by omega⟩
  apply UInt8.toNat_inj.1
  rw [UInt8.toNat_ofNat']; omega
theorem val_snoc (p : List UInt8) (x : UInt8) : val (p ++ [x]) = vstep (val p) x := by simp [val]

theorem digs_head : ∀ (u : Nat), 0 < u → (Lib.decDigits u).head? ≠ some 48
  | u, h => by
    rw [Lib.decDigits]
    by_cases h1 : u < 10
    · rw [dif_pos h1]
      intro e
      simp only [List.head?_cons, Option.some.injEq] at e
      have := (isDg_of h1).2
      rw [e] at this
      have h2 : (48 : UInt8).toNat = 48 := rfl
      omega
    · rw [dif_neg h1]
      have ih := digs_head (u / 10) (by omega)
      intro e
      rw [List.head?_append] at e
      cases hh : (Lib.decDigits (u / 10)).head? with
      | none =>
        rw [List.head?_eq_none_iff] at hh
        have h3 := Lib.decDigits_length (u / 10)
        have h4 := Lib.nDigits_pos (u / 10)
        rw [hh] at h3
        simp at h3; omega
      | some y =>
        rw [hh] at e
        simp only [Option.some_or, Option.some.injEq] at e
        exact ih (by rw [hh, e])
theorem digs_ne (u : Nat) : Lib.decDigits u ≠ [] := fun e => by
  have h3 := Lib.decDigits_length u
  have h4 := Lib.nDigits_pos u
  rw [e] at h3
  simp at h3; omega
theorem digs_dg : ∀ (u : Nat) (x : UInt8), x ∈ Lib.decDigits u → isDg x = true
  | u, x, h => by
    rw [Lib.decDigits] at h
    by_cases h1 : u < 10
    · rw [dif_pos h1] at h
      simp only [List.mem_cons, List.not_mem_nil, or_false] at h
      subst h; exact (isDg_of h1).1
    · rw [dif_neg h1] at h
      rcases List.mem_append.1 h with h | h
      · exact digs_dg (u / 10) x h
      · simp only [List.mem_cons, List.not_mem_nil, or_false] at h
        subst h; exact (isDg_of (by omega)).1
theorem digs_val (u : Nat) : val (Lib.decDigits u) = u := by
  induction u using Nat.strongRecOn with
  | _ u ih =>
    rw [Lib.decDigits]
    by_cases h1 : u < 10
    · rw [dif_pos h1]
      have h := (isDg_of h1).2
      show vstep 0 (UInt8.ofNat (48 + u)) = u
      unfold vstep; omega
    · rw [dif_neg h1, val_snoc, ih (u / 10) (by omega)]
      have h := (isDg_of (show u % 10 < 10 by omega)).2
      unfold vstep; omega
theorem digs_canon (u : Nat) : canon (Lib.decDigits u) := ⟨digs_ne u, digs_dg u, fun h => by
  rcases Nat.eq_zero_or_pos u with rfl | h0
  · rw [Lib.decDigits, dif_pos (by omega)]; rfl
  · exact absurd h (digs_head u h0)⟩
theorem canon_digs (m : List UInt8) : canon m → Lib.decDigits (val m) = m := by
  induction h : m.length using Nat.strongRecOn generalizing m with
  | _ n ih =>
    intro hc
    obtain ⟨h1, h2, h3⟩ := hc
    rcases List.eq_nil_or_concat m with rfl | ⟨p, x, rfl⟩
    · exact absurd rfl h1
    · rw [List.concat_eq_append] at *
      have hx := h2 x (by simp)
      have ⟨hx1, hx2⟩ := dg_of hx
      by_cases hp : p = []
      · subst hp
        rw [List.nil_append]
        have : val [x] = x.toNat - 48 := by simp [val, vstep]
        rw [this, Lib.decDigits, dif_pos hx2, hx1]
      · have hhd : (p ++ [x]).head? = p.head? := by
          cases p with
          | nil => exact absurd rfl hp
          | cons a b => rfl
        have hnz : p.head? ≠ some 48 := fun e => by
          have := h3 (by rw [hhd]; exact e)
          simp at this; exact hp this
        have hcp : canon p := ⟨hp, fun y hy => h2 y (by simp [hy]), fun e => absurd e hnz⟩
        have hi := ih p.length (by rw [← h]; simp) p rfl hcp
        have hpos : 0 < val p := Nat.pos_of_ne_zero fun e => by
          rw [e, Lib.decDigits, dif_pos (by omega)] at hi
          rw [← hi] at hnz; exact hnz rfl
        rw [val_snoc]
        have hv : ¬ vstep (val p) x < 10 := by unfold vstep; omega
        rw [Lib.decDigits, dif_neg hv]
        have e1 : vstep (val p) x / 10 = val p := by unfold vstep; omega
        have e2 : vstep (val p) x % 10 = x.toNat - 48 := by unfold vstep; omega
        rw [e1, e2, hi, hx1]

/-- The number that a numeral spells. -/
def numeral (l : List UInt8) (v : Int) : Prop := l = Lib.itoa v
theorem itoa_pos (u : Nat) : Lib.itoa (u : Int) = Lib.decDigits u := by unfold Lib.itoa; rw [if_neg (by omega)]; simp
theorem itoa_neg {v : Int} (h : v < 0) : Lib.itoa v = 45 :: Lib.decDigits v.natAbs := by unfold Lib.itoa; rw [if_pos h]
theorem itoa_nn {v : Int} (h : ¬ v < 0) : Lib.itoa v = Lib.decDigits v.natAbs := by unfold Lib.itoa; rw [if_neg h]; congr 1; omega
theorem dg45 : isDg 45 = false := by decide
theorem digs_45 (u : Nat) : (Lib.decDigits u).head? ≠ some 45 := fun e => by
  have := digs_dg u 45 (List.mem_of_mem_head? e)
  rw [dg45] at this; cases this
theorem itoa_trim (v : Int) : Lib.trimPrefix (Lib.itoa v) [45] = Lib.decDigits v.natAbs := by
  unfold Lib.trimPrefix
  by_cases h : v < 0
  · rw [itoa_neg h]; rfl
  · rw [itoa_nn h]
    have : Lib.hasPrefix (Lib.decDigits v.natAbs) [45] = false := by
      have := digs_45 v.natAbs
      cases hd : Lib.decDigits v.natAbs with
      | nil => rfl
      | cons a b =>
        rw [hd] at this
        simp only [List.head?_cons, ne_eq, Option.some.injEq] at this
        simp [Lib.hasPrefix, List.isPrefixOf, this, Ne.symm this]
    rw [this]; rfl
theorem vstep_le (l : List UInt8) : ∀ a, a ≤ l.foldl vstep a := by
  induction l with
  | nil => intro a; exact Nat.le_refl _
  | cons x r ih => intro a; exact Nat.le_trans (by unfold vstep; omega) (ih _)
theorem parse_ok : ∀ (l : List UInt8) (a : Nat), (∀ x, x ∈ l → isDg x = true) → l.foldl vstep a < 1000000000000000000 → Lib.parseUint10 a l = .ok (l.foldl vstep a)
  | [], a, _, _ => rfl
  | x :: r, a, h, hv => by
    have hx := of_decide_eq_true (h x (by simp))
    have h1 := vstep_le r (vstep a x)
    simp only [List.foldl_cons] at hv ⊢
    have h2 : vstep a x = a * 10 + (x.toNat - 48) := by unfold vstep; omega
    unfold Lib.parseUint10
    rw [if_pos hx, if_neg (by omega), if_neg (by omega), ← h2]
    exact parse_ok r _ (fun y hy => h y (by simp [hy])) hv
theorem atoi_itoa {v : Int} (h : v.natAbs < 1000000000000000000) : Lib.atoiAll (Lib.itoa v) = .ok v := by
  have hp : Lib.parseMag (Lib.decDigits v.natAbs) = .ok v.natAbs := by
    unfold Lib.parseMag
    rw [if_neg (digs_ne _)]
    have h1 := digs_val v.natAbs
    unfold val at h1
    have := parse_ok (Lib.decDigits v.natAbs) 0 (digs_dg _) (by omega)
    rw [h1] at this; exact this
  by_cases h0 : v < 0
  · rw [itoa_neg h0, Lib.atoiAll_minus, hp]
    show (if 9223372036854775808 < v.natAbs then Lib.NumEnd.range else .ok (-(v.natAbs : Int))) = .ok v
    rw [if_neg (by omega)]; congr 1; omega
  · rw [itoa_nn h0]
    cases hd : Lib.decDigits v.natAbs with
    | nil => exact absurd hd (digs_ne _)
    | cons c r =>
      have hc := of_decide_eq_true (digs_dg v.natAbs c (by rw [hd]; simp))
      rw [Lib.atoiAll_plain c r (by omega) (by omega), ← hd, hp]
      show (if 9223372036854775808 ≤ v.natAbs then Lib.NumEnd.range else .ok (v.natAbs : Int)) = .ok v
      rw [if_neg (by omega)]; congr 1; omega
end
section
set_option linter.unusedSimpArgs false
set_option linter.unusedVariables false
open Go Go.RowKit

theorem val_le (l : List UInt8) : ∀ a, l.foldl vstep a + 23 ≤ (a + 23) * 10 ^ l.length := by
  induction l with
  | nil => intro a; simp
  | cons x r ih =>
    intro a
    have h1 := ih (vstep a x)
    have h2 : vstep a x + 23 ≤ (a + 23) * 10 := by have := UInt8.toNat_lt x; unfold vstep; omega
    have h3 := Nat.mul_le_mul_right (10 ^ r.length) h2
    simp only [List.foldl_cons, List.length_cons, Nat.pow_succ]
    rw [Nat.mul_assoc, Nat.mul_comm 10] at h3
    omega
theorem val_lt {l : List UInt8} (h : l.length ≤ 7) : val l < 1000000000 := by
  have := val_le l 0
  have h2 : 10 ^ l.length ≤ 10 ^ 7 := Nat.pow_le_pow_right (by omega) h
  unfold val; omega
theorem val_take {l : List UInt8} {i : Nat} (h : i < l.length) : val (l.take (i + 1)) = vstep (val (l.take i)) l[i] := by
  rw [List.take_succ_eq_append_getElem h, val_snoc]
theorem nd_dec (x : UInt8) : (decide ((x.toNat : Int) < 48) || decide (57 < (x.toNat : Int))) = !isDg x := by
  unfold isDg
  by_cases h1 : x.toNat < 48
  · have : ¬ (48 ≤ x.toNat ∧ x.toNat ≤ 57) := by omega
    have h2 : (x.toNat : Int) < 48 := by omega
    simp [this, h2]
  · by_cases h2 : 57 < x.toNat
    · have : ¬ (48 ≤ x.toNat ∧ x.toNat ≤ 57) := by omega
      have h3 : (57 : Int) < x.toNat := by omega
      simp [this, h3]
    · have : (48 ≤ x.toNat ∧ x.toNat ≤ 57) := by omega
      have h3 : ¬ (57 : Int) < x.toNat := by omega
      have h4 : ¬ (x.toNat : Int) < 48 := by omega
      simp [this, h3, h4]
theorem scanF_c {ρ : Type} {b : Nat → Bool} {r : ρ} : ∀ {n i : Nat}, (∃ k, i ≤ k ∧ k < i + n ∧ b k = true) → scanF (fun i => bif b i then some r else none) n i = some r
  | 0, i, ⟨k, h1, h2, _⟩ => by omega
  | n + 1, i, ⟨k, h1, h2, h3⟩ => by
    simp only [scanF]
    cases hb : b i with
    | true => rfl
    | false =>
      simp only [cond_false]
      rcases Nat.eq_or_lt_of_le h1 with rfl | h4
      · rw [hb] at h3; cases h3
      · exact scanF_c ⟨k, by omega, by omega, h3⟩

theorem num_loop {L : List UInt8} {k : Nat} (hk : k ≤ L.length) (hm : (L.drop k).length ≤ 7) (hL : L.length ≤ 1000) :
    oloop (τ := Int × Int) (ρ := (Int) ⊕ (Int × Bool)) (fun e30 =>
     oite ((ilt e30.2 (L.length : Int))) (
      obnd (
       ogrd ((ile 0 e30.2)) (
       obnd (L[e30.2.toNat]?) fun (x39 : UInt8) =>
       oite ((ilt (x39.toNat : Int) (48 : Int))) (
        some true
         ) (
        obnd (L[e30.2.toNat]?) fun (x41 : UInt8) =>
        some (ilt (57 : Int) (x41.toNat : Int))
         )
       )
        ) fun (r34 : Bool) =>
      oite r34 (
       some (.inr (.inr (((0 : Int), false))))
        ) (
       ogrd ((ile 0 e30.2)) (
       obnd (L[e30.2.toNat]?) fun (x45 : UInt8) =>
       some (.inl (((IntKind.i64.wrap ((IntKind.i64.wrap ((10 : Int) * e30.1)) + (IntKind.i64.wrap (IntKind.u8.wrap ((x45.toNat : Int) - (48 : Int)))))), (IntKind.i64.wrap (e30.2 + (1 : Int))))))
       )
        )
       ) (
      some (.inr (.inl e30.1))
       )
      ) ((0 : Int), (k : Int)) = some (if (L.drop k).all isDg = true then .inl ((val (L.drop k) : Nat) : Int) else .inr ((0 : Int), false)) := by
  generalize hM : L.drop k = m at hm
  have hml : m.length + k = L.length := by rw [← hM]; simp; omega
  have hget : ∀ i (h : i < m.length), L[k + i]? = some m[i] := fun i h => by
    have : m[i]? = some m[i] := List.getElem?_eq_getElem h
    rw [← this, ← hM, List.getElem?_drop]
  rw [oloop_scanB (fun i => (((val (m.take i) : Nat) : Int), ((k + i : Nat) : Int))) m.length (fun i => !isDg (m.getD i 0)) (fun _ => .inr ((0 : Int), false)) (d := .inl ((val m : Nat) : Int)) (e0 := ((0 : Int), (k : Int))) rfl ?_ ?_]
  · by_cases h : m.all isDg = true
    · rw [if_pos h, scanF_of_none]
      · rfl
      · intro i _ hi
        rw [List.all_eq_true] at h
        have hi : i < m.length := by omega
        have : m.getD i 0 = m[i] := by simp [List.getD, hi]
        rw [this, h _ (List.getElem_mem hi)]; rfl
    · rw [if_neg h, scanF_c]
      · rfl
      · have : ∃ x, x ∈ m ∧ isDg x = false := by simpa [List.all_eq_true] using h
        obtain ⟨x, hx, hx2⟩ := this
        obtain ⟨i, hi, rfl⟩ := List.getElem_of_mem hx
        refine ⟨i, by omega, by omega, ?_⟩
        have : m.getD i 0 = m[i] := by simp [List.getD, hi]
        rw [this, hx2]; rfl
  · intro i hi
    have hg : m.getD i 0 = m[i] := by simp [List.getD, hi]
    have hlt : ((k + i : Nat) : Int) < (L.length : Int) := by omega
    have hn0 : (0 : Int) ≤ ((k + i : Nat) : Int) := by omega
    rw [hg]
    simp (disch := omega) only [obnd_s, obnd_n, oite_ss, oite_t, oite_f, ogrd_t, ogrd_f, obndS_l, obndS_r, ilt_eq, ile_eq, ieq_eq, imax_e, imin_e, k0, k1, k2, k3, k4, k5, k6, k7, k8, k9, reduceIte, k10, k11, k12, k13, k14, k15, k16, k17, k18, k19, k20, k21, k22, k23, k24, k25, k26, k27, k28, hlt, hn0, hget i hi]
    have hx := nd_dec m[i]
    cases hd : isDg m[i] with
    | false =>
      rw [hd] at hx
      simp only [Bool.not_false, Bool.or_eq_true, decide_eq_true_eq] at hx
      by_cases h1 : (m[i].toNat : Int) < 48
      · simp (disch := omega) only [obnd_s, obnd_n, oite_ss, oite_t, oite_f, ogrd_t, ogrd_f, obndS_l, obndS_r, ilt_eq, ile_eq, ieq_eq, imax_e, imin_e, k0, k1, k2, k3, k4, k5, k6, k7, k8, k9, reduceIte, k10, k11, k12, k13, k14, k15, k16, k17, k18, k19, k20, k21, k22, k23, k24, k25, k26, k27, k28, h1]
      · have h2 : (57 : Int) < m[i].toNat := hx.resolve_left h1
        simp (disch := omega) only [obnd_s, obnd_n, oite_ss, oite_t, oite_f, ogrd_t, ogrd_f, obndS_l, obndS_r, ilt_eq, ile_eq, ieq_eq, imax_e, imin_e, k0, k1, k2, k3, k4, k5, k6, k7, k8, k9, reduceIte, k10, k11, k12, k13, k14, k15, k16, k17, k18, k19, k20, k21, k22, k23, k24, k25, k26, k27, k28, h1, h2]
    | true =>
      rw [hd] at hx
      simp only [Bool.not_true, Bool.or_eq_false_iff, decide_eq_false_iff_not] at hx
      have hv := val_lt (l := m.take i) (by simp; omega)
      have hdd := of_decide_eq_true hd
      simp (disch := omega) only [obnd_s, obnd_n, oite_ss, oite_t, oite_f, ogrd_t, ogrd_f, obndS_l, obndS_r, ilt_eq, ile_eq, ieq_eq, imax_e, imin_e, k0, k1, k2, k3, k4, k5, k6, k7, k8, k9, reduceIte, k10, k11, k12, k13, k14, k15, k16, k17, k18, k19, k20, k21, k22, k23, k24, k25, k26, k27, k28, hx.1, hx.2]
      rw [val_take hi]
      have e1 : IntKind.u8.wrap ((m[i].toNat : Int) - 48) = ((m[i].toNat - 48 : Nat) : Int) := by
        show ((m[i].toNat : Int) - 48) % 256 = _
        omega
      rw [e1]
      simp (disch := omega) only [wr]
      unfold vstep
      congr 3
  · have h1 : ((k + m.length : Nat) : Int) = L.length := by omega
    rw [h1, List.take_length]
    simp (disch := omega) only [obnd_s, obnd_n, oite_ss, oite_t, oite_f, ogrd_t, ogrd_f, obndS_l, obndS_r, ilt_eq, ile_eq, ieq_eq, imax_e, imin_e, k0, k1, k2, k3, k4, k5, k6, k7, k8, k9, reduceIte, k10, k11, k12, k13, k14, k15, k16, k17, k18, k19, k20, k21, k22, k23, k24, k25, k26, k27, k28, Int.lt_irrefl]

/-- What the reference's parsing yields, with a sign. -/
theorem f387_neg {s : ByteArray} {d : Int} {m : List UInt8} (hl : s.data.toList = 45 :: m) (hd : 0 ≤ d ∧ d ≤ 7) (hs : s.size ≤ 999) :
    f387 s d = some (if m ≠ [] ∧ (m.length : Int) ≤ d ∧ m.head? ≠ some 48 ∧ m.all isDg = true then (-((val m : Nat) : Int), true) else (0, false)) := by
  have hsz : (s.size : Int) = ((45 :: m : List UInt8).length : Int) := by rw [← hl, Array.length_toList]; rfl
  have hsn : (45 :: m : List UInt8).length ≤ 999 := by omega
  unfold f387
  rw [hsz, hl]
  have h45 : ((45 : UInt8).toNat : Int) = 45 := rfl
  have hpos : (0 : Int) < ((45 :: m : List UInt8).length : Int) := by rw [List.length_cons]; omega
  have h01 : (0 : Int) ≤ 1 := by omega
  simp (disch := omega) only [obnd_s, obnd_n, oite_ss, oite_t, oite_f, ogrd_t, ogrd_f, obndS_l, obndS_r, ilt_eq, ile_eq, ieq_eq, imax_e, imin_e, k0, k1, k2, k3, k4, k5, k6, k7, k8, k9, reduceIte, k10, k11, k12, k13, k14, k15, k16, k17, k18, k19, k20, k21, k22, k23, k24, k25, k26, k27, k28, hpos, List.getElem?_cons_zero, h45, Int.toNat_zero]
  simp only [List.length_cons] at hsn
  cases m with
  | nil => simp (disch := omega) only [obnd_s, obnd_n, oite_ss, oite_t, oite_f, ogrd_t, ogrd_f, obndS_l, obndS_r, ilt_eq, ile_eq, ieq_eq, imax_e, imin_e, k0, k1, k2, k3, k4, k5, k6, k7, k8, k9, reduceIte, k10, k11, k12, k13, k14, k15, k16, k17, k18, k19, k20, k21, k22, k23, k24, k25, k26, k27, k28, List.length_cons, List.length_nil]; rfl
  | cons x r =>
    simp only [List.length_cons] at hsn
    have h1 : ¬ ((45 :: x :: r : List UInt8).length : Int) = 1 := by simp; omega
    have h2 : IntKind.i64.wrap (((45 :: x :: r : List UInt8).length : Int) - 1) = (((x :: r).length : Nat) : Int) := by simp only [List.length_cons]; rw [wr (by omega) (by omega)]; omega
    have h3 : (1 : Int) < ((45 :: x :: r : List UInt8).length : Int) := by simp; omega
    simp (disch := omega) only [obnd_s, obnd_n, oite_ss, oite_t, oite_f, ogrd_t, ogrd_f, obndS_l, obndS_r, ilt_eq, ile_eq, ieq_eq, imax_e, imin_e, k0, k1, k2, k3, k4, k5, k6, k7, k8, k9, reduceIte, k10, k11, k12, k13, k14, k15, k16, k17, k18, k19, k20, k21, k22, k23, k24, k25, k26, k27, k28, h1, h2, h3]
    by_cases h4 : d < ((x :: r).length : Int)
    · rw [if_neg (fun h => by have := h.2.1; omega)]
      simp (disch := omega) only [obnd_s, obnd_n, oite_ss, oite_t, oite_f, ogrd_t, ogrd_f, obndS_l, obndS_r, ilt_eq, ile_eq, ieq_eq, imax_e, imin_e, k0, k1, k2, k3, k4, k5, k6, k7, k8, k9, reduceIte, k10, k11, k12, k13, k14, k15, k16, k17, k18, k19, k20, k21, k22, k23, k24, k25, k26, k27, k28, h4]
    · have h5 : (1 : Int).toNat = 1 := rfl
      simp (disch := omega) only [obnd_s, obnd_n, oite_ss, oite_t, oite_f, ogrd_t, ogrd_f, obndS_l, obndS_r, ilt_eq, ile_eq, ieq_eq, imax_e, imin_e, k0, k1, k2, k3, k4, k5, k6, k7, k8, k9, reduceIte, k10, k11, k12, k13, k14, k15, k16, k17, k18, k19, k20, k21, k22, k23, k24, k25, k26, k27, k28, h4, h5, List.getElem?_cons_succ, List.getElem?_cons_zero]
      by_cases h6 : (x.toNat : Int) = 48
      · have hx : x = 48 := UInt8.toNat_inj.1 (by have : (48 : UInt8).toNat = 48 := rfl; omega)
        subst hx
        rw [if_neg (fun h => h.2.2.1 rfl)]
        simp (disch := omega) only [obnd_s, obnd_n, oite_ss, oite_t, oite_f, ogrd_t, ogrd_f, obndS_l, obndS_r, ilt_eq, ile_eq, ieq_eq, imax_e, imin_e, k0, k1, k2, k3, k4, k5, k6, k7, k8, k9, reduceIte, k10, k11, k12, k13, k14, k15, k16, k17, k18, k19, k20, k21, k22, k23, k24, k25, k26, k27, k28, h6, h01]
      · have hx : x ≠ 48 := fun e => h6 (by rw [e]; rfl)
        simp (disch := omega) only [obnd_s, obnd_n, oite_ss, oite_t, oite_f, ogrd_t, ogrd_f, obndS_l, obndS_r, ilt_eq, ile_eq, ieq_eq, imax_e, imin_e, k0, k1, k2, k3, k4, k5, k6, k7, k8, k9, reduceIte, k10, k11, k12, k13, k14, k15, k16, k17, k18, k19, k20, k21, k22, k23, k24, k25, k26, k27, k28, h6, h01]
        have hloop := num_loop (L := 45 :: x :: r) (k := 1) (by simp) (by simp at h4 ⊢; omega) (by simp; omega)
        rw [show ((1 : Nat) : Int) = 1 from rfl] at hloop
        simp only [ilt_eq, ile_eq] at hloop
        rw [hloop]
        have hdr : (45 :: x :: r : List UInt8).drop 1 = x :: r := rfl
        rw [hdr]
        by_cases h7 : (x :: r).all isDg = true
        · have hv := val_lt (l := x :: r) (by omega)
          rw [if_pos h7, if_pos ⟨by simp, by omega, by simp [hx], h7⟩]
          simp (disch := omega) only [obnd_s, obnd_n, oite_ss, oite_t, oite_f, ogrd_t, ogrd_f, obndS_l, obndS_r, ilt_eq, ile_eq, ieq_eq, imax_e, imin_e, k0, k1, k2, k3, k4, k5, k6, k7, k8, k9, reduceIte, k10, k11, k12, k13, k14, k15, k16, k17, k18, k19, k20, k21, k22, k23, k24, k25, k26, k27, k28, wr]
          congr 2
          omega
        · rw [if_neg h7, if_neg (fun h => h7 h.2.2.2)]; rfl
/-- Without a sign. -/
theorem f387_pos {s : ByteArray} {d : Int} {m : List UInt8} (hl : s.data.toList = m) (hh : m.head? ≠ some 45) (hd : 0 ≤ d ∧ d ≤ 7) (hs : s.size ≤ 999) :
    f387 s d = some (if m ≠ [] ∧ (m.length : Int) ≤ d ∧ (m.head? = some 48 → m.length = 1) ∧ m.all isDg = true then (((val m : Nat) : Int), true) else (0, false)) := by
  have hsz : (s.size : Int) = (m.length : Int) := by rw [← hl, Array.length_toList]; rfl
  have hsn : m.length ≤ 999 := by omega
  unfold f387
  rw [hsz, hl]
  cases m with
  | nil => simp (disch := omega) only [obnd_s, obnd_n, oite_ss, oite_t, oite_f, ogrd_t, ogrd_f, obndS_l, obndS_r, ilt_eq, ile_eq, ieq_eq, imax_e, imin_e, k0, k1, k2, k3, k4, k5, k6, k7, k8, k9, reduceIte, k10, k11, k12, k13, k14, k15, k16, k17, k18, k19, k20, k21, k22, k23, k24, k25, k26, k27, k28, List.length_nil]; rfl
  | cons x r =>
    have hx : ¬ (x.toNat : Int) = 45 := fun e => hh (by
      have : x = 45 := UInt8.toNat_inj.1 (by have : (45 : UInt8).toNat = 45 := rfl; omega)
      rw [this]; rfl)
    have hpos : (0 : Int) < ((x :: r : List UInt8).length : Int) := by rw [List.length_cons]; omega
    have h00 : (0 : Int) ≤ 0 := by omega
    have n01 : ¬ (0 : Int) = 1 := by omega
    have h1 : ¬ ((x :: r : List UInt8).length : Int) = 0 := by omega
    have h2 : IntKind.i64.wrap (((x :: r : List UInt8).length : Int) - 0) = ((x :: r : List UInt8).length : Int) := by rw [Int.sub_zero]; exact wr (by omega) (by omega)
    simp (disch := omega) only [obnd_s, obnd_n, oite_ss, oite_t, oite_f, ogrd_t, ogrd_f, obndS_l, obndS_r, ilt_eq, ile_eq, ieq_eq, imax_e, imin_e, k0, k1, k2, k3, k4, k5, k6, k7, k8, k9, reduceIte, k10, k11, k12, k13, k14, k15, k16, k17, k18, k19, k20, k21, k22, k23, k24, k25, k26, k27, k28, hpos, List.getElem?_cons_zero, hx, Int.toNat_zero, h1, h2]
    by_cases h4 : d < ((x :: r).length : Int)
    · rw [if_neg (fun h => by have := h.2.1; omega)]
      simp (disch := omega) only [obnd_s, obnd_n, oite_ss, oite_t, oite_f, ogrd_t, ogrd_f, obndS_l, obndS_r, ilt_eq, ile_eq, ieq_eq, imax_e, imin_e, k0, k1, k2, k3, k4, k5, k6, k7, k8, k9, reduceIte, k10, k11, k12, k13, k14, k15, k16, k17, k18, k19, k20, k21, k22, k23, k24, k25, k26, k27, k28, h4]
    · simp (disch := omega) only [obnd_s, obnd_n, oite_ss, oite_t, oite_f, ogrd_t, ogrd_f, obndS_l, obndS_r, ilt_eq, ile_eq, ieq_eq, imax_e, imin_e, k0, k1, k2, k3, k4, k5, k6, k7, k8, k9, reduceIte, k10, k11, k12, k13, k14, k15, k16, k17, k18, k19, k20, k21, k22, k23, k24, k25, k26, k27, k28, h4]
      have key : ∀ b : Bool, b = true ∨ b = false := by intro b; cases b <;> simp
      by_cases h6 : (x.toNat : Int) = 48 ∧ (1 : Int) < ((x :: r).length : Int)
      · have hx : x = 48 := UInt8.toNat_inj.1 (by have : (48 : UInt8).toNat = 48 := rfl; omega)
        rw [if_neg (fun h => by have := h.2.2.1 (by rw [hx]; rfl); omega)]
        simp (disch := omega) only [obnd_s, obnd_n, oite_ss, oite_t, oite_f, ogrd_t, ogrd_f, obndS_l, obndS_r, ilt_eq, ile_eq, ieq_eq, imax_e, imin_e, k0, k1, k2, k3, k4, k5, k6, k7, k8, k9, reduceIte, k10, k11, k12, k13, k14, k15, k16, k17, k18, k19, k20, k21, k22, k23, k24, k25, k26, k27, k28, h6.1, h6.2, h00, n01]
      · have hz : (x :: r).head? = some 48 → (x :: r).length = 1 := fun e => by
          have : x = 48 := by simpa using e
          have : (x.toNat : Int) = 48 := by rw [this]; rfl
          rcases Nat.lt_or_ge 1 (x :: r).length with h | h
          · exact absurd ⟨this, by omega⟩ h6
          · simp only [List.length_cons] at h ⊢; omega
        have hb : (if (x.toNat : Int) = 48 then decide ((1 : Int) < ((x :: r).length : Int)) else false) = false := by
          by_cases h7 : (x.toNat : Int) = 48
          · rw [if_pos h7]; simp only [decide_eq_false_iff_not]; exact fun e => h6 ⟨h7, e⟩
          · rw [if_neg h7]
        have hloop := num_loop (L := x :: r) (k := 0) (by simp) (by simp at h4 ⊢; omega) (by omega)
        rw [show ((0 : Nat) : Int) = 0 from rfl] at hloop
        simp only [ilt_eq, ile_eq] at hloop
        have fin : ∀ q, (if (x :: r).all isDg = true then (Sum.inl ((val (x :: r) : Nat) : Int) : Int ⊕ (Int × Bool)) else .inr ((0 : Int), false)) = q →
            obndS (some q) (fun (r47 : Int) => some (r47, true)) = some (if (x :: r) ≠ [] ∧ ((x :: r).length : Int) ≤ d ∧ ((x :: r).head? = some 48 → (x :: r).length = 1) ∧ (x :: r).all isDg = true then (((val (x :: r) : Nat) : Int), true) else (0, false)) := by
          rintro q rfl
          by_cases h7 : (x :: r).all isDg = true
          · rw [if_pos h7, if_pos ⟨by simp, by omega, hz, h7⟩]; rfl
          · rw [if_neg h7, if_neg (fun h => h7 h.2.2.2)]; rfl
        by_cases h7 : (x.toNat : Int) = 48
        · have h8 : ¬ (1 : Int) < ((x :: r).length : Int) := fun e => h6 ⟨h7, e⟩
          simp (disch := omega) only [obnd_s, obnd_n, oite_ss, oite_t, oite_f, ogrd_t, ogrd_f, obndS_l, obndS_r, ilt_eq, ile_eq, ieq_eq, imax_e, imin_e, k0, k1, k2, k3, k4, k5, k6, k7, k8, k9, reduceIte, k10, k11, k12, k13, k14, k15, k16, k17, k18, k19, k20, k21, k22, k23, k24, k25, k26, k27, k28, h7, h8, h00, n01]
          rw [hloop]
          exact fin _ rfl
        · simp (disch := omega) only [obnd_s, obnd_n, oite_ss, oite_t, oite_f, ogrd_t, ogrd_f, obndS_l, obndS_r, ilt_eq, ile_eq, ieq_eq, imax_e, imin_e, k0, k1, k2, k3, k4, k5, k6, k7, k8, k9, reduceIte, k10, k11, k12, k13, k14, k15, k16, k17, k18, k19, k20, k21, k22, k23, k24, k25, k26, k27, k28, h7, h00, n01]
          rw [hloop]
          exact fin _ rfl
end
section
set_option linter.unusedSimpArgs false
set_option linter.unusedVariables false
open Go Go.RowKit

/-- The string is the numeral of v, with at most d digits. -/
def numOf (s : ByteArray) (d v : Int) : Prop := s.data.toList = Lib.itoa v ∧ ((Lib.decDigits v.natAbs).length : Int) ≤ d

theorem allDg (u : Nat) : (Lib.decDigits u).all isDg = true := List.all_eq_true.2 (digs_dg u)
theorem f387_t {s : ByteArray} {d v : Int} (h : numOf s d v) (hd : 0 ≤ d ∧ d ≤ 7) (hs : s.size ≤ 999) : f387 s d = some (v, true) := by
  obtain ⟨h1, h2⟩ := h
  by_cases h0 : v < 0
  · rw [itoa_neg h0] at h1
    rw [f387_neg h1 hd hs, if_pos ⟨digs_ne _, h2, digs_head _ (by omega), allDg _⟩, digs_val]
    congr 2; omega
  · rw [itoa_nn h0] at h1
    rw [f387_pos h1 (digs_45 _) hd hs, if_pos ⟨digs_ne _, h2, (digs_canon _).2.2, allDg _⟩, digs_val]
    congr 2; omega
theorem f387_f {s : ByteArray} {d : Int} (h : ¬ ∃ v, numOf s d v) (hd : 0 ≤ d ∧ d ≤ 7) (hs : s.size ≤ 999) : f387 s d = some (0, false) := by
  by_cases hh : s.data.toList.head? = some 45
  · obtain ⟨m, hm⟩ : ∃ m, s.data.toList = 45 :: m := by
      cases hl : s.data.toList with
      | nil => rw [hl] at hh; cases hh
      | cons a b => rw [hl] at hh; simp at hh; subst hh; exact ⟨b, rfl⟩
    rw [f387_neg hm hd hs, if_neg]
    rintro ⟨h1, h2, h3, h4⟩
    have hc : canon m := ⟨h1, List.all_eq_true.1 h4, fun e => absurd e h3⟩
    have hm2 := canon_digs m hc
    have hpos : 0 < val m := Nat.pos_of_ne_zero fun e => by
      rw [e, Lib.decDigits, dif_pos (by omega)] at hm2
      rw [← hm2] at h3; exact h3 rfl
    refine h ⟨-((val m : Nat) : Int), ?_, ?_⟩
    · rw [itoa_neg (by omega), hm, show (-((val m : Nat) : Int)).natAbs = val m by omega, hm2]
    · rw [show (-((val m : Nat) : Int)).natAbs = val m by omega, hm2]; exact h2
  · rw [f387_pos rfl hh hd hs, if_neg]
    rintro ⟨h1, h2, h3, h4⟩
    have hc : canon s.data.toList := ⟨h1, List.all_eq_true.1 h4, h3⟩
    have hm2 := canon_digs _ hc
    refine h ⟨((val s.data.toList : Nat) : Int), ?_, ?_⟩
    · rw [itoa_pos, hm2]
    · rw [show (((val s.data.toList : Nat) : Int)).natAbs = val s.data.toList by omega, hm2]; exact h2
theorem natAbs_lt {v : Int} (h : (Lib.decDigits v.natAbs).length ≤ 7) : v.natAbs < 10000000 := by
  rw [Lib.decDigits_length] at h
  have h1 := Lib.lt_pow_nDigits v.natAbs
  have h2 : 10 ^ Lib.nDigits v.natAbs ≤ 10 ^ 7 := Nat.pow_le_pow_right (by omega) h
  omega
theorem num_t {s : ByteArray} {d v : Int} {b : Bool} (h : numOf s d v) (hd : d ≤ 7) (hb : b = true ∨ 0 ≤ v) : numB s d b = true ∧ numV s = v := by
  obtain ⟨h1, h2⟩ := h
  have ha := atoi_itoa (v := v) (by have := natAbs_lt (v := v) (by omega); omega)
  unfold numB numV
  rw [Lib.toList_data, h1, ha, itoa_trim]
  refine ⟨?_, rfl⟩
  have h3 : (b || decide (0 ≤ v)) = true := by rcases hb with h | h <;> simp [h]
  simp [h3, h2]
theorem num_f {s : ByteArray} {d : Int} {b : Bool} (h : ¬ ∃ v, numOf s d v ∧ (b = true ∨ 0 ≤ v)) : numB s d b = false := by
  unfold numB
  cases ha : Lib.atoiAll s.data.toList
  · rename_i v
    simp only
    rw [Bool.eq_false_iff]
    intro e
    simp only [Bool.and_eq_true, Bool.or_eq_true, decide_eq_true_eq] at e
    obtain ⟨⟨e1, e2⟩, e3⟩ := e
    rw [Lib.toList_data] at e1
    rw [← e1, itoa_trim] at e3
    exact h ⟨v, ⟨e1.symm, e3⟩, e2⟩
  · rfl
  · rfl
theorem f383_t {s : ByteArray} {d v : Int} {b : Bool} (h : numOf s d v) (hd : d ≤ 7) (hb : b = true ∨ 0 ≤ v) (hs : s.size ≤ 999) : f383 s d b = some (v, true) := by
  unfold f383
  obtain ⟨h1, h2⟩ := num_t h hd hb
  rw [decide_eq_true (by omega), ogrd_t, h1, h2]
theorem f383_f {s : ByteArray} {d : Int} {b : Bool} (h : ¬ ∃ v, numOf s d v ∧ (b = true ∨ 0 ≤ v)) (hs : s.size ≤ 999) : f383 s d b = some (numV s, false) := by
  unfold f383
  rw [decide_eq_true (by omega), ogrd_t, num_f h]

/-! ### No blank in a numeral -/
theorem itoa_no (v : Int) (c : UInt8) (hc : isDg c = false) (h45 : c ≠ 45) : c ∉ Lib.itoa v := by
  intro h
  have hd : c ∉ Lib.decDigits v.natAbs := fun h => by rw [digs_dg _ _ h] at hc; cases hc
  by_cases h0 : v < 0
  · rw [itoa_neg h0] at h
    rcases List.mem_cons.1 h with h | h
    · exact h45 h
    · exact hd h
  · rw [itoa_nn h0] at h; exact hd h
theorem spl_no {c : UInt8} : ∀ {p : List UInt8}, c ∉ p → spl c p = [p]
  | [], _ => rfl
  | x :: r, h => by
    simp only [List.mem_cons, not_or] at h
    simp only [spl, if_neg (Ne.symm h.1), spl_no h.2, glue]
    rfl
theorem spl_app {c : UInt8} {r : List UInt8} : ∀ {p : List UInt8}, c ∉ p → spl c (p ++ c :: r) = p :: spl c r
  | [], _ => by simp [spl]
  | x :: p, h => by
    simp only [List.mem_cons, not_or] at h
    simp only [List.cons_append, spl, if_neg (Ne.symm h.1), spl_app h.2, glue]
    rfl
theorem spl_size {c : UInt8} {l : List UInt8} {n : Nat} (h : l.length ≤ n) : ∀ p, p ∈ (spl c l).map mkB → p.size ≤ n := by
  intro p hp
  obtain ⟨q, hq, rfl⟩ := List.mem_map.1 hp
  have key : ∀ (l : List UInt8) (q : List UInt8), q ∈ spl c l → q.length ≤ l.length := by
    intro l
    induction l with
    | nil => intro q hq; simp [spl] at hq; subst hq; simp
    | cons x r ih =>
      intro q hq
      simp only [spl] at hq
      split at hq
      · rcases List.mem_cons.1 hq with rfl | hq
        · simp
        · have := ih q hq; simp; omega
      · cases hs : spl c r with
        | nil => exact absurd hs (spl_ne _ _)
        | cons a b =>
          rw [hs] at hq ih
          simp only [glue, List.mem_cons] at hq
          rcases hq with rfl | hq
          · have := ih a (by simp); simp; omega
          · have := ih q (by simp [hq]); simp; omega
  have := key l q hq
  show q.toArray.size ≤ n
  simp; omega
end
section
set_option linter.unusedSimpArgs false
set_option linter.unusedVariables false
open Go Go.RowKit

abbrev Rd := Int × Int × Int
def rdB (x : Rd) : Bool := decide (0 ≤ x.1) && decide (x.1 ≤ 36000) && (decide (-50 ≤ x.2.1) && decide (x.2.1 ≤ 50)) && (decide (-2000 ≤ x.2.2) && decide (x.2.2 ≤ 2000))
def rdE (x : Rd) : Int := bif rdB x then 0 else 2
theorem f64_e (b : Bool) (e : Int) : f64 b e = some (if b = true then 0 else e) := by unfold f64; cases b <;> rfl
theorem f65_e (n lo hi : Int) : f65 n lo hi = some (decide (lo ≤ n) && decide (n ≤ hi)) := by unfold f65; simp (disch := omega) only [obnd_s, obnd_n, oite_ss, oite_t, oite_f, ogrd_t, ogrd_f, obndS_l, obndS_r, ilt_eq, ile_eq, ieq_eq, imax_e, imin_e, k0, k1, k2, k3, k4, k5, k6, k7, k8, k9, reduceIte, k10, k11, k12, k13, k14, k15, k16, k17, k18, k19, k20, k21, k22, k23, k24, k25, k26, k27, k28]
theorem f15_e (n lo hi : Int) : f15 n lo hi = some (decide (lo ≤ n) && decide (n ≤ hi)) := by unfold f15; simp (disch := omega) only [obnd_s, obnd_n, oite_ss, oite_t, oite_f, ogrd_t, ogrd_f, obndS_l, obndS_r, ilt_eq, ile_eq, ieq_eq, imax_e, imin_e, k0, k1, k2, k3, k4, k5, k6, k7, k8, k9, reduceIte, k10, k11, k12, k13, k14, k15, k16, k17, k18, k19, k20, k21, k22, k23, k24, k25, k26, k27, k28]
theorem f78_e {n m : Int} (hm : 0 ≤ m ∧ m ≤ 1000000000000000) : f78 n m = some (decide (-m ≤ n) && decide (n ≤ m)) := by
  unfold f78
  rw [show IntKind.i64.wrap (0 - m) = -m by rw [wr (by omega) (by omega)]; omega]
  simp (disch := omega) only [obnd_s, obnd_n, oite_ss, oite_t, oite_f, ogrd_t, ogrd_f, obndS_l, obndS_r, ilt_eq, ile_eq, ieq_eq, imax_e, imin_e, k0, k1, k2, k3, k4, k5, k6, k7, k8, k9, reduceIte, k10, k11, k12, k13, k14, k15, k16, k17, k18, k19, k20, k21, k22, k23, k24, k25, k26, k27, k28, f65_e]
theorem f33_e (x : Rd) : f33 x.1 x.2.1 x.2.2 = some (rdE x) := by
  unfold f33 rdE rdB
  simp (disch := omega) only [obnd_s, obnd_n, oite_ss, oite_t, oite_f, ogrd_t, ogrd_f, obndS_l, obndS_r, ilt_eq, ile_eq, ieq_eq, imax_e, imin_e, k0, k1, k2, k3, k4, k5, k6, k7, k8, k9, reduceIte, k10, k11, k12, k13, k14, k15, k16, k17, k18, k19, k20, k21, k22, k23, k24, k25, k26, k27, k28, f65_e, f78_e (n := x.2.1) (m := 50) (by omega), f78_e (n := x.2.2) (m := 2000) (by omega), f64_e]
  cases (decide (0 ≤ x.1) && decide (x.1 ≤ 36000) && (decide (-50 ≤ x.2.1) && decide (x.2.1 ≤ 50)) && (decide (-2000 ≤ x.2.2) && decide (x.2.2 ≤ 2000))) <;> rfl
theorem f32_e (x : Rd) : f32 x.1 x.2.1 x.2.2 = some (rdE x) := by
  unfold f32 rdE rdB
  simp (disch := omega) only [obnd_s, obnd_n, oite_ss, oite_t, oite_f, ogrd_t, ogrd_f, obndS_l, obndS_r, ilt_eq, ile_eq, ieq_eq, imax_e, imin_e, k0, k1, k2, k3, k4, k5, k6, k7, k8, k9, reduceIte, k10, k11, k12, k13, k14, k15, k16, k17, k18, k19, k20, k21, k22, k23, k24, k25, k26, k27, k28, f15_e]
  cases (decide (0 ≤ x.1) && decide (x.1 ≤ 36000)) <;> cases (decide (-50 ≤ x.2.1) && decide (x.2.1 ≤ 50)) <;> cases (decide (-2000 ≤ x.2.2) && decide (x.2.2 ≤ 2000)) <;> rfl

/-- What a parsed reading is. -/
def outR (x : Rd) : Int × Int × Int × Int := bif rdB x then (x.1, x.2.1, x.2.2, 0) else (0, 0, 0, 2)
theorem out_e (x : Rd) : (obnd (some (rdE x)) fun (y21 : Int) => some (bif decide (y21 = 0) then (x.1, x.2.1, x.2.2, (0 : Int)) else ((0 : Int), (0 : Int), (0 : Int), y21))) = some (outR x) := by
  unfold rdE outR
  cases rdB x <;> rfl
/-- Both parsings of a reading. -/
theorem parse_same {s : ByteArray} (hs : s.size ≤ 60) : ∃ x, f373 s = some x ∧ f375 s = some x := by
  have hl : s.data.toList.length = s.size := by rw [Array.length_toList]; rfl
  have hsz := spl_size (c := 32) (l := s.data.toList) (n := 60) (by omega)
  unfold f373 f375
  rw [f382_e (c := 32) (by omega), f386_e (c := 32) (k := 32) rfl (by omega)]
  generalize (spl 32 s.data.toList).map mkB = W at hsz
  by_cases h3 : (W.length : Int) = 3
  · match W, h3 with
    | [p, q, r], _ =>
      have hp := hsz p (by simp)
      have hq := hsz q (by simp)
      have hr := hsz r (by simp)
      have e3 : (([p, q, r] : List ByteArray).length : Int) = 3 := rfl
      have z0 : (0 : Int).toNat = 0 := rfl
      have z1 : (1 : Int).toNat = 1 := rfl
      have z2 : (2 : Int).toNat = 2 := rfl
      have g0 : [p, q, r][0]? = some p := rfl
      have g1 : [p, q, r][1]? = some q := rfl
      have g2 : [p, q, r][2]? = some r := rfl
      by_cases a1 : ∃ v, numOf p 5 v
      · obtain ⟨v, hv⟩ := a1
        have b1 := f387_t hv (by omega) (by omega)
        by_cases v0 : v < 0
        · have c1 := f383_f (s := p) (d := 5) (b := false) (by
            rintro ⟨v', hv', h⟩
            have : v' = v := by
              have h1 := num_t hv' (b := true) (by omega) (.inl rfl)
              have h2 := num_t hv (b := true) (by omega) (.inl rfl)
              rw [← h1.2, h2.2]
            rcases h with h | h
            · cases h
            · omega) (by omega)
          have hd : p.data.toList[0]? = some 45 := by rw [hv.1, itoa_neg v0]; rfl
          have h45 : ((45 : UInt8).toNat : Int) = 45 := rfl
          refine ⟨(0, 0, 0, 7), ?_, ?_⟩
          · simp (disch := omega) only [obnd_s, obnd_n, oite_ss, oite_t, oite_f, ogrd_t, ogrd_f, obndS_l, obndS_r, ilt_eq, ile_eq, ieq_eq, imax_e, imin_e, k0, k1, k2, k3, k4, k5, k6, k7, k8, k9, reduceIte, k10, k11, k12, k13, k14, k15, k16, k17, k18, k19, k20, k21, k22, k23, k24, k25, k26, k27, k28, e3, z0, z1, z2, g0, g1, g2, c1]
          · simp (disch := omega) only [obnd_s, obnd_n, oite_ss, oite_t, oite_f, ogrd_t, ogrd_f, obndS_l, obndS_r, ilt_eq, ile_eq, ieq_eq, imax_e, imin_e, k0, k1, k2, k3, k4, k5, k6, k7, k8, k9, reduceIte, k10, k11, k12, k13, k14, k15, k16, k17, k18, k19, k20, k21, k22, k23, k24, k25, k26, k27, k28, e3, z0, z1, z2, g0, g1, g2, b1, hd, h45]
        · have c1 := f383_t (b := false) hv (by omega) (.inr (by omega)) (by omega)
          obtain ⟨d0, hd, hd2⟩ : ∃ d0, p.data.toList[0]? = some d0 ∧ ¬ (d0.toNat : Int) = 45 := by
            rw [hv.1, itoa_nn v0]
            cases hdd : Lib.decDigits v.natAbs with
            | nil => exact absurd hdd (digs_ne _)
            | cons c t =>
              have := of_decide_eq_true (digs_dg v.natAbs c (by rw [hdd]; simp))
              exact ⟨c, rfl, by omega⟩
          by_cases a2 : ∃ v, numOf q 5 v
          · obtain ⟨v2, hv2⟩ := a2
            have b2 := f387_t hv2 (by omega) (by omega)
            have c2 := f383_t (b := true) hv2 (by omega) (.inl rfl) (by omega)
            by_cases a3 : ∃ v, numOf r 5 v
            · obtain ⟨v3, hv3⟩ := a3
              have b3 := f387_t hv3 (by omega) (by omega)
              have c3 := f383_t (b := true) hv3 (by omega) (.inl rfl) (by omega)
              refine ⟨outR (v, v2, v3), ?_, ?_⟩
              · simp (disch := omega) only [obnd_s, obnd_n, oite_ss, oite_t, oite_f, ogrd_t, ogrd_f, obndS_l, obndS_r, ilt_eq, ile_eq, ieq_eq, imax_e, imin_e, k0, k1, k2, k3, k4, k5, k6, k7, k8, k9, reduceIte, k10, k11, k12, k13, k14, k15, k16, k17, k18, k19, k20, k21, k22, k23, k24, k25, k26, k27, k28, e3, z0, z1, z2, g0, g1, g2, c1, c2, c3]
                have := out_e (v, v2, v3)
                rw [f33_e (v, v2, v3)]
                simpa using this
              · simp (disch := omega) only [obnd_s, obnd_n, oite_ss, oite_t, oite_f, ogrd_t, ogrd_f, obndS_l, obndS_r, ilt_eq, ile_eq, ieq_eq, imax_e, imin_e, k0, k1, k2, k3, k4, k5, k6, k7, k8, k9, reduceIte, k10, k11, k12, k13, k14, k15, k16, k17, k18, k19, k20, k21, k22, k23, k24, k25, k26, k27, k28, e3, z0, z1, z2, g0, g1, g2, b1, b2, b3, hd, hd2]
                have := out_e (v, v2, v3)
                rw [f32_e (v, v2, v3)]
                simpa using this
            · have b3 := f387_f a3 (by omega) (by omega)
              have c3 := f383_f (s := r) (d := 5) (b := true) (fun ⟨v, hv, _⟩ => a3 ⟨v, hv⟩) (by omega)
              refine ⟨(0, 0, 0, 7), ?_, ?_⟩
              · simp (disch := omega) only [obnd_s, obnd_n, oite_ss, oite_t, oite_f, ogrd_t, ogrd_f, obndS_l, obndS_r, ilt_eq, ile_eq, ieq_eq, imax_e, imin_e, k0, k1, k2, k3, k4, k5, k6, k7, k8, k9, reduceIte, k10, k11, k12, k13, k14, k15, k16, k17, k18, k19, k20, k21, k22, k23, k24, k25, k26, k27, k28, e3, z0, z1, z2, g0, g1, g2, c1, c2, c3]
              · simp (disch := omega) only [obnd_s, obnd_n, oite_ss, oite_t, oite_f, ogrd_t, ogrd_f, obndS_l, obndS_r, ilt_eq, ile_eq, ieq_eq, imax_e, imin_e, k0, k1, k2, k3, k4, k5, k6, k7, k8, k9, reduceIte, k10, k11, k12, k13, k14, k15, k16, k17, k18, k19, k20, k21, k22, k23, k24, k25, k26, k27, k28, e3, z0, z1, z2, g0, g1, g2, b1, b2, b3, hd, hd2]
          · have b2 := f387_f a2 (by omega) (by omega)
            have c2 := f383_f (s := q) (d := 5) (b := true) (fun ⟨v, hv, _⟩ => a2 ⟨v, hv⟩) (by omega)
            refine ⟨(0, 0, 0, 7), ?_, ?_⟩
            · simp (disch := omega) only [obnd_s, obnd_n, oite_ss, oite_t, oite_f, ogrd_t, ogrd_f, obndS_l, obndS_r, ilt_eq, ile_eq, ieq_eq, imax_e, imin_e, k0, k1, k2, k3, k4, k5, k6, k7, k8, k9, reduceIte, k10, k11, k12, k13, k14, k15, k16, k17, k18, k19, k20, k21, k22, k23, k24, k25, k26, k27, k28, e3, z0, z1, z2, g0, g1, g2, c1, c2]
            · simp (disch := omega) only [obnd_s, obnd_n, oite_ss, oite_t, oite_f, ogrd_t, ogrd_f, obndS_l, obndS_r, ilt_eq, ile_eq, ieq_eq, imax_e, imin_e, k0, k1, k2, k3, k4, k5, k6, k7, k8, k9, reduceIte, k10, k11, k12, k13, k14, k15, k16, k17, k18, k19, k20, k21, k22, k23, k24, k25, k26, k27, k28, e3, z0, z1, z2, g0, g1, g2, b1, b2, hd, hd2]
      · have b1 := f387_f a1 (by omega) (by omega)
        have c1 := f383_f (s := p) (d := 5) (b := false) (fun ⟨v, hv, _⟩ => a1 ⟨v, hv⟩) (by omega)
        refine ⟨(0, 0, 0, 7), ?_, ?_⟩
        · simp (disch := omega) only [obnd_s, obnd_n, oite_ss, oite_t, oite_f, ogrd_t, ogrd_f, obndS_l, obndS_r, ilt_eq, ile_eq, ieq_eq, imax_e, imin_e, k0, k1, k2, k3, k4, k5, k6, k7, k8, k9, reduceIte, k10, k11, k12, k13, k14, k15, k16, k17, k18, k19, k20, k21, k22, k23, k24, k25, k26, k27, k28, e3, z0, z1, z2, g0, g1, g2, c1]
        · simp (disch := omega) only [obnd_s, obnd_n, oite_ss, oite_t, oite_f, ogrd_t, ogrd_f, obndS_l, obndS_r, ilt_eq, ile_eq, ieq_eq, imax_e, imin_e, k0, k1, k2, k3, k4, k5, k6, k7, k8, k9, reduceIte, k10, k11, k12, k13, k14, k15, k16, k17, k18, k19, k20, k21, k22, k23, k24, k25, k26, k27, k28, e3, z0, z1, z2, g0, g1, g2, b1]
  · refine ⟨(0, 0, 0, 7), ?_, ?_⟩
    · simp (disch := omega) only [obnd_s, obnd_n, oite_ss, oite_t, oite_f, ogrd_t, ogrd_f, obndS_l, obndS_r, ilt_eq, ile_eq, ieq_eq, imax_e, imin_e, k0, k1, k2, k3, k4, k5, k6, k7, k8, k9, reduceIte, k10, k11, k12, k13, k14, k15, k16, k17, k18, k19, k20, k21, k22, k23, k24, k25, k26, k27, k28, h3]
    · simp (disch := omega) only [obnd_s, obnd_n, oite_ss, oite_t, oite_f, ogrd_t, ogrd_f, obndS_l, obndS_r, ilt_eq, ile_eq, ieq_eq, imax_e, imin_e, k0, k1, k2, k3, k4, k5, k6, k7, k8, k9, reduceIte, k10, k11, k12, k13, k14, k15, k16, k17, k18, k19, k20, k21, k22, k23, k24, k25, k26, k27, k28, h3]

/-! ### The string of a reading -/
def fmtL (a b c : Int) : List UInt8 := Lib.itoa a ++ 32 :: (Lib.itoa b ++ 32 :: Lib.itoa c)
theorem itoa_len {n : Int} (h : -9223372036854775808 ≤ n ∧ n ≤ 9223372036854775807) : (Lib.itoa n).length ≤ 21 := by
  by_cases h0 : n < 0
  · rw [itoa_neg h0, List.length_cons]; have := digs_le (m := n.natAbs) (by omega); omega
  · rw [itoa_nn h0]; have := digs_le (m := n.natAbs) (by omega); omega
theorem in64_t {n : Int} (h : -9223372036854775808 ≤ n ∧ n ≤ 9223372036854775807) : in64 n = true := decide_eq_true h
theorem f384_e {l : List ByteArray} {sep : ByteArray} {r : List UInt8} (h : Lib.join (l.map (·.data.toList)) sep.data.toList = r) (hl : l.length ≤ 1000) (hr : r.length ≤ 100000) : f384 l sep = some ⟨r.toArray⟩ := by
  subst h
  unfold f384
  rw [decide_eq_true ⟨by omega, by omega⟩]; rfl
theorem f374_e {a b c : Int} (ha : -9223372036854775808 ≤ a ∧ a ≤ 9223372036854775807) (hb : -9223372036854775808 ≤ b ∧ b ≤ 9223372036854775807) (hc : -9223372036854775808 ≤ c ∧ c ≤ 9223372036854775807) : f374 a b c = some (mkB (fmtL a b c)) := by
  have h1 := itoa_len ha
  have h2 := itoa_len hb
  have h3 := itoa_len hc
  have hj : Lib.join [Lib.itoa a, Lib.itoa b, Lib.itoa c] [32] = fmtL a b c := by
    unfold fmtL
    rw [Lib.join_cons]; simp [Lib.joinTail]
  have hlen : (fmtL a b c).length ≤ 100 := by unfold fmtL; simp; omega
  unfold f374 f385
  rw [in64_t ha, in64_t hb, in64_t hc]
  simp only [ogrd_t, obnd_s]
  rw [f384_e (l := [⟨(Lib.itoa a).toArray⟩, ⟨(Lib.itoa b).toArray⟩, ⟨(Lib.itoa c).toArray⟩]) (sep := ⟨#[32]⟩) (r := fmtL a b c) hj (by simp) (by omega)]
  rfl
theorem mk_app (a b : List UInt8) : (⟨a.toArray⟩ : ByteArray) ++ ⟨b.toArray⟩ = ⟨(a ++ b).toArray⟩ := by rw [ByteArray.mk_append_mk]
theorem f376_e {a b c : Int} (ha : -9223372036854775808 ≤ a ∧ a ≤ 9223372036854775807) (hb : -9223372036854775808 ≤ b ∧ b ≤ 9223372036854775807) (hc : -9223372036854775808 ≤ c ∧ c ≤ 9223372036854775807) : f376 a b c = some (mkB (fmtL a b c)) := by
  have h1 := itoa_len ha
  have h2 := itoa_len hb
  have h3 := itoa_len hc
  have hs : ∀ l : List UInt8, (⟨l.toArray⟩ : ByteArray).size = l.length := fun l => by show l.toArray.size = _; simp
  have e0 : (⟨#[32]⟩ : ByteArray) = ⟨([32] : List UInt8).toArray⟩ := rfl
  have hble : ∀ n m : Nat, n ≤ m → Nat.ble n m = true := fun n m h => by rw [Nat.ble_eq]; exact h
  unfold f376 f388
  rw [in64_t ha, in64_t hb, in64_t hc, e0]
  simp only [ogrd_t, obnd_s, mk_app, hs]
  rw [hble _ _ (by simp; omega), hble _ _ (by simp; omega), hble _ _ (by simp; omega), hble _ _ (by simp; omega)]
  simp only [ogrd_t, mkB, fmtL]
  simp
theorem bnd_digs {v : Int} (h : v.natAbs < 100000) : ((Lib.decDigits v.natAbs).length : Int) ≤ 5 := by
  rw [Lib.decDigits_length]
  have := ndig_le 4 v.natAbs (by omega)
  omega
theorem f373_back {a b c : Int} (h : rdB (a, b, c) = true) : f373 (mkB (fmtL a b c)) = some (a, b, c, 0) := by
  have hb := h
  unfold rdB at hb
  simp only [Bool.and_eq_true, decide_eq_true_eq] at hb
  obtain ⟨⟨⟨a0, a1⟩, b0, b1⟩, c0, c1⟩ := hb
  have h1 := itoa_len (n := a) (by omega)
  have h2 := itoa_len (n := b) (by omega)
  have h3 := itoa_len (n := c) (by omega)
  have no : ∀ v, (32 : UInt8) ∉ Lib.itoa v := fun v => itoa_no v 32 (by decide) (by decide)
  have hsp : spl 32 (fmtL a b c) = [Lib.itoa a, Lib.itoa b, Lib.itoa c] := by
    unfold fmtL
    rw [spl_app (no a), spl_app (no b), spl_no (no c)]
  have hs : ∀ l : List UInt8, (mkB l).size = l.length := fun l => by show l.toArray.size = _; simp
  unfold f373
  rw [f382_e (c := 32) (by rw [hs]; unfold fmtL; simp; omega)]
  rw [show (mkB (fmtL a b c)).data.toList = fmtL a b c from rfl, hsp]
  have e3 : (([mkB (Lib.itoa a), mkB (Lib.itoa b), mkB (Lib.itoa c)] : List ByteArray).length : Int) = 3 := rfl
  have n1 : numOf (mkB (Lib.itoa a)) 5 a := ⟨rfl, bnd_digs (by omega)⟩
  have n2 : numOf (mkB (Lib.itoa b)) 5 b := ⟨rfl, bnd_digs (by omega)⟩
  have n3 : numOf (mkB (Lib.itoa c)) 5 c := ⟨rfl, bnd_digs (by omega)⟩
  have c1 := f383_t (b := false) n1 (by omega) (.inr a0) (by rw [hs]; omega)
  have c2 := f383_t (b := true) n2 (by omega) (.inl rfl) (by rw [hs]; omega)
  have c3 := f383_t (b := true) n3 (by omega) (.inl rfl) (by rw [hs]; omega)
  have g0 : [mkB (Lib.itoa a), mkB (Lib.itoa b), mkB (Lib.itoa c)][0]? = some (mkB (Lib.itoa a)) := rfl
  have g1 : [mkB (Lib.itoa a), mkB (Lib.itoa b), mkB (Lib.itoa c)][1]? = some (mkB (Lib.itoa b)) := rfl
  have g2 : [mkB (Lib.itoa a), mkB (Lib.itoa b), mkB (Lib.itoa c)][2]? = some (mkB (Lib.itoa c)) := rfl
  have z0 : (0 : Int).toNat = 0 := rfl
  have z1 : (1 : Int).toNat = 1 := rfl
  have z2 : (2 : Int).toNat = 2 := rfl
  simp only [List.map_cons, List.map_nil]
  simp (disch := omega) only [obnd_s, obnd_n, oite_ss, oite_t, oite_f, ogrd_t, ogrd_f, obndS_l, obndS_r, ilt_eq, ile_eq, ieq_eq, imax_e, imin_e, k0, k1, k2, k3, k4, k5, k6, k7, k8, k9, reduceIte, k10, k11, k12, k13, k14, k15, k16, k17, k18, k19, k20, k21, k22, k23, k24, k25, k26, k27, k28, e3, z0, z1, z2, g0, g1, g2, c1, c2, c3]
  have := out_e (a, b, c)
  rw [f33_e (a, b, c)]
  unfold outR at this
  rw [h] at this
  simpa using this

theorem law371 {a b c : Int} {s : ByteArray} (ha : -9223372036854775808 ≤ a ∧ a ≤ 9223372036854775807) (hb : -9223372036854775808 ≤ b ∧ b ≤ 9223372036854775807) (hc : -9223372036854775808 ≤ c ∧ c ≤ 9223372036854775807) : f371 a b c s = some true := by
  unfold f371 f10
  by_cases h0 : (60 : Int) < s.size
  · simp (disch := omega) only [obnd_s, obnd_n, oite_ss, oite_t, oite_f, ogrd_t, ogrd_f, obndS_l, obndS_r, ilt_eq, ile_eq, ieq_eq, imax_e, imin_e, k0, k1, k2, k3, k4, k5, k6, k7, k8, k9, reduceIte, k10, k11, k12, k13, k14, k15, k16, k17, k18, k19, k20, k21, k22, k23, k24, k25, k26, k27, k28, h0]
  · obtain ⟨x, hx1, hx2⟩ := parse_same (s := s) (by omega)
    simp (disch := omega) only [obnd_s, obnd_n, oite_ss, oite_t, oite_f, ogrd_t, ogrd_f, obndS_l, obndS_r, ilt_eq, ile_eq, ieq_eq, imax_e, imin_e, k0, k1, k2, k3, k4, k5, k6, k7, k8, k9, reduceIte, k10, k11, k12, k13, k14, k15, k16, k17, k18, k19, k20, k21, k22, k23, k24, k25, k26, k27, k28, h0, f374_e ha hb hc, f376_e ha hb hc, hx1, hx2]
    rw [f32_e (a, b, c)]
    simp only [beq_self_eq_true, Bool.not_true, decide_true, Bool.false_eq_true]
    simp (disch := omega) only [obnd_s, obnd_n, oite_ss, oite_t, oite_f, ogrd_t, ogrd_f, obndS_l, obndS_r, ilt_eq, ile_eq, ieq_eq, imax_e, imin_e, k0, k1, k2, k3, k4, k5, k6, k7, k8, k9, reduceIte, k10, k11, k12, k13, k14, k15, k16, k17, k18, k19, k20, k21, k22, k23, k24, k25, k26, k27, k28]
    by_cases hr : rdB (a, b, c) = true
    · have e1 : rdE (a, b, c) = 0 := by unfold rdE; rw [hr]; rfl
      rw [f373_back hr]
      simp (disch := omega) only [obnd_s, obnd_n, oite_ss, oite_t, oite_f, ogrd_t, ogrd_f, obndS_l, obndS_r, ilt_eq, ile_eq, ieq_eq, imax_e, imin_e, k0, k1, k2, k3, k4, k5, k6, k7, k8, k9, reduceIte, k10, k11, k12, k13, k14, k15, k16, k17, k18, k19, k20, k21, k22, k23, k24, k25, k26, k27, k28, e1]
    · have e1 : ¬ rdE (a, b, c) = 0 := by unfold rdE; simp [hr]
      simp (disch := omega) only [obnd_s, obnd_n, oite_ss, oite_t, oite_f, ogrd_t, ogrd_f, obndS_l, obndS_r, ilt_eq, ile_eq, ieq_eq, imax_e, imin_e, k0, k1, k2, k3, k4, k5, k6, k7, k8, k9, reduceIte, k10, k11, k12, k13, k14, k15, k16, k17, k18, k19, k20, k21, k22, k23, k24, k25, k26, k27, k28, e1]
end
end Go.Proofs.YtacgibkgojnfeaaGreatDoor.AM
