/- Plain law: TopDispatchBounded, from chapter 8's examples (f470). Conditions: none. -/
import Derived.Test.YtolapannkcdeeaaGreatDoorAmLf
import Derived.Test.YtolapannkcdeeaaGreatDoorAmP0
import Derived.Lib.SplitLaws
import Derived.Lib.AtoiAllCases
import Derived.Test.YtolapannkcdeeaaGreatDoorAmExt
import Derived.Test.YtolapannkcdeeaaGreatDoorAmB2
import Derived.Test.YtolapannkcdeeaaGreatDoorAmDec
namespace Go.Proofs.YtolapannkcdeeaaGreatDoor.AM
section
set_option linter.unusedSimpArgs false
set_option linter.unusedVariables false
open Go Go.RowKit
def glue (p : List UInt8) : List (List UInt8) → List (List UInt8)
 | [] => [p]
 | h :: t => (p ++ h) :: t
def spl (c : UInt8) : List UInt8 → List (List UInt8)
 | [] => [[]]
 | x :: r => if x = c then [] :: spl c r else glue [x] (spl c r)
def mkB (l : List UInt8) : ByteArray := ⟨⟨l⟩⟩
theorem splitK_spl (c : UInt8) : ∀ (l : List UInt8), Lib.splitK [c] 0 (Lib.count l [c]) l = spl c l
  | [] => by rw [Lib.count_miss (by simp [Lib.index])]; rfl
  | x :: r => by
    have ih := splitK_spl c r
    by_cases h : x = c
    · subst h
      have hix : Lib.index (x :: r) [x] = ((0 : Nat) : Int) := by rw [Lib.index]; simp [List.isPrefixOf]
      rw [Lib.count_cons_eq, Nat.add_comm, Lib.splitK, hix]
      simp only [spl, if_true]
      rw [← ih]; simp
    · rw [Lib.count_cons_ne x c r h]
      simp only [spl, if_neg h]
      rw [← ih]
      have hp : ([c] : List UInt8).isPrefixOf (x :: r) = false := by simp [List.isPrefixOf, Ne.symm h]
      have hix : Lib.index (x :: r) [c] = if Lib.index r [c] == -1 then -1 else Lib.index r [c] + 1 := by rw [Lib.index, hp]; simp
      cases hk : Lib.count r [c] with
      | zero => rfl
      | succ k =>
        have hne : Lib.index r [c] ≠ -1 := fun e => by rw [Lib.count_miss e] at hk; cases hk
        have hge := Lib.index_ge r [c]
        obtain ⟨j, hj⟩ : ∃ j : Nat, Lib.index r [c] = j := ⟨(Lib.index r [c]).toNat, by omega⟩
        have hix' : Lib.index (x :: r) [c] = ((j + 1 : Nat) : Int) := by rw [hix, if_neg (fun e => hne (beq_iff_eq.1 e)), hj]; omega
        simp only [Lib.splitK, hix', hj]
        have e1 : ((((j + 1 : Nat) : Int)) == -1) = false := by simp; omega
        have e2 : (((j : Int)) == -1) = false := by simp
        simp only [e1, e2, Bool.false_eq_true, if_false, glue]
        simp
theorem splitB_spl (c : UInt8) (s : ByteArray) : Lib.splitB ⟨#[c]⟩ 0 (Lib.countB s ⟨#[c]⟩) s = (spl c s.data.toList).map mkB := by
 have h := Lib.splitB_data ⟨#[c]⟩ 0 (Lib.countB s ⟨#[c]⟩) s
 have h2 : Lib.countB s ⟨#[c]⟩ = Lib.count s.data.toList [c] := rfl
 rw [h2] at h ⊢
 rw [show (⟨#[c]⟩ : ByteArray).data.toList = [c] from rfl, splitK_spl] at h
 rw [← h, List.map_map]
 conv => lhs; rw [← List.map_id (Lib.splitB _ _ _ _)]
 apply List.map_congr_left
 intro x _
 rfl
theorem f382_e {s : ByteArray} {c : UInt8} (hs : s.size < 4294967281) : f382 s ⟨#[c]⟩ = some ((spl c s.data.toList).map mkB) := by
 unfold f382
 rw [decide_eq_true ⟨hs, Nat.le_refl _⟩, ogrd_t, splitB_spl]
theorem spl_ne (c : UInt8) : ∀ l, spl c l ≠ []
  | [] => by simp [spl]
  | x :: r => by
    simp only [spl]
    split
    · simp
    · cases spl c r <;> simp [glue]
def stC (c : UInt8) (l : List UInt8) : Nat → List (List UInt8) × Nat
 | 0 => ([], 0)
 | i + 1 => if l[i]? = some c then ((stC c l i).1 ++ [(l.drop (stC c l i).2).take (i - (stC c l i).2)], i + 1) else stC c l i
end
section
set_option linter.unusedSimpArgs false
set_option linter.unusedVariables false
open Go Go.RowKit
def isDg (x : UInt8) : Bool := decide (48 ≤ x.toNat ∧ x.toNat ≤ 57)
def vstep (a : Nat) (x : UInt8) : Nat := 10 * a + (x.toNat - 48)
def dval (l : List UInt8) : Nat := l.foldl vstep 0
def canon (m : List UInt8) : Prop := m ≠ [] ∧ (∀ x, x ∈ m → isDg x = true) ∧ (m.head? = some 48 → m.length = 1)
theorem isDg_of {d : Nat} (h : d < 10) : isDg (UInt8.ofNat (48 + d)) = true ∧ (UInt8.ofNat (48 + d)).toNat = 48 + d := by
 have : (UInt8.ofNat (48 + d)).toNat = 48 + d := by rw [UInt8.toNat_ofNat']; omega
 exact ⟨by unfold isDg; rw [this]; simp; omega, this⟩
theorem val_snoc (p : List UInt8) (x : UInt8) : dval (p ++ [x]) = vstep (dval p) x := by simp [dval]
theorem digs_ne (u : Nat) : Lib.decDigits u ≠ [] := fun e => by
 have h3 := Lib.decDigits_length u
 have h4 := Lib.nDigits_pos u
 rw [e] at h3
 simp at h3; omega
theorem digs_dg : ∀ (u : Nat) (x : UInt8), x ∈ Lib.decDigits u → isDg x = true
  | u, x, h => by
    rw [Lib.decDigits] at h
    by_cases h1 : u < 10
    · rw [dif_pos h1] at h
      simp only [List.mem_cons, List.not_mem_nil, or_false] at h
      subst h; exact (isDg_of h1).1
    · rw [dif_neg h1] at h
      rcases List.mem_append.1 h with h | h
      · exact digs_dg (u / 10) x h
      · simp only [List.mem_cons, List.not_mem_nil, or_false] at h
        subst h; exact (isDg_of (by omega)).1
theorem digs_val (u : Nat) : dval (Lib.decDigits u) = u := by
  induction u using Nat.strongRecOn with
  | _ u ih =>
    rw [Lib.decDigits]
    by_cases h1 : u < 10
    · rw [dif_pos h1]
      have h := (isDg_of h1).2
      show vstep 0 (UInt8.ofNat (48 + u)) = u
      unfold vstep; omega
    · rw [dif_neg h1, val_snoc, ih (u / 10) (by omega)]
      have h := (isDg_of (show u % 10 < 10 by omega)).2
      unfold vstep; omega
def numeral (l : List UInt8) (v : Int) : Prop := l = Lib.itoa v
theorem itoa_neg {v : Int} (h : v < 0) : Lib.itoa v = 45 :: Lib.decDigits v.natAbs := by unfold Lib.itoa; rw [if_pos h]
theorem itoa_nn {v : Int} (h : ¬ v < 0) : Lib.itoa v = Lib.decDigits v.natAbs := by unfold Lib.itoa; rw [if_neg h]; congr 1; omega
theorem dg45 : isDg 45 = false := by decide
theorem digs_45 (u : Nat) : (Lib.decDigits u).head? ≠ some 45 := fun e => by
 have := digs_dg u 45 (List.mem_of_mem_head? e)
 rw [dg45] at this; cases this
theorem itoa_trim (v : Int) : Lib.trimPrefix (Lib.itoa v) [45] = Lib.decDigits v.natAbs := by
  unfold Lib.trimPrefix
  by_cases h : v < 0
  · rw [itoa_neg h]; rfl
  · rw [itoa_nn h]
    have : Lib.hasPrefix (Lib.decDigits v.natAbs) [45] = false := by
      have := digs_45 v.natAbs
      cases hd : Lib.decDigits v.natAbs with
      | nil => rfl
      | cons a b =>
        rw [hd] at this
        simp only [List.head?_cons, ne_eq, Option.some.injEq] at this
        simp [Lib.hasPrefix, List.isPrefixOf, this, Ne.symm this]
    rw [this]; rfl
theorem vstep_le (l : List UInt8) : ∀ a, a ≤ l.foldl vstep a := by
 induction l with
 | nil => intro a; exact Nat.le_refl _
 | cons x r ih => intro a; exact Nat.le_trans (by unfold vstep; omega) (ih _)
theorem parse_ok : ∀ (l : List UInt8) (a : Nat), (∀ x, x ∈ l → isDg x = true) → l.foldl vstep a < 1000000000000000000 → Lib.parseUint10 a l = .ok (l.foldl vstep a)
  | [], a, _, _ => rfl
  | x :: r, a, h, hv => by
    have hx := of_decide_eq_true (h x (by simp))
    have h1 := vstep_le r (vstep a x)
    simp only [List.foldl_cons] at hv ⊢
    have h2 : vstep a x = a * 10 + (x.toNat - 48) := by unfold vstep; omega
    unfold Lib.parseUint10
    rw [if_pos hx, if_neg (by omega), if_neg (by omega), ← h2]
    exact parse_ok r _ (fun y hy => h y (by simp [hy])) hv
theorem atoi_itoa {v : Int} (h : v.natAbs < 1000000000000000000) : Lib.atoiAll (Lib.itoa v) = .ok v := by
  have hp : Lib.parseMag (Lib.decDigits v.natAbs) = .ok v.natAbs := by
    unfold Lib.parseMag
    rw [if_neg (digs_ne _)]
    have h1 := digs_val v.natAbs
    unfold dval at h1
    have := parse_ok (Lib.decDigits v.natAbs) 0 (digs_dg _) (by omega)
    rw [h1] at this; exact this
  by_cases h0 : v < 0
  · rw [itoa_neg h0, Lib.atoiAll_minus, hp]
    show (if 9223372036854775808 < v.natAbs then Lib.NumEnd.range else .ok (-(v.natAbs : Int))) = .ok v
    rw [if_neg (by omega)]; congr 1; omega
  · rw [itoa_nn h0]
    cases hd : Lib.decDigits v.natAbs with
    | nil => exact absurd hd (digs_ne _)
    | cons c r =>
      have hc := of_decide_eq_true (digs_dg v.natAbs c (by rw [hd]; simp))
      rw [Lib.atoiAll_plain c r (by omega) (by omega), ← hd, hp]
      show (if 9223372036854775808 ≤ v.natAbs then Lib.NumEnd.range else .ok (v.natAbs : Int)) = .ok v
      rw [if_neg (by omega)]; congr 1; omega
end
section
set_option linter.unusedSimpArgs false
set_option linter.unusedVariables false
open Go Go.RowKit
end
section
set_option linter.unusedSimpArgs false
set_option linter.unusedVariables false
open Go Go.RowKit
def numB (s : ByteArray) (d : Int) (b : Bool) : Bool := match Lib.atoiAll s.data.toList with
 | .ok v => decide (Lib.itoa v = s.toList) && (b || decide (0 ≤ v)) && decide (((Lib.trimPrefix s.data.toList [45]).length : Int) ≤ d)
 | _ => false
def numOf (s : ByteArray) (d v : Int) : Prop := s.data.toList = Lib.itoa v ∧ ((Lib.decDigits v.natAbs).length : Int) ≤ d
theorem natAbs_lt {v : Int} (h : (Lib.decDigits v.natAbs).length ≤ 7) : v.natAbs < 10000000 := by
 rw [Lib.decDigits_length] at h
 have h1 := Lib.lt_pow_nDigits v.natAbs
 have h2 : 10 ^ Lib.nDigits v.natAbs ≤ 10 ^ 7 := Nat.pow_le_pow_right (by omega) h
 omega
theorem num_t {s : ByteArray} {d v : Int} {b : Bool} (h : numOf s d v) (hd : d ≤ 7) (hb : b = true ∨ 0 ≤ v) : numB s d b = true ∧ numV s = v := by
 obtain ⟨h1, h2⟩ := h
 have ha := atoi_itoa (v := v) (by have := natAbs_lt (v := v) (by omega); omega)
 unfold numB numV
 rw [Lib.toList_data, h1, ha, itoa_trim]
 refine ⟨?_, rfl⟩
 have h3 : (b || decide (0 ≤ v)) = true := by rcases hb with h | h <;> simp [h]
 simp [h3, h2]
theorem itoa_no (v : Int) (c : UInt8) (hc : isDg c = false) (h45 : c ≠ 45) : c ∉ Lib.itoa v := by
 intro h
 have hd : c ∉ Lib.decDigits v.natAbs := fun h => by rw [digs_dg _ _ h] at hc; cases hc
 by_cases h0 : v < 0
 · rw [itoa_neg h0] at h
   rcases List.mem_cons.1 h with h | h
   · exact h45 h
   · exact hd h
 · rw [itoa_nn h0] at h; exact hd h
theorem spl_no {c : UInt8} : ∀ {p : List UInt8}, c ∉ p → spl c p = [p]
  | [], _ => rfl
  | x :: r, h => by
    simp only [List.mem_cons, not_or] at h
    simp only [spl, if_neg (Ne.symm h.1), spl_no h.2, glue]
    rfl
theorem spl_app {c : UInt8} {r : List UInt8} : ∀ {p : List UInt8}, c ∉ p → spl c (p ++ c :: r) = p :: spl c r
  | [], _ => by simp [spl]
  | x :: p, h => by
    simp only [List.mem_cons, not_or] at h
    simp only [List.cons_append, spl, if_neg (Ne.symm h.1), spl_app h.2, glue]
    rfl
theorem spl_size {c : UInt8} {l : List UInt8} {n : Nat} (h : l.length ≤ n) : ∀ p, p ∈ (spl c l).map mkB → p.size ≤ n := by
  intro p hp
  obtain ⟨q, hq, rfl⟩ := List.mem_map.1 hp
  have key : ∀ (l : List UInt8) (q : List UInt8), q ∈ spl c l → q.length ≤ l.length := by
    intro l
    induction l with
    | nil => intro q hq; simp [spl] at hq; subst hq; simp
    | cons x r ih =>
      intro q hq
      simp only [spl] at hq
      split at hq
      · rcases List.mem_cons.1 hq with rfl | hq
        · simp
        · have := ih q hq; simp; omega
      · cases hs : spl c r with
        | nil => exact absurd hs (spl_ne _ _)
        | cons a b =>
          rw [hs] at hq ih
          simp only [glue, List.mem_cons] at hq
          rcases hq with rfl | hq
          · have := ih a (by simp); simp; omega
          · have := ih q (by simp [hq]); simp; omega
  have := key l q hq
  show q.toArray.size ≤ n
  simp; omega
end
section
set_option linter.unusedSimpArgs false
set_option linter.unusedVariables false
open Go Go.RowKit
theorem f394_e {s : ByteArray} (hs : s.size ≤ 999) : f394 s = some (numV s, numO s) := by
 unfold f394; rw [decide_eq_true (by omega)]; rfl
theorem numO_v {s : ByteArray} (h : numO s = true) : ∃ v, Lib.atoiAll s.data.toList = .ok v ∧ numV s = v ∧ (-9223372036854775808 ≤ v ∧ v ≤ 9223372036854775807) := by
 unfold numO at h
 unfold numV
 cases ha : Lib.atoiAll s.data.toList
 · rename_i v; exact ⟨v, rfl, rfl, Lib.atoiAll_bounds ha⟩
 · rw [ha] at h; cases h
 · rw [ha] at h; cases h
theorem trim_sz (s : ByteArray) : ((⟨(Lib.trimPrefix s.data.toList [45]).toArray⟩ : ByteArray).size : Int) = ((Lib.trimPrefix s.data.toList [45]).length : Int) := by
 show (((Lib.trimPrefix s.data.toList [45]).toArray.size : Nat) : Int) = _
 simp
theorem chk_f (s : ByteArray) : oite (numO s) (obnd (f385 (numV s)) fun (y : ByteArray) => oite ((!(y.toList == s.toList))) (some true) (oite ((ilt (numV s) (0 : Int))) (some true) (obnd (f395 s (⟨#[45]⟩ : ByteArray)) fun (z : ByteArray) => some (ilt (7 : Int) (z.size : Int))))) (some true) = some (!numB s 7 false) := by
  cases h : numO s with
  | false =>
    rw [oite_f]
    unfold numB; unfold numO at h
    cases ha : Lib.atoiAll s.data.toList
    · rw [ha] at h; cases h
    · rfl
    · rfl
  | true =>
    obtain ⟨v, h1, h2, h3⟩ := numO_v h
    have h5 : f385 (numV s) = some ⟨(Lib.itoa v).toArray⟩ := by unfold f385; rw [h2, show in64 v = true from decide_eq_true h3]; rfl
    have h6 : (⟨(Lib.itoa v).toArray⟩ : ByteArray).toList = Lib.itoa v := by rw [Lib.toList_data]
    unfold f395
    rw [oite_t, h5, obnd_s, obnd_s, h6, trim_sz, ilt_eq, ilt_eq, h2]
    unfold numB
    rw [h1]
    simp only [Bool.false_or]
    cases h7 : (Lib.itoa v == s.toList) with
    | false =>
      have : ¬ Lib.itoa v = s.toList := fun e => by rw [e] at h7; simp at h7
      rw [decide_eq_false this]; rfl
    | true =>
      rw [decide_eq_true (eq_of_beq h7)]
      by_cases h8 : v < 0
      · rw [decide_eq_true h8, decide_eq_false (show ¬ 0 ≤ v by omega)]; rfl
      · rw [decide_eq_false h8, decide_eq_true (show 0 ≤ v by omega)]
        by_cases h9 : (7 : Int) < ((Lib.trimPrefix s.data.toList [45]).length : Int)
        · rw [decide_eq_true h9, decide_eq_false (show ¬ ((Lib.trimPrefix s.data.toList [45]).length : Int) ≤ 7 by omega)]; rfl
        · rw [decide_eq_false h9, decide_eq_true (show ((Lib.trimPrefix s.data.toList [45]).length : Int) ≤ 7 by omega)]; rfl
theorem chk_t (s : ByteArray) : oite (numO s) (obnd (f385 (numV s)) fun (y : ByteArray) => oite ((!(y.toList == s.toList))) (some true) (oite ((ilt (numV s) (0 : Int))) (obnd (f395 s (⟨#[45]⟩ : ByteArray)) fun (z : ByteArray) => some (ilt (7 : Int) (z.size : Int))) (obnd (f395 s (⟨#[45]⟩ : ByteArray)) fun (z : ByteArray) => some (ilt (7 : Int) (z.size : Int))))) (some true) = some (!numB s 7 true) := by
  cases h : numO s with
  | false =>
    rw [oite_f]
    unfold numB; unfold numO at h
    cases ha : Lib.atoiAll s.data.toList
    · rw [ha] at h; cases h
    · rfl
    · rfl
  | true =>
    obtain ⟨v, h1, h2, h3⟩ := numO_v h
    have h5 : f385 (numV s) = some ⟨(Lib.itoa v).toArray⟩ := by unfold f385; rw [h2, show in64 v = true from decide_eq_true h3]; rfl
    have h6 : (⟨(Lib.itoa v).toArray⟩ : ByteArray).toList = Lib.itoa v := by rw [Lib.toList_data]
    unfold f395
    rw [oite_t, h5, obnd_s, obnd_s, h6, trim_sz, ilt_eq, ilt_eq, h2]
    unfold numB
    rw [h1]
    simp only [Bool.true_or, Bool.and_true]
    cases h7 : (Lib.itoa v == s.toList) with
    | false =>
      have : ¬ Lib.itoa v = s.toList := fun e => by rw [e] at h7; simp at h7
      rw [decide_eq_false this]; rfl
    | true =>
      rw [decide_eq_true (eq_of_beq h7)]
      have e : decide ((7 : Int) < ((Lib.trimPrefix s.data.toList [45]).length : Int)) = !decide (((Lib.trimPrefix s.data.toList [45]).length : Int) ≤ 7) := by rw [← decide_not]; congr 1; exact propext (by omega)
      rw [e]
      cases decide (v < 0) <;> rfl
def nums (w : List ByteArray) (n k : Nat) : Option (List Int) := bif decide (w.length = n) && (List.range n).all fun i => numB (w.getD i ⟨#[]⟩) 7 (decide (k ≤ i)) then some (w.map numV) else none
end
section
set_option linter.unusedSimpArgs false
set_option linter.unusedVariables false
open Go Go.RowKit
abbrev Md := ByteArray × Int × Int × Int
abbrev Hr := Int × Int × Int
def wds (c : UInt8) (s : ByteArray) : List ByteArray := (spl c s.data.toList).map mkB
theorem wds_ne (c : UInt8) (s : ByteArray) : ∃ x r, wds c s = x :: r := by
 unfold wds
 cases h : spl c s.data.toList with
 | nil => exact absurd h (spl_ne _ _)
 | cons a b => exact ⟨mkB a, b.map mkB, rfl⟩
theorem wds_sz {c : UInt8} {s : ByteArray} {n : Nat} (h : s.size ≤ n) : ∀ p, p ∈ wds c s → p.size ≤ n := spl_size (by rw [size_l]; exact h)
theorem spl_cnt (c : UInt8) : ∀ l : List UInt8, (spl c l).length ≤ l.length + 1
  | [] => by simp [spl]
  | x :: r => by
    have := spl_cnt c r
    simp only [spl]
    split
    · simp; omega
    · cases h : spl c r with
      | nil => exact absurd h (spl_ne _ _)
      | cons a b => rw [h] at this; simp [glue] at this ⊢; omega
theorem wds_cnt {c : UInt8} {s : ByteArray} : (wds c s).length ≤ s.size + 1 := by
 have := spl_cnt c s.data.toList
 rw [size_l] at this
 unfold wds; rw [List.length_map]; exact this
def emp (x : ByteArray) : Bool := x.toList == (⟨#[]⟩ : ByteArray).toList
def modeOf (x : ByteArray) : Option Md := match nums ((wds 32 x).drop 1) 3 0 with
 | some [a, b, c] => bif emp ((wds 32 x).getD 0 ⟨#[]⟩) then none else some ((wds 32 x).getD 0 ⟨#[]⟩, a, b, c)
 | _ => none
def hourOf (x : ByteArray) : Option Hr := match nums (wds 32 x) 3 0 with
 | some [a, b, c] => some (a, b, c)
 | _ => none
def allO {α : Type} : List (Option α) → Option (List α)
 | [] => some []
 | none :: _ => none
 | some a :: r => (allO r).map (a :: ·)
theorem allO_len {α : Type} : ∀ {l : List (Option α)} {a : List α}, allO l = some a → a.length = l.length
  | [], a, h => by simp [allO] at h; subst h; rfl
  | none :: r, a, h => by cases h
  | some x :: r, a, h => by
    simp only [allO, Option.map_eq_some_iff] at h
    obtain ⟨b, h1, rfl⟩ := h
    simp [allO_len h1]
theorem allO_at {α : Type} {l : List (Option α)} {a : List α} (h : allO l = some a) {i : Nat} {x : α} (hx : a[i]? = some x) : l[i]? = some (some x) := by
  induction l generalizing a i with
  | nil => simp [allO] at h; subst h; simp at hx
  | cons y r ih =>
    cases y with
    | none => cases h
    | some y =>
      simp only [allO, Option.map_eq_some_iff] at h
      obtain ⟨b, h1, rfl⟩ := h
      cases i with
      | zero => simpa using hx
      | succ i => simpa using ih h1 (by simpa using hx)
def plantOf (s : ByteArray) : Option (Int × Int × List Md) := match nums (wds 32 ((wds 59 s).getD 0 ⟨#[]⟩)) 2 2, allO (((wds 59 s).drop 1).map modeOf) with
 | some [a, b], some M => some (a, b, M)
 | _, _ => none
def taskOf (s : ByteArray) : Option (Int × Int × Int × List Hr) := match nums (wds 32 ((wds 59 s).getD 0 ⟨#[]⟩)) 3 2, allO (((wds 59 s).drop 1).map hourOf) with
 | some [a, b, c], some H => some (a, b, c, H)
 | _, _ => none
def outP : Option (Int × Int × List Md) → Int × Int × List Md × Int
 | none => (0, 0, [], 7)
 | some (a, b, M) => bif decide ((ckP a b M).2 = 0) then (a, b, M, 0) else (0, 0, [], (ckP a b M).2)
def outT : Option (Int × Int × Int × List Hr) → Int × Int × Int × List Hr × Int
 | none => (0, 0, 0, [], 7)
 | some (a, b, c, H) => (a, b, c, H, 0)
theorem mode_sz {s : ByteArray} {n : Nat} (hs : s.size ≤ n) {M : List Md} (h : allO (((wds 59 s).drop 1).map modeOf) = some M) : ∀ p, p ∈ M → p.1.size ≤ n := by
  intro p hp
  obtain ⟨i, hi, rfl⟩ := List.getElem_of_mem hp
  have h1 := allO_at h (List.getElem?_eq_getElem hi)
  rw [List.getElem?_map, Option.map_eq_some_iff] at h1
  obtain ⟨x, hx, h2⟩ := h1
  have hx2 := wds_sz hs x (List.mem_of_mem_drop (List.mem_of_getElem? hx))
  unfold modeOf at h2
  split at h2
  · cases he : emp ((wds 32 x).getD 0 ⟨#[]⟩) with
    | true => rw [he] at h2; cases h2
    | false =>
      rw [he] at h2
      simp only [cond_false, Option.some.injEq] at h2
      rw [← h2]
      obtain ⟨y, r, hy⟩ := wds_ne 32 x
      rw [hy]
      exact wds_sz hx2 y (by rw [hy]; simp)
  · cases h2
theorem getD0 {x : ByteArray} {r : List ByteArray} : (x :: r).getD 0 ⟨#[]⟩ = x := rfl
end
section
set_option linter.unusedSimpArgs false
set_option linter.unusedVariables false
open Go Go.RowKit
noncomputable def l462 (m55 : List ByteArray) (e58 : Bool × Int × List Md) : Option ((Bool × Int × List Md) ⊕ (Bool × List Md)) :=
 oite ((ilt e58.2.1 ((m55.map eS).length : Int))) (
 ogrd ((ile 0 e58.2.1)) (
 obnd (m55[e58.2.1.toNat]?) fun (x63 : ByteArray) =>
 obnd (f382 x63 (⟨#[32]⟩ : ByteArray)) fun (y64 : (List ByteArray)) =>
 obnd (y64[(0 : Int).toNat]?) fun (x66 : ByteArray) =>
 obnd (
 obnd (y64[(0 : Int).toNat]?) fun (x71 : ByteArray) =>
 oite ((!(x71.toList == (⟨#[]⟩ : ByteArray).toList))) (
 obnd (oslL y64 (1 : Int)) fun (m74 : List ByteArray) =>
 oite ((!(ieq ((m74.map eS).length : Int) (3 : Int)))) (
 some (false, (0 : Int), (0 : Int), (0 : Int))
 ) (
 obndS (
 obnd (m74[(0 : Int).toNat]?) fun (x82 : ByteArray) =>
 obnd (f394 x82) fun (y83 : Int × Bool) =>
 obnd (
 oite y83.2 (
 obnd (m74[(0 : Int).toNat]?) fun (x90 : ByteArray) =>
 obnd (f385 y83.1) fun (y91 : ByteArray) =>
 oite ((!(y91.toList == x90.toList))) (
 some true
 ) (
 oite ((ilt y83.1 (0 : Int))) (
 obnd (m74[(0 : Int).toNat]?) fun (x95 : ByteArray) =>
 obnd (f395 x95 (⟨#[45]⟩ : ByteArray)) fun (y96 : ByteArray) =>
 some (ilt (7 : Int) (y96.size : Int))
 ) (
 obnd (m74[(0 : Int).toNat]?) fun (x98 : ByteArray) =>
 obnd (f395 x98 (⟨#[45]⟩ : ByteArray)) fun (y99 : ByteArray) =>
 some (ilt (7 : Int) (y99.size : Int))
 )
 )
 ) (
 some true
 )
 ) fun (r85 : Bool) =>
 oite r85 (
 some (.inr ((false, (0 : Int), (0 : Int), (0 : Int))))
 ) (
 obnd (m74[(1 : Int).toNat]?) fun (x102 : ByteArray) =>
 obnd (f394 x102) fun (y103 : Int × Bool) =>
 obnd (
 oite y103.2 (
 obnd (m74[(1 : Int).toNat]?) fun (x110 : ByteArray) =>
 obnd (f385 y103.1) fun (y111 : ByteArray) =>
 oite ((!(y111.toList == x110.toList))) (
 some true
 ) (
 oite ((ilt y103.1 (0 : Int))) (
 obnd (m74[(1 : Int).toNat]?) fun (x115 : ByteArray) =>
 obnd (f395 x115 (⟨#[45]⟩ : ByteArray)) fun (y116 : ByteArray) =>
 some (ilt (7 : Int) (y116.size : Int))
 ) (
 obnd (m74[(1 : Int).toNat]?) fun (x118 : ByteArray) =>
 obnd (f395 x118 (⟨#[45]⟩ : ByteArray)) fun (y119 : ByteArray) =>
 some (ilt (7 : Int) (y119.size : Int))
 )
 )
 ) (
 some true
 )
 ) fun (r105 : Bool) =>
 oite r105 (
 some (.inr ((false, y83.1, (0 : Int), (0 : Int))))
 ) (
 obnd (m74[(2 : Int).toNat]?) fun (x122 : ByteArray) =>
 obnd (f394 x122) fun (y123 : Int × Bool) =>
 obnd (
 oite y123.2 (
 obnd (m74[(2 : Int).toNat]?) fun (x130 : ByteArray) =>
 obnd (f385 y123.1) fun (y131 : ByteArray) =>
 oite ((!(y131.toList == x130.toList))) (
 some true
 ) (
 oite ((ilt y123.1 (0 : Int))) (
 obnd (m74[(2 : Int).toNat]?) fun (x135 : ByteArray) =>
 obnd (f395 x135 (⟨#[45]⟩ : ByteArray)) fun (y136 : ByteArray) =>
 some (ilt (7 : Int) (y136.size : Int))
 ) (
 obnd (m74[(2 : Int).toNat]?) fun (x138 : ByteArray) =>
 obnd (f395 x138 (⟨#[45]⟩ : ByteArray)) fun (y139 : ByteArray) =>
 some (ilt (7 : Int) (y139.size : Int))
 )
 )
 ) (
 some true
 )
 ) fun (r125 : Bool) =>
 oite r125 (
 some (.inr ((false, y83.1, y103.1, (0 : Int))))
 ) (
 some (.inl (y83.1, y103.1, y123.1))
 )
 )
 )
 ) fun (r142 : Int × Int × Int) =>
 some (e58.1, r142.1, r142.2.1, r142.2.2)
 )
 ) (
 some (false, (0 : Int), (0 : Int), (0 : Int))
 )
 ) fun (r67 : Bool × Int × Int × Int) =>
 ogrd (fits 40 (e58.2.2.length + ([(x66, r67.2.1, r67.2.2.1, r67.2.2.2)] : List (ByteArray × Int × Int × Int)).length)) (
 some (.inl ((r67.1, (IntKind.i64.wrap (e58.2.1 + (1 : Int))), (e58.2.2 ++ ([(x66, r67.2.1, r67.2.2.1, r67.2.2.2)] : List (ByteArray × Int × Int × Int))))))
 )
 )
 ) (
 some (.inr ((e58.1, e58.2.2)))
 )
noncomputable def l463 (m75 : List ByteArray) (e78 : Bool × Int × List Hr) : Option ((Bool × Int × List Hr) ⊕ (Bool × List Hr)) :=
 oite ((ilt e78.2.1 ((m75.map eS).length : Int))) (
 ogrd ((ile 0 e78.2.1)) (
 obnd (m75[e78.2.1.toNat]?) fun (x83 : ByteArray) =>
 obnd (
 obnd (f382 x83 (⟨#[32]⟩ : ByteArray)) fun (y88 : (List ByteArray)) =>
 oite ((!(ieq ((y88.map eS).length : Int) (3 : Int)))) (
 some (false, (0 : Int), (0 : Int), (0 : Int))
 ) (
 obndS (
 obnd (y88[(0 : Int).toNat]?) fun (x95 : ByteArray) =>
 obnd (f394 x95) fun (y96 : Int × Bool) =>
 obnd (
 oite y96.2 (
 obnd (y88[(0 : Int).toNat]?) fun (x103 : ByteArray) =>
 obnd (f385 y96.1) fun (y104 : ByteArray) =>
 oite ((!(y104.toList == x103.toList))) (
 some true
 ) (
 oite ((ilt y96.1 (0 : Int))) (
 obnd (y88[(0 : Int).toNat]?) fun (x108 : ByteArray) =>
 obnd (f395 x108 (⟨#[45]⟩ : ByteArray)) fun (y109 : ByteArray) =>
 some (ilt (7 : Int) (y109.size : Int))
 ) (
 obnd (y88[(0 : Int).toNat]?) fun (x111 : ByteArray) =>
 obnd (f395 x111 (⟨#[45]⟩ : ByteArray)) fun (y112 : ByteArray) =>
 some (ilt (7 : Int) (y112.size : Int))
 )
 )
 ) (
 some true
 )
 ) fun (r98 : Bool) =>
 oite r98 (
 some (.inr ((false, (0 : Int), (0 : Int), (0 : Int))))
 ) (
 obnd (y88[(1 : Int).toNat]?) fun (x115 : ByteArray) =>
 obnd (f394 x115) fun (y116 : Int × Bool) =>
 obnd (
 oite y116.2 (
 obnd (y88[(1 : Int).toNat]?) fun (x123 : ByteArray) =>
 obnd (f385 y116.1) fun (y124 : ByteArray) =>
 oite ((!(y124.toList == x123.toList))) (
 some true
 ) (
 oite ((ilt y116.1 (0 : Int))) (
 obnd (y88[(1 : Int).toNat]?) fun (x128 : ByteArray) =>
 obnd (f395 x128 (⟨#[45]⟩ : ByteArray)) fun (y129 : ByteArray) =>
 some (ilt (7 : Int) (y129.size : Int))
 ) (
 obnd (y88[(1 : Int).toNat]?) fun (x131 : ByteArray) =>
 obnd (f395 x131 (⟨#[45]⟩ : ByteArray)) fun (y132 : ByteArray) =>
 some (ilt (7 : Int) (y132.size : Int))
 )
 )
 ) (
 some true
 )
 ) fun (r118 : Bool) =>
 oite r118 (
 some (.inr ((false, y96.1, (0 : Int), (0 : Int))))
 ) (
 obnd (y88[(2 : Int).toNat]?) fun (x135 : ByteArray) =>
 obnd (f394 x135) fun (y136 : Int × Bool) =>
 obnd (
 oite y136.2 (
 obnd (y88[(2 : Int).toNat]?) fun (x143 : ByteArray) =>
 obnd (f385 y136.1) fun (y144 : ByteArray) =>
 oite ((!(y144.toList == x143.toList))) (
 some true
 ) (
 oite ((ilt y136.1 (0 : Int))) (
 obnd (y88[(2 : Int).toNat]?) fun (x148 : ByteArray) =>
 obnd (f395 x148 (⟨#[45]⟩ : ByteArray)) fun (y149 : ByteArray) =>
 some (ilt (7 : Int) (y149.size : Int))
 ) (
 obnd (y88[(2 : Int).toNat]?) fun (x151 : ByteArray) =>
 obnd (f395 x151 (⟨#[45]⟩ : ByteArray)) fun (y152 : ByteArray) =>
 some (ilt (7 : Int) (y152.size : Int))
 )
 )
 ) (
 some true
 )
 ) fun (r138 : Bool) =>
 oite r138 (
 some (.inr ((false, y96.1, y116.1, (0 : Int))))
 ) (
 some (.inl (y96.1, y116.1, y136.1))
 )
 )
 )
 ) fun (r155 : Int × Int × Int) =>
 some (e78.1, r155.1, r155.2.1, r155.2.2)
 )
 ) fun (r84 : Bool × Int × Int × Int) =>
 ogrd (fits 24 (e78.2.2.length + ([(r84.2.1, r84.2.2.1, r84.2.2.2)] : List (Int × Int × Int)).length)) (
 some (.inl ((r84.1, (IntKind.i64.wrap (e78.2.1 + (1 : Int))), (e78.2.2 ++ ([(r84.2.1, r84.2.2.1, r84.2.2.2)] : List (Int × Int × Int))))))
 )
 )
 ) (
 some (.inr ((e78.1, e78.2.2)))
 )
theorem nums_3 {x y z : ByteArray} {k : Nat} : nums [x, y, z] 3 k = bif numB x 7 (decide (k ≤ 0)) && (numB y 7 (decide (k ≤ 1)) && numB z 7 (decide (k ≤ 2))) then some [numV x, numV y, numV z] else none := by
 unfold nums
 simp [List.range_succ]
theorem nums_2 {x y : ByteArray} {k : Nat} : nums [x, y] 2 k = bif numB x 7 (decide (k ≤ 0)) && numB y 7 (decide (k ≤ 1)) then some [numV x, numV y] else none := by
 unfold nums
 simp [List.range_succ]
theorem three' {l : List ByteArray} (h : l.length = 3) : ∃ a b c, l = [a, b, c] := by
 match l, h with
 | [a, b, c], _ => exact ⟨a, b, c, rfl⟩
theorem two' {l : List ByteArray} (h : l.length = 2) : ∃ a b, l = [a, b] := by
 match l, h with
 | [a, b], _ => exact ⟨a, b, rfl⟩
theorem f382_w {x : ByteArray} (hs : x.size ≤ 999) : f382 x ⟨#[32]⟩ = some (wds 32 x) := f382_e (c := 32) (by omega)
theorem nums_no {w : List ByteArray} {n k : Nat} (h : w.length ≠ n) : nums w n k = none := by unfold nums; rw [decide_eq_false h]; rfl
theorem ieq_f' {a b : Int} (h : a ≠ b) : ieq a b = false := by rw [ieq_eq]; exact decide_eq_false h
theorem l462_t {r : List ByteArray} {i : Nat} (hi : i < r.length) (hr : r.length ≤ 1000) (hs : r[i].size ≤ 999) {A : List Md} (hA : A.length ≤ 1000) (ok : Bool) :
    ∃ m, l462 r (ok, (i : Int), A) = some (.inl (ok && (modeOf r[i]).isSome, ((i + 1 : Nat) : Int), A ++ [m])) ∧ ∀ m', modeOf r[i] = some m' → m' = m := by
  obtain ⟨y, w, hw⟩ := wds_ne 32 r[i]
  have hsz := wds_sz (c := 32) hs
  rw [hw] at hsz
  have h1 : ilt (i : Int) ((r.map eS).length : Int) = true := ilt_t (by simp; omega)
  have h2 : ile 0 (i : Int) = true := ile_t (by omega)
  have hx : r[((i : Int)).toNat]? = some r[i] := by rw [Int.toNat_natCast]; exact List.getElem?_eq_getElem hi
  have ho : oslL (y :: w) 1 = some w := by unfold oslL; rw [if_pos (by simp; omega)]; rfl
  have h0 : (y :: w)[(0 : Int).toNat]? = some y := rfl
  have fin : ∀ (b : Bool) (m : Md), (ogrd (fits 40 (A.length + [m].length)) (some (Sum.inl (b, IntKind.i64.wrap ((i : Int) + 1), A ++ [m]))) : Option ((Bool × Int × List Md) ⊕ (Bool × List Md))) = some (.inl (b, ((i + 1 : Nat) : Int), A ++ [m])) := fun b m => by
    rw [ogrd_fits (by simp; omega) (by simp; omega), wr (by omega) (by omega)]; rfl
  unfold l462 modeOf
  rw [hw, List.drop_one, List.tail_cons, getD0]
  cases he : emp y with
  | true =>
    have he' : (y.toList == (⟨#[]⟩ : ByteArray).toList) = true := he
    refine ⟨(y, 0, 0, 0), ?_, fun m' hm => ?_⟩
    · simp only [h1, h2, hx, oite_t, oite_f, ogrd_t, obnd_s, f382_w hs, hw, h0, he', Bool.not_true]
      rw [fin]
      cases nums w 3 0 with
      | none => simp
      | some l => split <;> simp
    · split at hm <;> cases hm
  | false =>
    have he' : (y.toList == (⟨#[]⟩ : ByteArray).toList) = false := he
    by_cases hl : w.length = 3
    · obtain ⟨a, b, c, rfl⟩ := three' hl
      have ha := hsz a (by simp)
      have hb := hsz b (by simp)
      have hc := hsz c (by simp)
      have h3 : ieq ((([a, b, c] : List ByteArray).map eS).length : Int) 3 = true := rfl
      rw [nums_3]
      have e : ∀ n : Nat, decide (0 ≤ n) = true := fun n => decide_eq_true (Nat.zero_le n)
      rw [e, e, e]
      simp only [h1, h2, hx, oite_t, oite_f, ogrd_t, obnd_s, f382_w hs, hw, h0, he', Bool.not_false, Bool.not_true, ho, h3, show ([a, b, c] : List ByteArray)[(0 : Int).toNat]? = some a from rfl, show ([a, b, c] : List ByteArray)[(1 : Int).toNat]? = some b from rfl, show ([a, b, c] : List ByteArray)[(2 : Int).toNat]? = some c from rfl, f394_e ha, f394_e hb, f394_e hc, chk_t]
      cases numB a 7 true with
      | false => exact ⟨(y, 0, 0, 0), by simp only [Bool.not_false, oite_t, obndS_r, obnd_s, Bool.false_and, cond_false]; rw [fin]; simp, fun m' hm => by cases hm⟩
      | true =>
        cases numB b 7 true with
        | false => exact ⟨(y, numV a, 0, 0), by simp only [Bool.not_false, Bool.not_true, oite_t, oite_f, obndS_r, obnd_s, Bool.false_and, Bool.and_false, cond_false]; rw [fin]; simp, fun m' hm => by cases hm⟩
        | true =>
          cases numB c 7 true with
          | false => exact ⟨(y, numV a, numV b, 0), by simp only [Bool.not_false, Bool.not_true, oite_t, oite_f, obndS_r, obnd_s, Bool.false_and, Bool.and_false, cond_false]; rw [fin]; simp, fun m' hm => by cases hm⟩
          | true => exact ⟨(y, numV a, numV b, numV c), by simp only [Bool.not_true, oite_f, obndS_l, obnd_s, Bool.and_self, cond_true, cond_false]; rw [fin]; simp, fun m' hm => by cases hm; rfl⟩
    · have h3 : ieq (((w.map eS).length : Nat) : Int) 3 = false := ieq_f' (by simp; omega)
      rw [nums_no hl]
      refine ⟨(y, 0, 0, 0), ?_, fun m' hm => by cases hm⟩
      simp only [h1, h2, hx, oite_t, oite_f, ogrd_t, obnd_s, f382_w hs, hw, h0, he', Bool.not_false, ho, h3]
      rw [fin]; simp
noncomputable def p462 (y2 : List ByteArray) : Option (Bool × Int × Int) :=
 obnd (y2[(0 : Int).toNat]?) fun (x8 : ByteArray) =>
 obnd (f382 x8 (⟨#[32]⟩ : ByteArray)) fun (y9 : (List ByteArray)) =>
 oite ((!(ieq ((y9.map eS).length : Int) (2 : Int)))) (
 some (false, (0 : Int), (0 : Int))
 ) (
 obndS (
 obnd (y9[(0 : Int).toNat]?) fun (x16 : ByteArray) =>
 obnd (f394 x16) fun (y17 : Int × Bool) =>
 obnd (
 oite y17.2 (
 obnd (y9[(0 : Int).toNat]?) fun (x24 : ByteArray) =>
 obnd (f385 y17.1) fun (y25 : ByteArray) =>
 oite ((!(y25.toList == x24.toList))) (
 some true
 ) (
 oite ((ilt y17.1 (0 : Int))) (
 some true
 ) (
 obnd (y9[(0 : Int).toNat]?) fun (x29 : ByteArray) =>
 obnd (f395 x29 (⟨#[45]⟩ : ByteArray)) fun (y30 : ByteArray) =>
 some (ilt (7 : Int) (y30.size : Int))
 )
 )
 ) (
 some true
 )
 ) fun (r19 : Bool) =>
 oite r19 (
 some (.inr ((false, (0 : Int), (0 : Int))))
 ) (
 obnd (y9[(1 : Int).toNat]?) fun (x33 : ByteArray) =>
 obnd (f394 x33) fun (y34 : Int × Bool) =>
 obnd (
 oite y34.2 (
 obnd (y9[(1 : Int).toNat]?) fun (x41 : ByteArray) =>
 obnd (f385 y34.1) fun (y42 : ByteArray) =>
 oite ((!(y42.toList == x41.toList))) (
 some true
 ) (
 oite ((ilt y34.1 (0 : Int))) (
 some true
 ) (
 obnd (y9[(1 : Int).toNat]?) fun (x46 : ByteArray) =>
 obnd (f395 x46 (⟨#[45]⟩ : ByteArray)) fun (y47 : ByteArray) =>
 some (ilt (7 : Int) (y47.size : Int))
 )
 )
 ) (
 some true
 )
 ) fun (r36 : Bool) =>
 oite r36 (
 some (.inr ((false, y17.1, (0 : Int))))
 ) (
 some (.inl (y17.1, y34.1))
 )
 )
 ) fun (r50 : Int × Int) =>
 some (true, r50.1, r50.2)
 )
noncomputable def p463 (y2 : List ByteArray) : Option (Bool × Int × Int × Int) :=
 obnd (y2[(0 : Int).toNat]?) fun (x8 : ByteArray) =>
 obnd (f382 x8 (⟨#[32]⟩ : ByteArray)) fun (y9 : (List ByteArray)) =>
 oite ((!(ieq ((y9.map eS).length : Int) (3 : Int)))) (
 some (false, (0 : Int), (0 : Int), (0 : Int))
 ) (
 obndS (
 obnd (y9[(0 : Int).toNat]?) fun (x16 : ByteArray) =>
 obnd (f394 x16) fun (y17 : Int × Bool) =>
 obnd (
 oite y17.2 (
 obnd (y9[(0 : Int).toNat]?) fun (x24 : ByteArray) =>
 obnd (f385 y17.1) fun (y25 : ByteArray) =>
 oite ((!(y25.toList == x24.toList))) (
 some true
 ) (
 oite ((ilt y17.1 (0 : Int))) (
 some true
 ) (
 obnd (y9[(0 : Int).toNat]?) fun (x29 : ByteArray) =>
 obnd (f395 x29 (⟨#[45]⟩ : ByteArray)) fun (y30 : ByteArray) =>
 some (ilt (7 : Int) (y30.size : Int))
 )
 )
 ) (
 some true
 )
 ) fun (r19 : Bool) =>
 oite r19 (
 some (.inr ((false, (0 : Int), (0 : Int), (0 : Int))))
 ) (
 obnd (y9[(1 : Int).toNat]?) fun (x33 : ByteArray) =>
 obnd (f394 x33) fun (y34 : Int × Bool) =>
 obnd (
 oite y34.2 (
 obnd (y9[(1 : Int).toNat]?) fun (x41 : ByteArray) =>
 obnd (f385 y34.1) fun (y42 : ByteArray) =>
 oite ((!(y42.toList == x41.toList))) (
 some true
 ) (
 oite ((ilt y34.1 (0 : Int))) (
 some true
 ) (
 obnd (y9[(1 : Int).toNat]?) fun (x46 : ByteArray) =>
 obnd (f395 x46 (⟨#[45]⟩ : ByteArray)) fun (y47 : ByteArray) =>
 some (ilt (7 : Int) (y47.size : Int))
 )
 )
 ) (
 some true
 )
 ) fun (r36 : Bool) =>
 oite r36 (
 some (.inr ((false, y17.1, (0 : Int), (0 : Int))))
 ) (
 obnd (y9[(2 : Int).toNat]?) fun (x50 : ByteArray) =>
 obnd (f394 x50) fun (y51 : Int × Bool) =>
 obnd (
 oite y51.2 (
 obnd (y9[(2 : Int).toNat]?) fun (x58 : ByteArray) =>
 obnd (f385 y51.1) fun (y59 : ByteArray) =>
 oite ((!(y59.toList == x58.toList))) (
 some true
 ) (
 oite ((ilt y51.1 (0 : Int))) (
 obnd (y9[(2 : Int).toNat]?) fun (x63 : ByteArray) =>
 obnd (f395 x63 (⟨#[45]⟩ : ByteArray)) fun (y64 : ByteArray) =>
 some (ilt (7 : Int) (y64.size : Int))
 ) (
 obnd (y9[(2 : Int).toNat]?) fun (x66 : ByteArray) =>
 obnd (f395 x66 (⟨#[45]⟩ : ByteArray)) fun (y67 : ByteArray) =>
 some (ilt (7 : Int) (y67.size : Int))
 )
 )
 ) (
 some true
 )
 ) fun (r53 : Bool) =>
 oite r53 (
 some (.inr ((false, y17.1, y34.1, (0 : Int))))
 ) (
 some (.inl (y17.1, y34.1, y51.1))
 )
 )
 )
 ) fun (r70 : Int × Int × Int) =>
 some (true, r70.1, r70.2.1, r70.2.2)
 )
theorem l463_t {r : List ByteArray} {i : Nat} (hi : i < r.length) (hr : r.length ≤ 1000) (hs : r[i].size ≤ 999) {A : List Hr} (hA : A.length ≤ 1000) (ok : Bool) :
    ∃ m, l463 r (ok, (i : Int), A) = some (.inl (ok && (hourOf r[i]).isSome, ((i + 1 : Nat) : Int), A ++ [m])) ∧ ∀ m', hourOf r[i] = some m' → m' = m := by
  have hsz := wds_sz (c := 32) hs
  have h1 : ilt (i : Int) ((r.map eS).length : Int) = true := ilt_t (by simp; omega)
  have h2 : ile 0 (i : Int) = true := ile_t (by omega)
  have hx : r[((i : Int)).toNat]? = some r[i] := by rw [Int.toNat_natCast]; exact List.getElem?_eq_getElem hi
  have fin : ∀ (b : Bool) (m : Hr), (ogrd (fits 24 (A.length + [m].length)) (some (Sum.inl (b, IntKind.i64.wrap ((i : Int) + 1), A ++ [m]))) : Option ((Bool × Int × List Hr) ⊕ (Bool × List Hr))) = some (.inl (b, ((i + 1 : Nat) : Int), A ++ [m])) := fun b m => by
    rw [ogrd_fits (by simp; omega) (by simp; omega), wr (by omega) (by omega)]; rfl
  unfold l463 hourOf
  generalize hw : wds 32 r[i] = w at hsz
  by_cases hl : w.length = 3
  · obtain ⟨a, b, c, rfl⟩ := three' hl
    have ha := hsz a (by simp)
    have hb := hsz b (by simp)
    have hc := hsz c (by simp)
    have h3 : ieq ((([a, b, c] : List ByteArray).map eS).length : Int) 3 = true := rfl
    rw [nums_3]
    have e : ∀ n : Nat, decide (0 ≤ n) = true := fun n => decide_eq_true (Nat.zero_le n)
    rw [e, e, e]
    simp only [h1, h2, hx, oite_t, oite_f, ogrd_t, obnd_s, f382_w hs, hw, Bool.not_true, h3, show ([a, b, c] : List ByteArray)[(0 : Int).toNat]? = some a from rfl, show ([a, b, c] : List ByteArray)[(1 : Int).toNat]? = some b from rfl, show ([a, b, c] : List ByteArray)[(2 : Int).toNat]? = some c from rfl, f394_e ha, f394_e hb, f394_e hc, chk_t]
    cases numB a 7 true with
    | false => exact ⟨(0, 0, 0), by simp only [Bool.not_false, oite_t, obndS_r, obnd_s, Bool.false_and, cond_false]; rw [fin]; simp, fun m' hm => by cases hm⟩
    | true =>
      cases numB b 7 true with
      | false => exact ⟨(numV a, 0, 0), by simp only [Bool.not_false, Bool.not_true, oite_t, oite_f, obndS_r, obnd_s, Bool.false_and, Bool.and_false, cond_false]; rw [fin]; simp, fun m' hm => by cases hm⟩
      | true =>
        cases numB c 7 true with
        | false => exact ⟨(numV a, numV b, 0), by simp only [Bool.not_false, Bool.not_true, oite_t, oite_f, obndS_r, obnd_s, Bool.false_and, Bool.and_false, cond_false]; rw [fin]; simp, fun m' hm => by cases hm⟩
        | true => exact ⟨(numV a, numV b, numV c), by simp only [Bool.not_true, oite_f, obndS_l, obnd_s, Bool.and_self, cond_true, cond_false]; rw [fin]; simp, fun m' hm => by cases hm; rfl⟩
  · have h3 : ieq (((w.map eS).length : Nat) : Int) 3 = false := ieq_f' (by simp; omega)
    rw [nums_no hl]
    refine ⟨(0, 0, 0), ?_, fun m' hm => by cases hm⟩
    simp only [h1, h2, hx, oite_t, oite_f, ogrd_t, obnd_s, f382_w hs, hw, Bool.not_false, h3]
    rw [fin]; simp
theorem loop462 {r : List ByteArray} (hr : r.length ≤ 1000) (hs : ∀ z, z ∈ r → z.size ≤ 999) : ∀ (k i : Nat) (ok : Bool) (A : List Md), i + k = r.length → A.length = i →
    ∃ B, oloop (l462 r) (ok, (i : Int), A) = some (ok && (allO ((r.drop i).map modeOf)).isSome, A ++ B) ∧ ∀ M, allO ((r.drop i).map modeOf) = some M → B = M
  | 0, i, ok, A, hi, hA => by
    rw [List.drop_eq_nil_of_le (by omega)]
    refine ⟨[], oloop_done ?_, fun M hM => by cases hM; rfl⟩
    unfold l462
    simp only [ilt_f (show ((r.map eS).length : Int) ≤ (i : Int) by simp; omega), oite_f]
    simp [allO]
  | k + 1, i, ok, A, hi, hA => by
    have hi2 : i < r.length := by omega
    obtain ⟨m, h1, h2⟩ := l462_t hi2 hr (hs _ (List.getElem_mem hi2)) (A := A) (by omega) ok
    obtain ⟨B, h3, h4⟩ := loop462 hr hs k (i + 1) (ok && (modeOf r[i]).isSome) (A ++ [m]) (by omega) (by simp; omega)
    refine ⟨m :: B, ?_, fun M hM => ?_⟩
    · rw [oloop_step h1, h3, List.drop_eq_getElem_cons hi2]
      simp only [List.map_cons]
      cases hm : modeOf r[i] with
      | none => simp [allO]
      | some m' => simp [allO]
    · rw [List.drop_eq_getElem_cons hi2] at hM
      simp only [List.map_cons] at hM
      cases hm : modeOf r[i] with
      | none => rw [hm] at hM; cases hM
      | some m' =>
        rw [hm] at hM
        simp only [allO, Option.map_eq_some_iff] at hM
        obtain ⟨M', h5, rfl⟩ := hM
        rw [h4 M' h5, h2 m' hm]
theorem loop463 {r : List ByteArray} (hr : r.length ≤ 1000) (hs : ∀ z, z ∈ r → z.size ≤ 999) : ∀ (k i : Nat) (ok : Bool) (A : List Hr), i + k = r.length → A.length = i →
    ∃ B, oloop (l463 r) (ok, (i : Int), A) = some (ok && (allO ((r.drop i).map hourOf)).isSome, A ++ B) ∧ ∀ M, allO ((r.drop i).map hourOf) = some M → B = M
  | 0, i, ok, A, hi, hA => by
    rw [List.drop_eq_nil_of_le (by omega)]
    refine ⟨[], oloop_done ?_, fun M hM => by cases hM; rfl⟩
    unfold l463
    simp only [ilt_f (show ((r.map eS).length : Int) ≤ (i : Int) by simp; omega), oite_f]
    simp [allO]
  | k + 1, i, ok, A, hi, hA => by
    have hi2 : i < r.length := by omega
    obtain ⟨m, h1, h2⟩ := l463_t hi2 hr (hs _ (List.getElem_mem hi2)) (A := A) (by omega) ok
    obtain ⟨B, h3, h4⟩ := loop463 hr hs k (i + 1) (ok && (hourOf r[i]).isSome) (A ++ [m]) (by omega) (by simp; omega)
    refine ⟨m :: B, ?_, fun M hM => ?_⟩
    · rw [oloop_step h1, h3, List.drop_eq_getElem_cons hi2]
      simp only [List.map_cons]
      cases hm : hourOf r[i] with
      | none => simp [allO]
      | some m' => simp [allO]
    · rw [List.drop_eq_getElem_cons hi2] at hM
      simp only [List.map_cons] at hM
      cases hm : hourOf r[i] with
      | none => rw [hm] at hM; cases hM
      | some m' =>
        rw [hm] at hM
        simp only [allO, Option.map_eq_some_iff] at hM
        obtain ⟨M', h5, rfl⟩ := hM
        rw [h4 M' h5, h2 m' hm]
theorem p462_e {x : ByteArray} {r : List ByteArray} (hs : x.size ≤ 999) : ∃ lo hi, p462 (x :: r) = some ((nums (wds 32 x) 2 2).isSome, lo, hi) ∧ ∀ l, nums (wds 32 x) 2 2 = some l → l = [lo, hi] := by
  have hsz := wds_sz (c := 32) hs
  have h0 : (x :: r)[(0 : Int).toNat]? = some x := rfl
  unfold p462
  generalize hw : wds 32 x = w at hsz
  by_cases hl : w.length = 2
  · obtain ⟨a, b, rfl⟩ := two' hl
    have ha := hsz a (by simp)
    have hb := hsz b (by simp)
    have h3 : ieq ((([a, b] : List ByteArray).map eS).length : Int) 2 = true := rfl
    rw [nums_2, decide_eq_false (show ¬ 2 ≤ 0 by omega), decide_eq_false (show ¬ 2 ≤ 1 by omega)]
    simp only [h0, oite_t, oite_f, obnd_s, f382_w hs, hw, Bool.not_true, h3, show ([a, b] : List ByteArray)[(0 : Int).toNat]? = some a from rfl, show ([a, b] : List ByteArray)[(1 : Int).toNat]? = some b from rfl, f394_e ha, f394_e hb, chk_f]
    cases numB a 7 false with
    | false => exact ⟨0, 0, rfl, fun l hl => by cases hl⟩
    | true =>
      cases numB b 7 false with
      | false => exact ⟨numV a, 0, rfl, fun l hl => by cases hl⟩
      | true => exact ⟨numV a, numV b, rfl, fun l hl => by cases hl; rfl⟩
  · have h3 : ieq (((w.map eS).length : Nat) : Int) 2 = false := ieq_f' (by simp; omega)
    rw [nums_no hl]
    refine ⟨0, 0, ?_, fun l hl => by cases hl⟩
    simp only [h0, oite_t, obnd_s, f382_w hs, hw, Bool.not_false, h3]
    rfl
theorem p463_e {x : ByteArray} {r : List ByteArray} (hs : x.size ≤ 999) : ∃ v m w, p463 (x :: r) = some ((nums (wds 32 x) 3 2).isSome, v, m, w) ∧ ∀ l, nums (wds 32 x) 3 2 = some l → l = [v, m, w] := by
  have hsz := wds_sz (c := 32) hs
  have h0 : (x :: r)[(0 : Int).toNat]? = some x := rfl
  unfold p463
  generalize hw : wds 32 x = w at hsz
  by_cases hl : w.length = 3
  · obtain ⟨a, b, c, rfl⟩ := three' hl
    have ha := hsz a (by simp)
    have hb := hsz b (by simp)
    have hc := hsz c (by simp)
    have h3 : ieq ((([a, b, c] : List ByteArray).map eS).length : Int) 3 = true := rfl
    rw [nums_3, decide_eq_false (show ¬ 2 ≤ 0 by omega), decide_eq_false (show ¬ 2 ≤ 1 by omega), decide_eq_true (show 2 ≤ 2 by omega)]
    simp only [h0, oite_t, oite_f, obnd_s, f382_w hs, hw, Bool.not_true, h3, show ([a, b, c] : List ByteArray)[(0 : Int).toNat]? = some a from rfl, show ([a, b, c] : List ByteArray)[(1 : Int).toNat]? = some b from rfl, show ([a, b, c] : List ByteArray)[(2 : Int).toNat]? = some c from rfl, f394_e ha, f394_e hb, f394_e hc, chk_f, chk_t]
    cases numB a 7 false with
    | false => exact ⟨0, 0, 0, rfl, fun l hl => by cases hl⟩
    | true =>
      cases numB b 7 false with
      | false => exact ⟨numV a, 0, 0, rfl, fun l hl => by cases hl⟩
      | true =>
        cases numB c 7 true with
        | false => exact ⟨numV a, numV b, 0, rfl, fun l hl => by cases hl⟩
        | true => exact ⟨numV a, numV b, numV c, rfl, fun l hl => by cases hl; rfl⟩
  · have h3 : ieq (((w.map eS).length : Nat) : Int) 3 = false := ieq_f' (by simp; omega)
    rw [nums_no hl]
    refine ⟨0, 0, 0, ?_, fun l hl => by cases hl⟩
    simp only [h0, oite_t, obnd_s, f382_w hs, hw, Bool.not_false, h3]
    rfl
theorem f462_e {s : ByteArray} (hs : s.size ≤ 999) : f462 s = some (outP (plantOf s)) := by
  have h0 : ilt (60000 : Int) (s.size : Int) = false := by rw [ilt_eq]; exact decide_eq_false (by omega)
  have h382s : f382 s ⟨#[59]⟩ = some (wds 59 s) := f382_e (c := 59) (by omega)
  obtain ⟨x, r, hx⟩ := wds_ne 59 s
  have hsz := wds_sz (c := 59) hs
  have hcn := wds_cnt (c := 59) (s := s)
  have hx0 := hsz x (by rw [hx]; simp)
  have hms := fun M h => @mode_sz s 999 hs M h
  unfold f462 plantOf
  rw [hx] at hsz hcn hms h382s ⊢
  rw [List.length_cons] at hcn
  obtain ⟨lo, hi, hp, hp2⟩ := p462_e (r := r) hx0
  obtain ⟨B, hl, hl2⟩ := loop462 (r := r) (by omega) (fun z hz => hsz z (by simp [hz])) r.length 0 ((nums (wds 32 x) 2 2).isSome) [] (by omega) rfl
  rw [List.drop_zero] at hl hl2
  have ho : oslL (x :: r) 1 = some r := by unfold oslL; rw [if_pos (by simp; omega)]; rfl
  unfold l462 at hl
  unfold p462 at hp
  rw [h0, oite_f, h382s, obnd_s, hp, obnd_s, ho, obnd_s]
  rw [show ((0 : Nat) : Int) = (0 : Int) from rfl] at hl
  rw [hl, obnd_s, getD0, List.drop_one, List.tail_cons]
  rw [List.drop_one, List.tail_cons] at hms
  cases hn : nums (wds 32 x) 2 2 with
  | none => rfl
  | some l =>
    obtain rfl := hp2 l hn
    cases hM : allO (r.map modeOf) with
    | none => rfl
    | some M =>
      obtain rfl := hl2 M hM
      have hM1 := allO_len hM
      rw [List.length_map] at hM1
      have hM2 := hms B hM
      have h249 : f249 lo hi B = some (ckP lo hi B) := f249_e (by omega) (fun p hp => by have := hM2 p hp; omega)
      simp only [Option.isSome_some, Bool.and_self, Bool.not_true, oite_f, List.nil_append, h249, obnd_s, ieq_eq, oite_ss]
      show some _ = some (bif decide ((ckP lo hi B).2 = 0) then (lo, hi, B, 0) else (0, 0, [], (ckP lo hi B).2))
      cases decide ((ckP lo hi B).2 = 0) <;> rfl
theorem f463_e {s : ByteArray} (hs : s.size ≤ 999) : f463 s = some (outT (taskOf s)) := by
  have h0 : ilt (60000 : Int) (s.size : Int) = false := by rw [ilt_eq]; exact decide_eq_false (by omega)
  have h382s : f382 s ⟨#[59]⟩ = some (wds 59 s) := f382_e (c := 59) (by omega)
  obtain ⟨x, r, hx⟩ := wds_ne 59 s
  have hsz := wds_sz (c := 59) hs
  have hcn := wds_cnt (c := 59) (s := s)
  have hx0 := hsz x (by rw [hx]; simp)
  unfold f463 taskOf
  rw [hx] at hsz hcn h382s ⊢
  rw [List.length_cons] at hcn
  obtain ⟨v, m, w, hp, hp2⟩ := p463_e (r := r) hx0
  obtain ⟨B, hl, hl2⟩ := loop463 (r := r) (by omega) (fun z hz => hsz z (by simp [hz])) r.length 0 ((nums (wds 32 x) 3 2).isSome) [] (by omega) rfl
  rw [List.drop_zero] at hl hl2
  have ho : oslL (x :: r) 1 = some r := by unfold oslL; rw [if_pos (by simp; omega)]; rfl
  unfold l463 at hl
  unfold p463 at hp
  rw [h0, oite_f, h382s, obnd_s, hp, obnd_s, ho, obnd_s]
  rw [show ((0 : Nat) : Int) = (0 : Int) from rfl] at hl
  rw [hl, obnd_s, getD0, List.drop_one, List.tail_cons]
  cases hn : nums (wds 32 x) 3 2 with
  | none => rfl
  | some l =>
    obtain rfl := hp2 l hn
    cases hM : allO (r.map hourOf) with
    | none => rfl
    | some M =>
      obtain rfl := hl2 M hM
      rfl
end
section
set_option linter.unusedSimpArgs false
set_option linter.unusedVariables false
open Go Go.RowKit
theorem size_mk (l : List UInt8) : (mkB l).size = l.length := by show l.toArray.size = _; simp
theorem ble_t {n m : Nat} (h : n ≤ m) : Nat.ble n m = true := by rw [Nat.ble_eq]; exact h
theorem mkB_app (a b : List UInt8) : mkB a ++ mkB b = mkB (a ++ b) := by
 show (⟨a.toArray⟩ : ByteArray) ++ ⟨b.toArray⟩ = ⟨(a ++ b).toArray⟩
 rw [ByteArray.mk_append_mk]
def is64 (n : Int) : Prop := -9223372036854775808 ≤ n ∧ n ≤ 9223372036854775807
theorem itoa_len {n : Int} (h : is64 n) : (Lib.itoa n).length ≤ 21 := by
 unfold is64 at h
 by_cases h0 : n < 0
 · rw [itoa_neg h0, List.length_cons]; have := digs_le (m := n.natAbs) (by omega); omega
 · rw [itoa_nn h0]; have := digs_le (m := n.natAbs) (by omega); omega
theorem f385_e {n : Int} (h : is64 n) : f385 n = some (mkB (Lib.itoa n)) := by
 unfold f385
 rw [show in64 n = true from decide_eq_true h]; rfl
theorem f384_e {l : List ByteArray} {sep : ByteArray} {r : List UInt8} (h : Lib.join (l.map (·.data.toList)) sep.data.toList = r) (hl : l.length ≤ 1000) (hr : r.length ≤ 100000) : f384 l sep = some (mkB r) := by
 subst h
 unfold f384
 rw [decide_eq_true ⟨by omega, by omega⟩]; rfl
def tl (l : List (List UInt8)) : List UInt8 := Lib.joinTail [59] l
theorem tl_cons (l : List (List UInt8)) (x : List UInt8) : tl (x :: l) = 59 :: (x ++ tl l) := by simp [tl, Lib.joinTail]
theorem tl_len (N : Nat) : ∀ (l : List (List UInt8)), (∀ x, x ∈ l → x.length ≤ N) → (tl l).length ≤ l.length * (N + 1)
  | [], _ => by simp [tl, Lib.joinTail]
  | x :: r, h => by
    have h1 := tl_len N r (fun y hy => h y (by simp [hy]))
    have h2 := h x (by simp)
    rw [tl_cons, List.length_cons, List.length_append, List.length_cons, Nat.succ_mul]
    omega
def w2 (a b : Int) : List UInt8 := Lib.itoa a ++ 32 :: Lib.itoa b
def w3 (a b c : Int) : List UInt8 := Lib.itoa a ++ 32 :: (Lib.itoa b ++ 32 :: Lib.itoa c)
theorem w2_len {a b : Int} (ha : is64 a) (hb : is64 b) : (w2 a b).length ≤ 43 := by
 have h1 := itoa_len ha; have h2 := itoa_len hb; unfold w2; simp; omega
theorem w3_len {a b c : Int} (ha : is64 a) (hb : is64 b) (hc : is64 c) : (w3 a b c).length ≤ 65 := by
 have h1 := itoa_len ha; have h2 := itoa_len hb; have h3 := itoa_len hc; unfold w3; simp; omega
theorem f471_e {l : List Int} (hl : l.length ≤ 10) (hi : ∀ x, x ∈ l → is64 x) {r : List UInt8} (h : Lib.join (l.map Lib.itoa) [32] = r) (hr : r.length ≤ 100000) : f471 l = some (mkB r) := by
 unfold f471
 rw [oloop_all (fun i => ((l.take i).map (fun n => mkB (Lib.itoa n)), (i : Int))) l.length (r := l.map (fun n => mkB (Lib.itoa n))) (e0 := (([] : List ByteArray), (0 : Int))) rfl ?_ ?_]
 · rw [obnd_s, f384_e (r := r) (by rw [List.map_map]; exact h) (by simp; omega) hr, obnd_s]
 · intro i hi2
   have h5 := f385_e (hi l[i] (List.getElem_mem hi2))
   simp (disch := omega) only [obnd_s, obnd_n, oite_ss, oite_t, oite_f, ogrd_t, ogrd_f, obndS_l, obndS_r, ilt_eq, ile_eq, ieq_eq, imax_e, imin_e, k0, k1, k2, k3, k4, k5, k6, k7, k8, k9, reduceIte, k10, k11, k12, k13, k14, k15, k16, k17, k18, k19, k20, k21, k22, k23, k24, k25, k26, k27, k28, hi2, get_i hi2, h5, wr]
   rw [ogrd_fits (by simp; omega) (by simp; omega), List.take_succ_eq_append_getElem hi2]
   simp only [List.map_append, List.map_cons, List.map_nil]
   rfl
 · simp only [List.length_map, List.take_length]; simp (disch := omega) only [obnd_s, obnd_n, oite_ss, oite_t, oite_f, ogrd_t, ogrd_f, obndS_l, obndS_r, ilt_eq, ile_eq, ieq_eq, imax_e, imin_e, k0, k1, k2, k3, k4, k5, k6, k7, k8, k9, reduceIte, k10, k11, k12, k13, k14, k15, k16, k17, k18, k19, k20, k21, k22, k23, k24, k25, k26, k27, k28, Int.lt_irrefl]
theorem f471_2 {a b : Int} (ha : is64 a) (hb : is64 b) : f471 [a, b] = some (mkB (w2 a b)) :=
 f471_e (by simp) (by intro x hx; simp at hx; rcases hx with rfl | rfl <;> assumption) (by simp [Lib.join_cons, Lib.joinTail, w2]) (by have := w2_len ha hb; omega)
theorem f471_3 {a b c : Int} (ha : is64 a) (hb : is64 b) (hc : is64 c) : f471 [a, b, c] = some (mkB (w3 a b c)) :=
 f471_e (by simp) (by intro x hx; simp at hx; rcases hx with rfl | rfl | rfl <;> assumption) (by simp [Lib.join_cons, Lib.joinTail, w3]) (by have := w3_len ha hb hc; omega)
def partM (m : Md) : List UInt8 := m.1.data.toList ++ 32 :: w3 m.2.1 m.2.2.1 m.2.2.2
def partH (h : Hr) : List UInt8 := w3 h.1 h.2.1 h.2.2
def fmtP (lo hi : Int) (M : List Md) : List UInt8 := w2 lo hi ++ tl (M.map partM)
def fmtT (v m w : Int) (H : List Hr) : List UInt8 := w3 v m w ++ tl (H.map partH)
structure fitP (lo hi : Int) (M : List Md) : Prop where
 lo : is64 lo
 hi : is64 hi
 n : M.length ≤ 7
 s : ∀ p, p ∈ M → p.1.size ≤ 20
 i : ∀ p, p ∈ M → is64 p.2.1 ∧ is64 p.2.2.1 ∧ is64 p.2.2.2
structure fitT (v m w : Int) (H : List Hr) : Prop where
 v : is64 v
 m : is64 m
 w : is64 w
 n : H.length ≤ 12
 i : ∀ p, p ∈ H → is64 p.1 ∧ is64 p.2.1 ∧ is64 p.2.2
theorem partM_len {lo hi : Int} {M : List Md} (F : fitP lo hi M) : ∀ x, x ∈ M.map partM → x.length ≤ 86 := by
 intro x hx
 obtain ⟨p, hp, rfl⟩ := List.mem_map.1 hx
 obtain ⟨h1, h2, h3⟩ := F.i p hp
 have := w3_len h1 h2 h3
 have := F.s p hp
 have := size_l p.1
 unfold partM; simp; omega
theorem partH_len {v m w : Int} {H : List Hr} (F : fitT v m w H) : ∀ x, x ∈ H.map partH → x.length ≤ 65 := by
 intro x hx
 obtain ⟨p, hp, rfl⟩ := List.mem_map.1 hx
 obtain ⟨h1, h2, h3⟩ := F.i p hp
 have := w3_len h1 h2 h3
 unfold partH; omega
theorem fmtP_len {lo hi : Int} {M : List Md} (F : fitP lo hi M) : (fmtP lo hi M).length ≤ 700 := by
 have h1 := tl_len 86 _ (partM_len F)
 have h2 := w2_len F.lo F.hi
 have := F.n
 rw [List.length_map] at h1
 unfold fmtP; rw [List.length_append]; omega
theorem fmtT_len {v m w : Int} {H : List Hr} (F : fitT v m w H) : (fmtT v m w H).length ≤ 900 := by
 have h1 := tl_len 65 _ (partH_len F)
 have h2 := w3_len F.v F.m F.w
 have := F.n
 rw [List.length_map] at h1
 unfold fmtT; rw [List.length_append]; omega
theorem f460_e {lo hi : Int} {M : List Md} (F : fitP lo hi M) : f460 lo hi M = some (mkB (fmtP lo hi M)) := by
 have e32 : (⟨#[32]⟩ : ByteArray) = mkB [32] := rfl
 unfold f460
 rw [f471_2 F.lo F.hi, obnd_s, e32]
 have hn := F.n
 rw [oloop_all (fun i => (mkB (w2 lo hi) :: (M.take i).map (fun p => mkB (partM p)), (i : Int))) M.length (r := mkB (w2 lo hi) :: M.map (fun p => mkB (partM p))) (e0 := ([mkB (w2 lo hi)], (0 : Int))) rfl ?_ ?_]
 · rw [obnd_s, f384_e (r := fmtP lo hi M) (by
    simp only [List.map_cons, List.map_map]
    rw [Lib.join_cons]
    rfl) (by simp; omega) (by have := fmtP_len F; omega), obnd_s]
 · intro i hi2
   have hp := List.getElem_mem hi2
   obtain ⟨i1, i2, i3⟩ := F.i M[i] hp
   have h3 := w3_len i1 i2 i3
   have hs := F.s M[i] hp
   have hsl := size_l M[i].1
   have hx := f471_3 i1 i2 i3
   have ha : M[i].1 ++ mkB [32] = mkB (M[i].1.data.toList ++ [32]) := mkB_app M[i].1.data.toList [32]
   simp (disch := omega) only [obnd_s, obnd_n, oite_ss, oite_t, oite_f, ogrd_t, ogrd_f, obndS_l, obndS_r, ilt_eq, ile_eq, ieq_eq, imax_e, imin_e, k0, k1, k2, k3, k4, k5, k6, k7, k8, k9, reduceIte, k10, k11, k12, k13, k14, k15, k16, k17, k18, k19, k20, k21, k22, k23, k24, k25, k26, k27, k28, hi2, get_i hi2, hx, wr, ha, mkB_app]
   rw [ble_t (by simp [size_mk]; omega), ogrd_t, ble_t (by simp [size_mk]; omega), ogrd_t, ogrd_fits (by simp; omega) (by simp; omega), List.take_succ_eq_append_getElem hi2]
   simp only [List.map_append, List.map_cons, List.map_nil]
   have : M[i].1.data.toList ++ [32] ++ w3 M[i].2.1 M[i].2.2.1 M[i].2.2.2 = partM M[i] := by unfold partM; simp
   rw [this]; rfl
 · simp only [List.length_map, List.take_length]; simp (disch := omega) only [obnd_s, obnd_n, oite_ss, oite_t, oite_f, ogrd_t, ogrd_f, obndS_l, obndS_r, ilt_eq, ile_eq, ieq_eq, imax_e, imin_e, k0, k1, k2, k3, k4, k5, k6, k7, k8, k9, reduceIte, k10, k11, k12, k13, k14, k15, k16, k17, k18, k19, k20, k21, k22, k23, k24, k25, k26, k27, k28, Int.lt_irrefl]
theorem f461_e {v m w : Int} {H : List Hr} (F : fitT v m w H) : f461 v m w H = some (mkB (fmtT v m w H)) := by
 unfold f461
 rw [f471_3 F.v F.m F.w, obnd_s]
 have hn := F.n
 rw [oloop_all (fun i => (mkB (w3 v m w) :: (H.take i).map (fun p => mkB (partH p)), (i : Int))) H.length (r := mkB (w3 v m w) :: H.map (fun p => mkB (partH p))) (e0 := ([mkB (w3 v m w)], (0 : Int))) rfl ?_ ?_]
 · rw [obnd_s, f384_e (r := fmtT v m w H) (by
    simp only [List.map_cons, List.map_map]
    rw [Lib.join_cons]
    rfl) (by simp; omega) (by have := fmtT_len F; omega), obnd_s]
 · intro i hi2
   have hp := List.getElem_mem hi2
   obtain ⟨i1, i2, i3⟩ := F.i H[i] hp
   have hx := f471_3 i1 i2 i3
   simp (disch := omega) only [obnd_s, obnd_n, oite_ss, oite_t, oite_f, ogrd_t, ogrd_f, obndS_l, obndS_r, ilt_eq, ile_eq, ieq_eq, imax_e, imin_e, k0, k1, k2, k3, k4, k5, k6, k7, k8, k9, reduceIte, k10, k11, k12, k13, k14, k15, k16, k17, k18, k19, k20, k21, k22, k23, k24, k25, k26, k27, k28, hi2, get_i hi2, hx, wr]
   rw [ogrd_fits (by simp; omega) (by simp; omega), List.take_succ_eq_append_getElem hi2]
   simp only [List.map_append, List.map_cons, List.map_nil]
   rfl
 · simp only [List.length_map, List.take_length]; simp (disch := omega) only [obnd_s, obnd_n, oite_ss, oite_t, oite_f, ogrd_t, ogrd_f, obndS_l, obndS_r, ilt_eq, ile_eq, ieq_eq, imax_e, imin_e, k0, k1, k2, k3, k4, k5, k6, k7, k8, k9, reduceIte, k10, k11, k12, k13, k14, k15, k16, k17, k18, k19, k20, k21, k22, k23, k24, k25, k26, k27, k28, Int.lt_irrefl]
end
section
set_option linter.unusedSimpArgs false
set_option linter.unusedVariables false
open Go Go.RowKit
theorem spl_tl {c : UInt8} (hc : c = 59) : ∀ (l : List (List UInt8)) (p : List UInt8), c ∉ p → (∀ x, x ∈ l → c ∉ x) → spl c (p ++ tl l) = p :: l
  | [], p, h, _ => by simp [tl, Lib.joinTail, spl_no h]
  | x :: l, p, h, hl => by
    have ih := spl_tl hc l x (hl x (by simp)) (fun y hy => hl y (by simp [hy]))
    rw [tl_cons, ← hc, spl_app h, ih]
theorem no_i (v : Int) : (32 : UInt8) ∉ Lib.itoa v ∧ (59 : UInt8) ∉ Lib.itoa v := ⟨itoa_no v 32 (by decide) (by decide), itoa_no v 59 (by decide) (by decide)⟩
theorem wds_2 (a b : Int) : wds 32 (mkB (w2 a b)) = [mkB (Lib.itoa a), mkB (Lib.itoa b)] := by
 show (spl 32 (w2 a b)).map mkB = _
 unfold w2
 rw [spl_app (no_i a).1, spl_no (no_i b).1]; rfl
theorem spl_3 (a b c : Int) : spl 32 (w3 a b c) = [Lib.itoa a, Lib.itoa b, Lib.itoa c] := by
 unfold w3
 rw [spl_app (no_i a).1, spl_app (no_i b).1, spl_no (no_i c).1]
theorem wds_3 (a b c : Int) : wds 32 (mkB (w3 a b c)) = [mkB (Lib.itoa a), mkB (Lib.itoa b), mkB (Lib.itoa c)] := by
 show (spl 32 (w3 a b c)).map mkB = _
 rw [spl_3]; rfl
theorem num7 {v : Int} {b : Bool} (h : -1000000 ≤ v ∧ v ≤ 1000000) (hb : b = true ∨ 0 ≤ v) : numB (mkB (Lib.itoa v)) 7 b = true ∧ numV (mkB (Lib.itoa v)) = v :=
 num_t ⟨rfl, by rw [Lib.decDigits_length]; have := ndig_le 6 v.natAbs (by omega); omega⟩ (by omega) hb
theorem name_no {s : ByteArray} (h : nameB s = true) : (32 : UInt8) ∉ s.data.toList ∧ (59 : UInt8) ∉ s.data.toList ∧ emp s = false := by
 unfold nameB at h
 simp only [Bool.and_eq_true, decide_eq_true_eq, Option.isNone_iff_eq_none] at h
 obtain ⟨⟨h1, h2⟩, h3⟩ := h
 have hb : ∀ i, i < s.size → badC i (s.data.toList.getD i 0).toNat = false := fun i hi => by
   have := scanF_none h3 i (Nat.zero_le _) (by omega)
   cases hd : badC i (s.data.toList.getD i 0).toNat with
   | true => rw [hd] at this; cases this
   | false => rfl
 have hl := size_l s
 refine ⟨fun hx => ?_, fun hx => ?_, ?_⟩
 · obtain ⟨i, hi, e⟩ := List.getElem_of_mem hx
   have h0 := hb i (by omega)
   rw [getD_i hi, e] at h0
   cases i <;> (simp [badC, letC] at h0)
 · obtain ⟨i, hi, e⟩ := List.getElem_of_mem hx
   have h0 := hb i (by omega)
   rw [getD_i hi, e] at h0
   cases i <;> (simp [badC, letC] at h0)
 · unfold emp
   rw [Bool.eq_false_iff]
   intro e
   have e := eq_of_beq e
   rw [Lib.toList_data] at e
   rw [e] at hl
   have : (⟨#[]⟩ : ByteArray).toList.length = 0 := by rw [Lib.toList_data]; rfl
   omega
theorem w3_no (a b c : Int) : (59 : UInt8) ∉ w3 a b c := by
 have h1 := (no_i a).2; have h2 := (no_i b).2; have h3 := (no_i c).2
 unfold w3; simp [h1, h2, h3]
theorem w2_no (a b : Int) : (59 : UInt8) ∉ w2 a b := by
 have h1 := (no_i a).2; have h2 := (no_i b).2
 unfold w2; simp [h1, h2]
theorem modeOf_b {m : Md} (hn : nameB m.1 = true) (h1 : -10000 ≤ m.2.1 ∧ m.2.1 ≤ 10000) (h2 : -10000 ≤ m.2.2.1 ∧ m.2.2.1 ≤ 10000) (h3 : 0 ≤ m.2.2.2 ∧ m.2.2.2 ≤ 10000) : modeOf (mkB (partM m)) = some m := by
 obtain ⟨n1, _, n3⟩ := name_no hn
 have hw : wds 32 (mkB (partM m)) = [m.1, mkB (Lib.itoa m.2.1), mkB (Lib.itoa m.2.2.1), mkB (Lib.itoa m.2.2.2)] := by
  show (spl 32 (partM m)).map mkB = _
  unfold partM
  rw [spl_app n1, spl_3]; rfl
 have a1 := num7 (b := true) (v := m.2.1) (by omega) (.inl rfl)
 have a2 := num7 (b := true) (v := m.2.2.1) (by omega) (.inl rfl)
 have a3 := num7 (b := true) (v := m.2.2.2) (by omega) (.inl rfl)
 have e : ∀ n : Nat, decide (0 ≤ n) = true := fun n => decide_eq_true (Nat.zero_le n)
 unfold modeOf
 rw [hw, List.drop_one, List.tail_cons, nums_3, e, e, e, a1.1, a2.1, a3.1, a1.2, a2.2, a3.2, getD0, n3]
 rfl
theorem hourOf_b {h : Hr} (h1 : -10000 ≤ h.1 ∧ h.1 ≤ 10000) (h2 : -10000 ≤ h.2.1 ∧ h.2.1 ≤ 10000) (h3 : -10000 ≤ h.2.2 ∧ h.2.2 ≤ 10000) : hourOf (mkB (partH h)) = some h := by
 have a1 := num7 (b := true) (v := h.1) (by omega) (.inl rfl)
 have a2 := num7 (b := true) (v := h.2.1) (by omega) (.inl rfl)
 have a3 := num7 (b := true) (v := h.2.2) (by omega) (.inl rfl)
 have e : ∀ n : Nat, decide (0 ≤ n) = true := fun n => decide_eq_true (Nat.zero_le n)
 unfold hourOf partH
 rw [wds_3, nums_3, e, e, e, a1.1, a2.1, a3.1, a1.2, a2.2, a3.2]
 rfl
theorem allO_map {α β : Type} {f : β → Option α} {g : α → β} : ∀ (l : List α), (∀ x, x ∈ l → f (g x) = some x) → allO ((l.map g).map f) = some l
  | [], _ => rfl
  | x :: l, h => by
    simp only [List.map_cons]
    rw [h x (by simp)]
    simp only [allO, allO_map l (fun y hy => h y (by simp [hy]))]
    rfl
theorem modE_n {M : List Md} {i : Nat} (h : modE M i = 0) : nameB (gm M i).1 = true := by
 unfold modE at h
 cases hb : nameB (gm M i).1 with
 | true => rfl
 | false => rw [hb] at h; cases h
theorem plant_back {lo hi : Int} {M : List Md} (h : (ckP lo hi M).2 = 0) : plantOf (mkB (fmtP lo hi M)) = some (lo, hi, M) := by
 obtain ⟨_, h1, h2⟩ := ckP_0 h
 obtain ⟨h3, _, _⟩ := pltE_0 h1
 have hm : ∀ p, p ∈ M → nameB p.1 = true ∧ (-10000 ≤ p.2.1 ∧ p.2.1 ≤ 10000) ∧ (-10000 ≤ p.2.2.1 ∧ p.2.2.1 ≤ 10000) ∧ (0 ≤ p.2.2.2 ∧ p.2.2.2 ≤ 10000) := fun p hp => by
  obtain ⟨i, hi, rfl⟩ := List.getElem_of_mem hp
  have h4 := h2 i hi
  have h5 := modE_n h4
  have h6 := modE_0 h4
  have e : gm M i = M[i] := getD_i hi
  rw [e] at h5 h6
  exact ⟨h5, h6⟩
 have hw : wds 59 (mkB (fmtP lo hi M)) = mkB (w2 lo hi) :: (M.map fun m => mkB (partM m)) := by
  show (spl 59 (fmtP lo hi M)).map mkB = _
  unfold fmtP
  rw [spl_tl rfl _ _ (w2_no lo hi) (fun x hx => by
   obtain ⟨p, hp, rfl⟩ := List.mem_map.1 hx
   have h5 := (name_no (hm p hp).1).2.1
   have h6 := w3_no p.2.1 p.2.2.1 p.2.2.2
   unfold partM; simp [h5, h6])]
  simp only [List.map_cons, List.map_map]
  rfl
 have a1 := num7 (b := false) (v := lo) (by omega) (.inr (by omega))
 have a2 := num7 (b := false) (v := hi) (by omega) (.inr (by omega))
 unfold plantOf
 rw [hw, getD0, List.drop_one, List.tail_cons, wds_2, nums_2, decide_eq_false (show ¬ 2 ≤ 0 by omega), decide_eq_false (show ¬ 2 ≤ 1 by omega), a1.1, a2.1, a1.2, a2.2,
  allO_map M fun p hp => modeOf_b (hm p hp).1 (hm p hp).2.1 (hm p hp).2.2.1 (hm p hp).2.2.2]
 rfl
theorem task_back {lo hi v m w : Int} {M : List Md} {H : List Hr} (h : (ckT lo hi M v m w H).2 = 0) : taskOf (mkB (fmtT v m w H)) = some (v, m, w, H) := by
 obtain ⟨_, k⟩ := ckT_0 h
 have k0 := k.lo0
 have k1 := k.hi1
 have k2 := k.vlo
 have k3 := k.vhi
 have k4 := k.m0
 have k5 := k.m1
 have k6 := k.mfew
 have k7 := k.w4
 have hh : ∀ p, p ∈ H → (-10000 ≤ p.1 ∧ p.1 ≤ 10000) ∧ (-10000 ≤ p.2.1 ∧ p.2.1 ≤ 10000) ∧ (-10000 ≤ p.2.2 ∧ p.2.2 ≤ 10000) := fun p hp => by
  obtain ⟨i, hi, rfl⟩ := List.getElem_of_mem hp
  have h4 := k.hour i hi
  have e : gh H i = H[i] := getD_i hi
  rw [e] at h4
  exact h4
 have hw : wds 59 (mkB (fmtT v m w H)) = mkB (w3 v m w) :: (H.map fun m => mkB (partH m)) := by
  show (spl 59 (fmtT v m w H)).map mkB = _
  unfold fmtT
  rw [spl_tl rfl _ _ (w3_no v m w) (fun x hx => by
   obtain ⟨p, hp, rfl⟩ := List.mem_map.1 hx
   exact w3_no _ _ _)]
  simp only [List.map_cons, List.map_map]
  rfl
 have a1 := num7 (b := false) (v := v) (by omega) (.inr (by omega))
 have a2 := num7 (b := false) (v := m) (by omega) (.inr (by omega))
 have a3 := num7 (b := true) (v := w) (by omega) (.inl rfl)
 unfold taskOf
 rw [hw, getD0, List.drop_one, List.tail_cons, wds_3, nums_3, decide_eq_false (show ¬ 2 ≤ 0 by omega), decide_eq_false (show ¬ 2 ≤ 1 by omega), decide_eq_true (show 2 ≤ 2 by omega), a1.1, a2.1, a3.1, a1.2, a2.2, a3.2,
  allO_map H fun p hp => hourOf_b (hh p hp).1 (hh p hp).2.1 (hh p hp).2.2]
 rfl
theorem ba_beq (x : ByteArray) : (x == x) = true := by
 obtain ⟨d⟩ := x
 first | (show (d == d) = true; exact beq_self_eq_true d) | (show decide ((⟨d⟩ : ByteArray) = ⟨d⟩) = true; simp)
theorem f468_r {lo hi : Int} {M : List Md} (h : M.length ≤ 10000) : f468 lo hi M lo hi M = some true := by
 unfold f468
 simp only [ieq_eq, decide_true, Bool.not_true, oite_f, obnd_s]
 rw [oloop_all (fun i => (i : Int)) M.length (r := .inl ()) (e0 := 0) rfl ?_ ?_]
 · rfl
 · intro i hi2
   have h1 : ilt (i : Int) ((M.map e_SIII).length : Int) = true := ilt_t (by simp; omega)
   have h2 : ile 0 (i : Int) = true := ile_t (by omega)
   have hx : M[((i : Int)).toNat]? = some M[i] := by rw [Int.toNat_natCast]; exact List.getElem?_eq_getElem hi2
   simp only [h1, h2, hx, oite_t, oite_f, ogrd_t, obnd_s, ba_beq, decide_true, Bool.and_self, Bool.not_true]
   rw [wr (by omega) (by omega)]; rfl
 · simp only [ilt_f (show ((M.map e_SIII).length : Int) ≤ (M.length : Int) by simp), oite_f]
theorem f469_r {v m w : Int} {H : List Hr} (h : H.length ≤ 10000) : f469 v m w H v m w H = some true := by
 unfold f469
 simp only [ieq_eq, decide_true, Bool.not_true, oite_f, obnd_s]
 rw [oloop_all (fun i => (i : Int)) H.length (r := .inl ()) (e0 := 0) rfl ?_ ?_]
 · rfl
 · intro i hi2
   have h1 : ilt (i : Int) ((H.map e_III).length : Int) = true := ilt_t (by simp; omega)
   have h2 : ile 0 (i : Int) = true := ile_t (by omega)
   have hx : H[((i : Int)).toNat]? = some H[i] := by rw [Int.toNat_natCast]; exact List.getElem?_eq_getElem hi2
   simp only [h1, h2, hx, oite_t, oite_f, ogrd_t, obnd_s, decide_true, Bool.and_self, Bool.not_true]
   rw [wr (by omega) (by omega)]; rfl
 · simp only [ilt_f (show ((H.map e_III).length : Int) ≤ (H.length : Int) by simp), oite_f]
end
section
set_option linter.unusedSimpArgs false
set_option linter.unusedVariables false
open Go Go.RowKit
theorem obndS_ok {x : Option (Unit ⊕ Bool)} {F : Unit → Option Bool} (hx : x = some (.inl ())) (hF : F () = some true) : obndS x F = some true := by rw [hx]; exact hF
theorem law459 {lo up v m w a7 : Int} {M : List Md} {H : List Hr} {P : List Int} (i1 : is64 lo) (i2 : is64 up) (i3 : ∀ p, p ∈ M → is64 p.2.1 ∧ is64 p.2.2.1 ∧ is64 p.2.2.2) (i4 : is64 v) (i5 : is64 m) (i6 : is64 w) (i7 : ∀ p, p ∈ H → is64 p.1 ∧ is64 p.2.1 ∧ is64 p.2.2) :
    f459 lo up M v m w H a7 P = some true := by
  unfold f459
  obtain ⟨b, hb, hsm⟩ := @f307_e lo up M
  have hA : f470 = some true := rfl
  rw [hA, hb, f308_e]
  cases b with
  | false => rfl
  | true =>
    obtain ⟨hM1, hM2⟩ := hsm rfl
    by_cases hH : ¬ H.length ≤ 12
    · rw [decide_eq_false hH]; rfl
    have hH := Decidable.of_not_not hH
    rw [decide_eq_true hH]
    have sM : ∀ p, p ∈ M → p.1.size < 4611686018427387904 := fun p hp => by have := hM2 p hp; omega
    have lM : M.length < 4611686018427387904 := by omega
    have h311 : f311 lo up M v m w H = some (ckT lo up M v m w H).2 := f311_e lM sM (by omega)
    by_cases h0 : ¬ (ckT lo up M v m w H).2 = 0
    · simp only [obnd_s, Bool.not_true, oite_f, h311, ieq_eq, decide_eq_false h0, Bool.not_false, oite_t]
    have h0 := Decidable.of_not_not h0
    have k := (ckT_0 h0).2
    by_cases hP : (10 : Int) < (P.length : Int)
    · simp only [obnd_s, Bool.not_true, oite_f, h311, h0, ieq_eq, ilt_eq, List.length_map, decide_true, decide_eq_true hP, oite_t]
    have FP : fitP lo up M := ⟨i1, i2, hM1, hM2, i3⟩
    have FT : fitT v m w H := ⟨i4, i5, i6, hH, i7⟩
    have sP : (mkB (fmtP lo up M)).size ≤ 999 := by rw [size_mk]; have := fmtP_len FP; omega
    have sT : (mkB (fmtT v m w H)).size ≤ 999 := by rw [size_mk]; have := fmtT_len FT; omega
    have q0 : (ckP lo up M).2 = 0 := (ckT_parts h0).1
    have q1 : f462 (mkB (fmtP lo up M)) = some (lo, up, M, 0) := by rw [f462_e sP, plant_back q0]; simp only [outP, q0, decide_true, cond_true]
    have q2 : f463 (mkB (fmtT v m w H)) = some (v, m, w, H, 0) := by rw [f463_e sT, task_back h0]; rfl
    have q3 := f468_r (lo := lo) (hi := up) (M := M) (by omega)
    have q4 := f469_r (v := v) (m := m) (w := w) (H := H) (by omega)
    have q5 : f309 lo up M = some (lo, up, M) := f309_e (by omega)
    simp only [obnd_s, Bool.not_true, oite_f, h311, h0, ieq_eq, ilt_eq, List.length_map, decide_true, decide_eq_false hP, q5, f310_e (v := v) (m := m) (w := w) (H := H) (by omega), f460_e FP, f461_e FT, q1, q2, q3, q4]
    rw [best_e h0 lM sM (by omega)]
    cases hy : opt lo up M H w (hdB lo up M H (-1) 0) H.length v m.toNat with
    | none => rfl
    | some y =>
      have hys : (opt lo up M H w (hdB lo up M H (-1) 0) H.length v m.toNat).isSome = true := by rw [hy]; rfl
      have hb1 := hdB_n (lo := lo) (up := up) (M := M) (H := H)
      have hl := best_len k hys
      have hbp := best_plM k hys
      have hpe := plE_of (P := bestP lo up M H v m w (hdB lo up M H (-1) 0)) h0 (best_pE k hys)
      have hyb := (pot_some k (Nat.le_refl _) k.vlo k.vhi hy)
      have hn := k.hfew; have hn0 := k.hpos
      have hvb : ∀ i, i ≤ H.length → inR lo up (vv M H v (bestP lo up M H v m w (hdB lo up M H (-1) 0)) i) = true := fun i hi => by
        cases i with
        | zero => unfold inR; simp [vv, k.vlo, k.vhi]
        | succ i => exact best_in k hys (by omega)
      have hvs := vsum_b k hl hbp
      have hbf : ∀ c, c ≤ H.length → ∃ j : Nat, j < M.length ∧ bef m (bestP lo up M H v m w (hdB lo up M H (-1) 0)) c = (j : Int) := fun c hc => by
        cases c with
        | zero => exact ⟨m.toNat, by have := k.m0; have := k.m1; omega, by have := k.m0; simp only [bef]; omega⟩
        | succ i => exact hbp i (by omega)
      have hbeg := fun c (hc : c ≤ H.length) X => best_begin (X := X) k hys hb1 hc
      have hadd := fun c (hc : c ≤ H.length) => best_add (hd' := hdB lo up M (H.drop c) (-1) 0) (v' := vv M H v (bestP lo up M H v m w (hdB lo up M H (-1) 0)) c) (m' := bef m (bestP lo up M H v m w (hdB lo up M H (-1) 0)) c) k hy hb1 hdB_n hc rfl rfl
      have hdrop := fun c (hc : c ≤ H.length) => best_drop (hd' := hdB lo up M (H.drop c) (-1) 0) (v' := vv M H v (bestP lo up M H v m w (hdB lo up M H (-1) 0)) c) (m' := bef m (bestP lo up M H v m w (hdB lo up M H (-1) 0)) c) k hys hb1 hdB_n hc rfl rfl
      generalize bestP lo up M H v m w (hdB lo up M H (-1) 0) = Q at *
      obtain ⟨u, hu, hun⟩ := f346_n a7 (n := (H.length : Int)) (by omega) (by omega)
      simp only [obnd_s, decide_true, Bool.not_true, oite_f]
      rw [f38_e (by omega), obnd_s, f322_e lM sM (by omega) (by omega), hpe]
      have hw1 : IntKind.i64.wrap ((H.length : Int) + 1) = (H.length : Int) + 1 := wr (by omega) (by omega)
      have hc : IntKind.i64.wrap (1 + (u : Int)) = ((u + 1 : Nat) : Int) := by rw [wr (by omega) (by omega)]; omega
      have hc1 : IntKind.i64.wrap (((u + 1 : Nat) : Int) - 1) = (u : Int) := by rw [wr (by omega) (by omega)]; omega
      have hc2 : IntKind.i64.wrap (((u + 1 : Nat) : Int) + 1) = ((u + 2 : Nat) : Int) := by rw [wr (by omega) (by omega)]; omega
      have t1 : oslH H ((u + 1 : Nat) : Int) = some (H.take (u + 1)) := oslH_n (by omega)
      have t2 : oslH Q ((u + 1 : Nat) : Int) = some (Q.take (u + 1)) := oslH_n (by omega)
      have t3 : oslL H ((u + 1 : Nat) : Int) = some (H.drop (u + 1)) := oslL_n (by omega)
      have t4 : oslL Q ((u + 1 : Nat) : Int) = some (Q.drop (u + 1)) := oslL_n (by omega)
      have hF : ∀ n : Nat, n ≤ 20 → fits 24 n = true := fun n hn => by unfold fits; simp; omega
      have hy1 : decide (-1000000000000 ≤ y) = true := decide_eq_true (by omega)
      have hy2 : decide (y ≤ 1000000000000) = true := decide_eq_true (by omega)
      have hdm : (decide (((vL M H v Q H.length).length : Int) = (H.length : Int) + 1)) = true := decide_eq_true (by rw [vL_len]; omega)
      have hdl : (decide ((Q.length : Int) = (H.length : Int))) = true := decide_eq_true (by omega)
      simp only [obnd_s, decide_true, cond_true, Bool.not_true, oite_f, hw1, hdm, hdl, f15_e, hy1, hy2, Bool.and_self, hu, hc, t1, t2, List.length_nil, Nat.zero_add, List.nil_append, hF (H.take (u + 1)).length (by rw [List.length_take]; omega), ogrd_t, q5]
      have hcH : u + 1 ≤ H.length := by omega
      have k' := ckT_take (c := u + 1) h0 (by omega) hcH
      have lT : (H.take (u + 1)).length = u + 1 := by rw [List.length_take]; omega
      have lQ : (Q.take (u + 1)).length = u + 1 := by rw [List.length_take]; omega
      have pT : plM M (Q.take (u + 1)) := fun i hi => by rw [lQ] at hi; rw [gi_tk hi]; exact hbp i (by omega)
      have vT : ∀ i, i ≤ u + 1 → vv M (H.take (u + 1)) v (Q.take (u + 1)) i = vv M H v Q i := fun i hi => vv_take i hi hi
      have bT : badV lo up M (H.take (u + 1)) v (Q.take (u + 1)) = false := by
        refine anyN_of_f fun i h1 h2 => ?_
        rw [vT i (by omega), hvb i (by omega)]; rfl
      have eT : pE lo up M (H.take (u + 1)) v (Q.take (u + 1)) = 0 := by
        unfold pE; rw [lQ, lT, decide_eq_true rfl, any_plM pT, bT]; rfl
      have vlT : valP M (H.take (u + 1)) v m 0 (Q.take (u + 1)) = vsum M H m Q (u + 1) := by
        unfold valP; rw [lT, vsum_take (n := u + 1) (u + 1) (Nat.le_refl _) (Nat.le_refl _)]; omega
      have hvsc := hvs (u + 1) hcH
      rw [f310_e (v := v) (m := m) (w := 0) (H := H.take (u + 1)) (by omega), obnd_s, f38_e (L := Q.take (u + 1)) (by omega), obnd_s, f323_e (H := H.take (u + 1)) (P := Q.take (u + 1)) lM sM (by omega) (by omega), plE_of k' eT, vlT]
      simp only [obnd_s, decide_true, cond_true, Bool.not_true, oite_f, decide_eq_true (show -1000000000000 ≤ vsum M H m Q (u + 1) by omega), decide_eq_true (show vsum M H m Q (u + 1) ≤ 1000000000000 by omega), Bool.and_self]
      have vg : (vL M H v Q H.length)[u + 1]? = some (vv M H v Q (u + 1)) := vL_get hcH
      have qg : Q[u]? = some (gi Q u) := get_gi (by omega)
      have l0 : ∀ n : Nat, ile 0 (n : Int) = true := fun n => ile_t (by omega)
      have hgr : ∀ x : Int, inR lo up x = true → lo ≤ x ∧ x ≤ up := fun x h => inR_p h
      obtain ⟨y2, hy2', hsum⟩ := hadd (u + 1) hcH
      have hQd := hdrop (u + 1) hcH
      obtain ⟨j, hj, hje⟩ := hbf (u + 1) hcH
      have hje' : gi Q u = (j : Int) := hje
      simp only [hc1, hc2, Int.toNat_natCast, vg, qg, l0, obnd_s, ogrd_t, t3, hF (H.drop (u + 1)).length (by rw [List.length_drop]; omega)]
      refine obndS_ok ?_ ?_
      · by_cases hcn : u + 1 < H.length
        · have hin := hgr _ (hvb (u + 1) hcH)
          have kd := ckT_drop (c := u + 1) (v' := vv M H v Q (u + 1)) (m' := gi Q u) h0 hcn hin.1 hin.2 (by omega) (by omega)
          have kk := (ckT_0 kd).2
          have hy2b := (pot_some kk (Nat.le_refl _) hin.1 hin.2 hy2').2
          have hld : (H.drop (u + 1)).length = H.length - (u + 1) := List.length_drop
          have hqd : (Q.drop (u + 1)).length = H.length - (u + 1) := by rw [List.length_drop, hl]
          have hy2'' : opt lo up M (H.drop (u + 1)) w (hdB lo up M (H.drop (u + 1)) (-1) 0) (H.drop (u + 1)).length (vv M H v Q (u + 1)) (gi Q u).toNat = some y2 := hy2'
          have hQd' : bestP lo up M (H.drop (u + 1)) (vv M H v Q (u + 1)) (gi Q u) w (hdB lo up M (H.drop (u + 1)) (-1) 0) = Q.drop (u + 1) := hQd
          rw [decide_eq_true (show ((u + 1 : Nat) : Int) < (H.length : Int) by omega), oite_t, f310_e (H := H.drop (u + 1)) (by omega), obnd_s, best_e kd lM sM (by omega), hy2'', hQd']
          have h345 : f345 lo up M (vv M H v Q (u + 1)) (gi Q u) w (H.drop (u + 1)) = some (ownL lo up M (H.drop (u + 1)) w, 0) := by rw [f345_e kd lM sM (by omega), hy2'']
          have hkk : few (ownL lo up M (H.drop (u + 1)) w) := own_few kk
          simp only [obnd_s, t4, h345, decide_true, Bool.not_true, oite_f, f26_refl (l := Q.drop (u + 1)) (by omega), decide_eq_true (show -1000000000000 ≤ y2 by omega), decide_eq_true (show y2 ≤ 1000000000000 by omega), Bool.and_self,
            wr (n := vsum M H m Q (u + 1) + y2) (by omega) (by omega), decide_eq_true hsum.symm]
          rw [f331_e lM sM (by omega) hkk, kd, ckB_ok (own_okL kk) (own_ok kk), own_v kk hy2'']
          simp only [obnd_s, decide_true, Bool.not_true, cond_false, oite_f]
        · rw [decide_eq_false (show ¬ ((u + 1 : Nat) : Int) < (H.length : Int) by omega), oite_f]
      · have kk' := (ckT_0 k').2
        show obnd (f327 lo up M v m 0 (H.take (u + 1)) P) _ = _
        rw [f327_e kk' (by omega), obnd_s]
        by_cases hX : pE lo up M (H.take (u + 1)) v P = 0
        · obtain ⟨x1, x2, x3⟩ := pE_0 hX
          rw [lT] at x1
          have hPt : P.take (u + 1) = P := List.take_of_length_le (by omega)
          have xb := badV_f kk' x3
          have hpX := plE_of k' hX
          have xv : ∀ i, i ≤ u + 1 → vv M (H.take (u + 1)) v P i = vv M H v P i := fun i hi => by
            have := vv_take (M := M) (H := H) (v := v) (P := P) (c := u + 1) (n := u + 1) i hi hi
            rwa [hPt] at this
          have xs : vsum M (H.take (u + 1)) m P (u + 1) = vsum M H m P (u + 1) := by
            have := vsum_take (M := M) (H := H) (m := m) (P := P) (c := u + 1) (n := u + 1) (u + 1) (Nat.le_refl _) (Nat.le_refl _)
            rwa [hPt] at this
          have vX : valP M (H.take (u + 1)) v m 0 P = vsum M H m P (u + 1) := by unfold valP; rw [lT, xs]; omega
          have xg : (vL M (H.take (u + 1)) v P (u + 1))[u + 1]? = some (vv M H v P (u + 1)) := by rw [vL_get (Nat.le_refl _), xv _ (Nat.le_refl _)]
          have pg : P[u]? = some (gi P u) := get_gi (by omega)
          have hlast := hbeg (u + 1) hcH P x1 x2 (fun i hi => by
            have := xb i (by omega)
            rw [xv i hi] at this
            unfold inR; rw [decide_eq_true this.1, decide_eq_true this.2]; rfl)
          have f38P : f38 P = some P := f38_e (by omega)
          have f322P : f322 lo up M v m 0 (H.take (u + 1)) P = some (vL M (H.take (u + 1)) v P (u + 1), 0) := by
            rw [f322_e (H := H.take (u + 1)) (P := P) lM sM (by omega) (by omega), hpX, lT]; rfl
          have f323P : f323 lo up M v m 0 (H.take (u + 1)) P = some (vsum M H m P (u + 1), 0) := by
            rw [f323_e (H := H.take (u + 1)) (P := P) lM sM (by omega) (by omega), hpX, vX]; rfl
          have f310T : f310 v m 0 (H.take (u + 1)) = some (v, m, 0, H.take (u + 1)) := f310_e (by omega)
          have hvl : decide (((vL M (H.take (u + 1)) v P (u + 1)).length : Int) = ((u + 2 : Nat) : Int)) = true := decide_eq_true (by rw [vL_len])
          simp only [hX, obnd_s, decide_true, Bool.not_true, oite_f, q5, f310T, f38P, f322P, f323P, hvl, xg, pg, ogrd_t]
          by_cases e1 : vv M H v P (u + 1) = vv M H v Q (u + 1)
          · by_cases e2 : gi P u = gi Q u
            · have := hlast e1 e2
              simp only [e1, e2, decide_true, Bool.not_true, oite_f, ile_eq, decide_eq_true this]
            · simp only [e1, decide_true, Bool.not_true, oite_f, decide_eq_false e2, Bool.not_false, oite_t]
          · simp only [decide_eq_false e1, Bool.not_false, oite_t]
        · rw [decide_eq_false hX]; rfl
end
end Go.Proofs.YtolapannkcdeeaaGreatDoor.AM
