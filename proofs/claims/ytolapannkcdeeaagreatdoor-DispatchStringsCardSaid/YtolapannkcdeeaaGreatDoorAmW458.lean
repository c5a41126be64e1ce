/- Plain law: DispatchStrings. Conditions: none. -/
import Derived.Test.YtolapannkcdeeaaGreatDoorAmLift2
import Derived.Test.YtolapannkcdeeaaGreatDoorAmLf
import Derived.Lib.SplitLaws
import Derived.Lib.AtoiAllCases
import Derived.Test.YtolapannkcdeeaaGreatDoorAmExt
import Derived.Test.YtolapannkcdeeaaGreatDoorAmDec
namespace Go.Proofs.YtolapannkcdeeaaGreatDoor.AM
section
set_option linter.unusedSimpArgs false
set_option linter.unusedVariables false
open Go Go.RowKit
theorem k0 {α β : Type} {f : α → β} {l : List α} : (l.map f).length = l.length := List.length_map ..
theorem k1 (n : Nat) : (n : Int).toNat = n := Int.toNat_natCast n
theorem k2 (h : Decidable True) : @decide True h = true := decide_true h
theorem k3 (h : Decidable False) : @decide False h = false := decide_false h
theorem k4 : (!true) = false := rfl
theorem k5 : (!false) = true := rfl
theorem k6 (b : Bool) : (¬(b = true)) = (b = false) := Bool.not_eq_true b
theorem k7 : (false = true) = False := Bool.false_eq_true
theorem k8 {α : Type} {h : Decidable True} (a b : α) : ite True a b = a := if_true a b
theorem k9 {α : Type} {h : Decidable False} (a b : α) : ite False a b = b := if_false a b
theorem k10 : (¬False) = True := not_false_eq_true
theorem k11 : (¬True) = False := not_true_eq_false
theorem k12 (n : Nat) : (0 : Int) ≤ n := Int.natCast_nonneg n
theorem k13 {m n : Nat} : (m : Int) < n ↔ m < n := Int.ofNat_lt
theorem k14 {m n : Nat} : (m : Int) ≤ n ↔ m ≤ n := Int.ofNat_le
theorem k15 {α : Type} {a b : α} : cond true a b = a := rfl
theorem k16 {α : Type} {a b : α} : cond false a b = b := rfl
theorem k17 (b : Bool) : (true && b) = b := Bool.true_and b
theorem k18 (b : Bool) : (b && true) = b := Bool.and_true b
theorem k19 (b : Bool) : (false && b) = false := Bool.false_and b
theorem k20 (b : Bool) : (b && false) = false := Bool.and_false b
theorem k21 (b : Bool) : (true || b) = true := Bool.true_or b
theorem k22 (b : Bool) : (b || true) = true := Bool.or_true b
theorem k23 (b : Bool) : (false || b) = b := Bool.false_or b
theorem k24 (b : Bool) : (b || false) = b := Bool.or_false b
theorem k25 (c f : Bool) : cond c true f = (c || f) := Bool.cond_true_left c f
theorem k26 (c t : Bool) : cond c t false = (c && t) := Bool.cond_false_right c t
theorem k27 (c t : Bool) : cond c t true = (!c || t) := Bool.cond_true_right c t
theorem k28 (c f : Bool) : cond c false f = (!c && f) := Bool.cond_false_left c f
section
variable {α β γ : Type}
theorem obnd_s (a : α) (f : α → Option β) : obnd (some a) f = f a := rfl
theorem obnd_n (f : α → Option β) : obnd none f = none := rfl
theorem oite_t (x y : Option α) : oite true x y = x := rfl
theorem oite_f (x y : Option α) : oite false x y = y := rfl
theorem oite_ss (b : Bool) (x y : α) : oite b (some x) (some y) = some (bif b then x else y) := by cases b <;> rfl
theorem ogrd_t (x : Option α) : ogrd true x = x := rfl
theorem ogrd_f (x : Option α) : ogrd false x = none := rfl
theorem obndS_l (a : α) (f : α → Option γ) : obndS (some (.inl a)) f = f a := rfl
theorem obndS_r (x : γ) (f : α → Option γ) : obndS (some (.inr x)) f = some x := rfl
theorem imax_e (a b : Int) : imax a b = max a b := by
 unfold imax; rw [ilt_eq]; by_cases h : a < b
 · rw [decide_eq_true h]; simp only [cond_true]; omega
 · rw [decide_eq_false h]; simp only [cond_false]; omega
theorem imin_e (a b : Int) : imin a b = min a b := by
 unfold imin; rw [ilt_eq]; by_cases h : b < a
 · rw [decide_eq_true h]; simp only [cond_true]; omega
 · rw [decide_eq_false h]; simp only [cond_false]; omega
theorem fits_e (b n : Nat) : fits b n = decide (n * b ≤ 1099511627776 ∧ n ≤ 1099511627776) := by
 unfold fits; rw [Bool.eq_iff_iff]; simp
theorem fits_t {b n : Nat} (h1 : n * b ≤ 1099511627776) (h2 : n ≤ 1099511627776) : fits b n = true := by rw [fits_e]; simp [h1, h2]
theorem ogrd_fits {b n : Nat} {x : Option α} (h1 : n * b ≤ 1099511627776) (h2 : n ≤ 1099511627776) : ogrd (fits b n) x = x := by rw [fits_t h1 h2]; rfl
theorem wr {n : Int} (h1 : -9223372036854775808 ≤ n) (h2 : n < 9223372036854775808) : IntKind.i64.wrap n = n := wrap_in h1 h2
theorem get_i {l : List α} {i : Nat} (h : i < l.length) : l[i]? = some (l[i]'h) := List.getElem?_eq_getElem h
theorem oloop_up {τ ρ : Type} {g : τ → Option (τ ⊕ ρ)} (S : Nat → τ) : ∀ (n m : Nat), m ≤ n → (∀ i, i < n → g (S i) = some (.inl (S (i + 1)))) → oloop g (S m) = oloop g (S n)
  | 0, m, hm, _ => by rw [show m = 0 by omega]
  | n + 1, m, hm, h => by
    rcases Nat.lt_or_ge n m with h1 | h1
    · rw [show m = n + 1 by omega]
    · rw [oloop_up S n m h1 (fun i hi => h i (by omega)), oloop_step (h n (by omega))]
theorem oloop_all {τ ρ : Type} {g : τ → Option (τ ⊕ ρ)} (S : Nat → τ) (n : Nat) {r : ρ} {e0 : τ} (h0 : e0 = S 0) (h : ∀ i, i < n → g (S i) = some (.inl (S (i + 1)))) (hend : g (S n) = some (.inr r)) : oloop g e0 = some r := by
 rw [h0, oloop_up S n 0 (Nat.zero_le _) h, oloop_done hend]
def scanF {ρ : Type} (f : Nat → Option ρ) : Nat → Nat → Option ρ
  | 0, _ => none
  | n + 1, i => match f i with
    | some r => some r
    | none => scanF f n (i + 1)
theorem scanF_none {ρ : Type} {f : Nat → Option ρ} : ∀ {n i : Nat}, scanF f n i = none → ∀ k, i ≤ k → k < i + n → f k = none
  | 0, i, _, k, h1, h2 => by omega
  | n + 1, i, h, k, h1, h2 => by
    simp only [scanF] at h
    cases hf : f i with
    | some r => rw [hf] at h; cases h
    | none =>
      rw [hf] at h
      rcases Nat.eq_or_lt_of_le h1 with rfl | h3
      · exact hf
      · exact scanF_none h k (by omega) (by omega)
theorem scanF_of_none {ρ : Type} {f : Nat → Option ρ} : ∀ {n i : Nat}, (∀ k, i ≤ k → k < i + n → f k = none) → scanF f n i = none
  | 0, i, _ => rfl
  | n + 1, i, h => by
    simp only [scanF, h i (Nat.le_refl _) (by omega)]
    exact scanF_of_none fun k h1 h2 => h k (by omega) (by omega)
theorem scanF_congr {ρ : Type} {f f' : Nat → Option ρ} : ∀ {n i : Nat}, (∀ k, i ≤ k → k < i + n → f k = f' k) → scanF f n i = scanF f' n i
  | 0, i, _ => rfl
  | n + 1, i, h => by
    simp only [scanF]
    rw [h i (Nat.le_refl _) (by omega), scanF_congr (n := n) (i := i + 1) fun k h1 h2 => h k (by omega) (by omega)]
theorem oloop_scan {τ ρ : Type} {g : τ → Option (τ ⊕ ρ)} (S : Nat → τ) (n : Nat) (f : Nat → Option ρ) {d : ρ} {e0 : τ} (h0 : e0 = S 0)
    (h : ∀ i, i < n → g (S i) = match f i with | some r => some (.inr r) | none => some (.inl (S (i + 1)))) (hend : g (S n) = some (.inr d)) :
    oloop g e0 = some ((scanF f n 0).getD d) := by
  have key : ∀ k i, i + k = n → oloop g (S i) = some ((scanF f k i).getD d) := by
    intro k
    induction k with
    | zero => intro i hi; rw [show i = n by omega, oloop_done hend]; rfl
    | succ k ih =>
      intro i hi
      have hs := h i (by omega)
      simp only [scanF]
      cases hf : f i with
      | some r => rw [hf] at hs; rw [oloop_done hs]; rfl
      | none => rw [hf] at hs; rw [oloop_step hs]; exact ih (i + 1) (by omega)
  rw [h0]; exact key n 0 (by omega)
theorem oloop_scanB {τ ρ : Type} {g : τ → Option (τ ⊕ ρ)} (S : Nat → τ) (n : Nat) (b : Nat → Bool) (r : Nat → ρ) {d : ρ} {e0 : τ} (h0 : e0 = S 0)
  (h : ∀ i, i < n → g (S i) = some (bif b i then .inr (r i) else .inl (S (i + 1)))) (hend : g (S n) = some (.inr d)) :
  oloop g e0 = some ((scanF (fun i => bif b i then some (r i) else none) n 0).getD d) :=
 oloop_scan S n _ h0 (fun i hi => by rw [h i hi]; cases b i <;> rfl) hend
theorem scanF_map {ρ σ : Type} {f : Nat → Option ρ} {k : ρ → σ} : ∀ {n i : Nat}, scanF (fun i => (f i).map k) n i = (scanF f n i).map k
  | 0, _ => rfl
  | n + 1, i => by
    simp only [scanF]
    cases f i with
    | some r => rfl
    | none => exact scanF_map
end
end
section
set_option linter.unusedSimpArgs false
set_option linter.unusedVariables false
open Go Go.RowKit
def glue (p : List UInt8) : List (List UInt8) → List (List UInt8)
 | [] => [p]
 | h :: t => (p ++ h) :: t
def spl (c : UInt8) : List UInt8 → List (List UInt8)
 | [] => [[]]
 | x :: r => if x = c then [] :: spl c r else glue [x] (spl c r)
def mkB (l : List UInt8) : ByteArray := ⟨⟨l⟩⟩
theorem splitK_spl (c : UInt8) : ∀ (l : List UInt8), Lib.splitK [c] 0 (Lib.count l [c]) l = spl c l
  | [] => by rw [Lib.count_miss (by simp [Lib.index])]; rfl
  | x :: r => by
    have ih := splitK_spl c r
    by_cases h : x = c
    · subst h
      have hix : Lib.index (x :: r) [x] = ((0 : Nat) : Int) := by rw [Lib.index]; simp [List.isPrefixOf]
      rw [Lib.count_cons_eq, Nat.add_comm, Lib.splitK, hix]
      simp only [spl, if_true]
      rw [← ih]; simp
    · rw [Lib.count_cons_ne x c r h]
      simp only [spl, if_neg h]
      rw [← ih]
      have hp : ([c] : List UInt8).isPrefixOf (x :: r) = false := by simp [List.isPrefixOf, Ne.symm h]
      have hix : Lib.index (x :: r) [c] = if Lib.index r [c] == -1 then -1 else Lib.index r [c] + 1 := by rw [Lib.index, hp]; simp
      cases hk : Lib.count r [c] with
      | zero => rfl
      | succ k =>
        have hne : Lib.index r [c] ≠ -1 := fun e => by rw [Lib.count_miss e] at hk; cases hk
        have hge := Lib.index_ge r [c]
        obtain ⟨j, hj⟩ : ∃ j : Nat, Lib.index r [c] = j := ⟨(Lib.index r [c]).toNat, by omega⟩
        have hix' : Lib.index (x :: r) [c] = ((j + 1 : Nat) : Int) := by rw [hix, if_neg (fun e => hne (beq_iff_eq.1 e)), hj]; omega
        simp only [Lib.splitK, hix', hj]
        have e1 : ((((j + 1 : Nat) : Int)) == -1) = false := by simp; omega
        have e2 : (((j : Int)) == -1) = false := by simp
        simp only [e1, e2, Bool.false_eq_true, if_false, glue]
        simp
theorem splitB_spl (c : UInt8) (s : ByteArray) : Lib.splitB ⟨#[c]⟩ 0 (Lib.countB s ⟨#[c]⟩) s = (spl c s.data.toList).map mkB := by
 have h := Lib.splitB_data ⟨#[c]⟩ 0 (Lib.countB s ⟨#[c]⟩) s
 have h2 : Lib.countB s ⟨#[c]⟩ = Lib.count s.data.toList [c] := rfl
 rw [h2] at h ⊢
 rw [show (⟨#[c]⟩ : ByteArray).data.toList = [c] from rfl, splitK_spl] at h
 rw [← h, List.map_map]
 conv => lhs; rw [← List.map_id (Lib.splitB _ _ _ _)]
 apply List.map_congr_left
 intro x _
 rfl
theorem f382_e {s : ByteArray} {c : UInt8} (hs : s.size < 4294967281) : f382 s ⟨#[c]⟩ = some ((spl c s.data.toList).map mkB) := by
 unfold f382
 rw [decide_eq_true ⟨hs, Nat.le_refl _⟩, ogrd_t, splitB_spl]
theorem spl_ne (c : UInt8) : ∀ l, spl c l ≠ []
  | [] => by simp [spl]
  | x :: r => by
    simp only [spl]
    split
    · simp
    · cases spl c r <;> simp [glue]
def stC (c : UInt8) (l : List UInt8) : Nat → List (List UInt8) × Nat
 | 0 => ([], 0)
 | i + 1 => if l[i]? = some c then ((stC c l i).1 ++ [(l.drop (stC c l i).2).take (i - (stC c l i).2)], i + 1) else stC c l i
theorem stC_le (c : UInt8) (l : List UInt8) : ∀ i, (stC c l i).2 ≤ i ∧ (stC c l i).1.length ≤ i
  | 0 => ⟨Nat.le_refl _, Nat.le_refl _⟩
  | i + 1 => by
    have := stC_le c l i
    simp only [stC]
    split
    · exact ⟨Nat.le_refl _, by simp; omega⟩
    · omega
theorem glue_app (p q : List UInt8) (t : List (List UInt8)) : glue p (glue q t) = glue (p ++ q) t := by
 cases t <;> simp [glue]
theorem stC_spl (c : UInt8) (l : List UInt8) : ∀ i, i ≤ l.length → spl c l = (stC c l i).1 ++ glue ((l.take i).drop (stC c l i).2) (spl c (l.drop i))
  | 0, _ => by
    simp only [stC, List.take_zero, List.drop_nil, List.drop_zero, List.nil_append]
    cases l with
    | nil => rfl
    | cons x r =>
      simp only [spl]
      split
      · rfl
      · cases spl c r <;> rfl
  | i + 1, hi => by
    have ih := stC_spl c l i (by omega)
    have hle := (stC_le c l i).1
    have hd : l.drop i = l[i] :: l.drop (i + 1) := List.drop_eq_getElem_cons (by omega)
    have hx : l[i]? = some l[i] := List.getElem?_eq_getElem (by omega)
    rw [ih, hd]
    simp only [stC, hx, Option.some.injEq, spl]
    by_cases h : l[i] = c
    · rw [if_pos h, if_pos h]
      simp only [glue, List.append_nil]
      have e1 : (l.take (i + 1)).drop (i + 1) = [] := List.drop_eq_nil_of_le (by simp; omega)
      have e2 : (l.take i).drop (stC c l i).2 = (l.drop (stC c l i).2).take (i - (stC c l i).2) := by rw [List.drop_take]
      rw [e1, e2]
      cases he : spl c (l.drop (i + 1)) with
      | nil => exact absurd he (spl_ne _ _)
      | cons a b => simp
    · rw [if_neg h, if_neg h, glue_app]
      congr 2
      rw [List.take_succ_eq_append_getElem (by omega), List.drop_append_of_le_length (by simp; omega)]
theorem f386_e {s : ByteArray} {c : UInt8} {k : Int} (hk : k = (c.toNat : Int)) (hs : s.size ≤ 1000) : f386 s k = some ((spl c s.data.toList).map mkB) := by
 subst hk
 have hl : s.data.toList.length = s.size := by rw [Array.length_toList]; rfl
 generalize hL : s.data.toList = L at hl
 unfold f386
 rw [hL, ← hl]
 rw [oloop_all (fun i => ((stC c L i).1.map mkB, (((stC c L i).2 : Nat) : Int), (i : Int))) L.length (r := ((stC c L L.length).1.map mkB, (((stC c L L.length).2 : Nat) : Int))) (e0 := (([] : List ByteArray), (0 : Int), (0 : Int))) rfl ?_ ?_]
 · have h1 := stC_le c L L.length
   have h2 := stC_spl c L L.length (Nat.le_refl _)
   rw [List.take_length, List.drop_length, show spl c [] = [[]] from rfl] at h2
   simp (disch := omega) only [obnd_s, obnd_n, oite_ss, oite_t, oite_f, ogrd_t, ogrd_f, obndS_l, obndS_r, ilt_eq, ile_eq, ieq_eq, imax_e, imin_e, k0, k1, k2, k3, k4, k5, k6, k7, k8, k9, reduceIte, k10, k11, k12, k13, k14, k15, k16, k17, k18, k19, k20, k21, k22, k23, k24, k25, k26, k27, k28, h1.1]
   rw [ogrd_fits (by simp; omega) (by simp; omega), h2]
   simp [glue, mkB]
 · intro i hi
   have h1 := stC_le c L i
   have h3 : (stC c L i).1.length + 1 ≤ 1001 := by omega
   simp (disch := omega) only [obnd_s, obnd_n, oite_ss, oite_t, oite_f, ogrd_t, ogrd_f, obndS_l, obndS_r, ilt_eq, ile_eq, ieq_eq, imax_e, imin_e, k0, k1, k2, k3, k4, k5, k6, k7, k8, k9, reduceIte, k10, k11, k12, k13, k14, k15, k16, k17, k18, k19, k20, k21, k22, k23, k24, k25, k26, k27, k28, hi, get_i hi, wr, h1.1]
   by_cases h : L[i] = c
   · have h2 : ((L[i].toNat : Int) = (c.toNat : Int)) := by rw [h]
     simp only [stC, get_i hi, h, if_true]
     simp (disch := omega) only [obnd_s, obnd_n, oite_ss, oite_t, oite_f, ogrd_t, ogrd_f, obndS_l, obndS_r, ilt_eq, ile_eq, ieq_eq, imax_e, imin_e, k0, k1, k2, k3, k4, k5, k6, k7, k8, k9, reduceIte, k10, k11, k12, k13, k14, k15, k16, k17, k18, k19, k20, k21, k22, k23, k24, k25, k26, k27, k28, h1.1, Nat.le_of_lt hi]
     rw [ogrd_fits (by simp; omega) (by simp; omega)]
     simp [mkB]
   · have h2 : ¬ ((L[i].toNat : Int) = (c.toNat : Int)) := fun e => h (UInt8.toNat_inj.1 (by omega))
     simp only [stC, get_i hi, Option.some.injEq, if_neg h]
     simp (disch := omega) only [obnd_s, obnd_n, oite_ss, oite_t, oite_f, ogrd_t, ogrd_f, obndS_l, obndS_r, ilt_eq, ile_eq, ieq_eq, imax_e, imin_e, k0, k1, k2, k3, k4, k5, k6, k7, k8, k9, reduceIte, k10, k11, k12, k13, k14, k15, k16, k17, k18, k19, k20, k21, k22, k23, k24, k25, k26, k27, k28, h2]
     simp
 · simp (disch := omega) only [obnd_s, obnd_n, oite_ss, oite_t, oite_f, ogrd_t, ogrd_f, obndS_l, obndS_r, ilt_eq, ile_eq, ieq_eq, imax_e, imin_e, k0, k1, k2, k3, k4, k5, k6, k7, k8, k9, reduceIte, k10, k11, k12, k13, k14, k15, k16, k17, k18, k19, k20, k21, k22, k23, k24, k25, k26, k27, k28, Int.lt_irrefl]
end
section
set_option linter.unusedSimpArgs false
set_option linter.unusedVariables false
open Go Go.RowKit
def isDg (x : UInt8) : Bool := decide (48 ≤ x.toNat ∧ x.toNat ≤ 57)
def vstep (a : Nat) (x : UInt8) : Nat := 10 * a + (x.toNat - 48)
def dval (l : List UInt8) : Nat := l.foldl vstep 0
def canon (m : List UInt8) : Prop := m ≠ [] ∧ (∀ x, x ∈ m → isDg x = true) ∧ (m.head? = some 48 → m.length = 1)
theorem isDg_of {d : Nat} (h : d < 10) : isDg (UInt8.ofNat (48 + d)) = true ∧ (UInt8.ofNat (48 + d)).toNat = 48 + d := by
 have : (UInt8.ofNat (48 + d)).toNat = 48 + d := by rw [UInt8.toNat_ofNat']; omega
 exact ⟨by unfold isDg; rw [this]; simp; omega, this⟩
theorem dg_of {x : UInt8} (h : isDg x = true) : UInt8.ofNat (48 + (x.toNat - 48)) = x ∧ x.toNat - 48 < 10 := by
 have := of_decide_eq_true h
 refine ⟨?_, by omega⟩
 apply UInt8.toNat_inj.1
 rw [UInt8.toNat_ofNat']; omega
theorem val_snoc (p : List UInt8) (x : UInt8) : dval (p ++ [x]) = vstep (dval p) x := by simp [dval]
theorem digs_head : ∀ (u : Nat), 0 < u → (Lib.decDigits u).head? ≠ some 48
  | u, h => by
    rw [Lib.decDigits]
    by_cases h1 : u < 10
    · rw [dif_pos h1]
      intro e
      simp only [List.head?_cons, Option.some.injEq] at e
      have := (isDg_of h1).2
      rw [e] at this
      have h2 : (48 : UInt8).toNat = 48 := rfl
      omega
    · rw [dif_neg h1]
      have ih := digs_head (u / 10) (by omega)
      intro e
      rw [List.head?_append] at e
      cases hh : (Lib.decDigits (u / 10)).head? with
      | none =>
        rw [List.head?_eq_none_iff] at hh
        have h3 := Lib.decDigits_length (u / 10)
        have h4 := Lib.nDigits_pos (u / 10)
        rw [hh] at h3
        simp at h3; omega
      | some y =>
        rw [hh] at e
        simp only [Option.some_or, Option.some.injEq] at e
        exact ih (by rw [hh, e])
theorem digs_ne (u : Nat) : Lib.decDigits u ≠ [] := fun e => by
 have h3 := Lib.decDigits_length u
 have h4 := Lib.nDigits_pos u
 rw [e] at h3
 simp at h3; omega
theorem digs_dg : ∀ (u : Nat) (x : UInt8), x ∈ Lib.decDigits u → isDg x = true
  | u, x, h => by
    rw [Lib.decDigits] at h
    by_cases h1 : u < 10
    · rw [dif_pos h1] at h
      simp only [List.mem_cons, List.not_mem_nil, or_false] at h
      subst h; exact (isDg_of h1).1
    · rw [dif_neg h1] at h
      rcases List.mem_append.1 h with h | h
      · exact digs_dg (u / 10) x h
      · simp only [List.mem_cons, List.not_mem_nil, or_false] at h
        subst h; exact (isDg_of (by omega)).1
theorem digs_val (u : Nat) : dval (Lib.decDigits u) = u := by
  induction u using Nat.strongRecOn with
  | _ u ih =>
    rw [Lib.decDigits]
    by_cases h1 : u < 10
    · rw [dif_pos h1]
      have h := (isDg_of h1).2
      show vstep 0 (UInt8.ofNat (48 + u)) = u
      unfold vstep; omega
    · rw [dif_neg h1, val_snoc, ih (u / 10) (by omega)]
      have h := (isDg_of (show u % 10 < 10 by omega)).2
      unfold vstep; omega
theorem digs_canon (u : Nat) : canon (Lib.decDigits u) := ⟨digs_ne u, digs_dg u, fun h => by
 rcases Nat.eq_zero_or_pos u with rfl | h0
 · rw [Lib.decDigits, dif_pos (by omega)]; rfl
 · exact absurd h (digs_head u h0)⟩
theorem canon_digs (m : List UInt8) : canon m → Lib.decDigits (dval m) = m := by
  induction h : m.length using Nat.strongRecOn generalizing m with
  | _ n ih =>
    intro hc
    obtain ⟨h1, h2, h3⟩ := hc
    rcases List.eq_nil_or_concat m with rfl | ⟨p, x, rfl⟩
    · exact absurd rfl h1
    · rw [List.concat_eq_append] at *
      have hx := h2 x (by simp)
      have ⟨hx1, hx2⟩ := dg_of hx
      by_cases hp : p = []
      · subst hp
        rw [List.nil_append]
        have : dval [x] = x.toNat - 48 := by simp [dval, vstep]
        rw [this, Lib.decDigits, dif_pos hx2, hx1]
      · have hhd : (p ++ [x]).head? = p.head? := by
          cases p with
          | nil => exact absurd rfl hp
          | cons a b => rfl
        have hnz : p.head? ≠ some 48 := fun e => by
          have := h3 (by rw [hhd]; exact e)
          simp at this; exact hp this
        have hcp : canon p := ⟨hp, fun y hy => h2 y (by simp [hy]), fun e => absurd e hnz⟩
        have hi := ih p.length (by rw [← h]; simp) p rfl hcp
        have hpos : 0 < dval p := Nat.pos_of_ne_zero fun e => by
          rw [e, Lib.decDigits, dif_pos (by omega)] at hi
          rw [← hi] at hnz; exact hnz rfl
        rw [val_snoc]
        have hv : ¬ vstep (dval p) x < 10 := by unfold vstep; omega
        rw [Lib.decDigits, dif_neg hv]
        have e1 : vstep (dval p) x / 10 = dval p := by unfold vstep; omega
        have e2 : vstep (dval p) x % 10 = x.toNat - 48 := by unfold vstep; omega
        rw [e1, e2, hi, hx1]
def numeral (l : List UInt8) (v : Int) : Prop := l = Lib.itoa v
theorem itoa_pos (u : Nat) : Lib.itoa (u : Int) = Lib.decDigits u := by unfold Lib.itoa; rw [if_neg (by omega)]; simp
theorem itoa_neg {v : Int} (h : v < 0) : Lib.itoa v = 45 :: Lib.decDigits v.natAbs := by unfold Lib.itoa; rw [if_pos h]
theorem itoa_nn {v : Int} (h : ¬ v < 0) : Lib.itoa v = Lib.decDigits v.natAbs := by unfold Lib.itoa; rw [if_neg h]; congr 1; omega
theorem dg45 : isDg 45 = false := by decide
theorem digs_45 (u : Nat) : (Lib.decDigits u).head? ≠ some 45 := fun e => by
 have := digs_dg u 45 (List.mem_of_mem_head? e)
 rw [dg45] at this; cases this
theorem itoa_trim (v : Int) : Lib.trimPrefix (Lib.itoa v) [45] = Lib.decDigits v.natAbs := by
  unfold Lib.trimPrefix
  by_cases h : v < 0
  · rw [itoa_neg h]; rfl
  · rw [itoa_nn h]
    have : Lib.hasPrefix (Lib.decDigits v.natAbs) [45] = false := by
      have := digs_45 v.natAbs
      cases hd : Lib.decDigits v.natAbs with
      | nil => rfl
      | cons a b =>
        rw [hd] at this
        simp only [List.head?_cons, ne_eq, Option.some.injEq] at this
        simp [Lib.hasPrefix, List.isPrefixOf, this, Ne.symm this]
    rw [this]; rfl
theorem vstep_le (l : List UInt8) : ∀ a, a ≤ l.foldl vstep a := by
 induction l with
 | nil => intro a; exact Nat.le_refl _
 | cons x r ih => intro a; exact Nat.le_trans (by unfold vstep; omega) (ih _)
theorem parse_ok : ∀ (l : List UInt8) (a : Nat), (∀ x, x ∈ l → isDg x = true) → l.foldl vstep a < 1000000000000000000 → Lib.parseUint10 a l = .ok (l.foldl vstep a)
  | [], a, _, _ => rfl
  | x :: r, a, h, hv => by
    have hx := of_decide_eq_true (h x (by simp))
    have h1 := vstep_le r (vstep a x)
    simp only [List.foldl_cons] at hv ⊢
    have h2 : vstep a x = a * 10 + (x.toNat - 48) := by unfold vstep; omega
    unfold Lib.parseUint10
    rw [if_pos hx, if_neg (by omega), if_neg (by omega), ← h2]
    exact parse_ok r _ (fun y hy => h y (by simp [hy])) hv
theorem atoi_itoa {v : Int} (h : v.natAbs < 1000000000000000000) : Lib.atoiAll (Lib.itoa v) = .ok v := by
  have hp : Lib.parseMag (Lib.decDigits v.natAbs) = .ok v.natAbs := by
    unfold Lib.parseMag
    rw [if_neg (digs_ne _)]
    have h1 := digs_val v.natAbs
    unfold dval at h1
    have := parse_ok (Lib.decDigits v.natAbs) 0 (digs_dg _) (by omega)
    rw [h1] at this; exact this
  by_cases h0 : v < 0
  · rw [itoa_neg h0, Lib.atoiAll_minus, hp]
    show (if 9223372036854775808 < v.natAbs then Lib.NumEnd.range else .ok (-(v.natAbs : Int))) = .ok v
    rw [if_neg (by omega)]; congr 1; omega
  · rw [itoa_nn h0]
    cases hd : Lib.decDigits v.natAbs with
    | nil => exact absurd hd (digs_ne _)
    | cons c r =>
      have hc := of_decide_eq_true (digs_dg v.natAbs c (by rw [hd]; simp))
      rw [Lib.atoiAll_plain c r (by omega) (by omega), ← hd, hp]
      show (if 9223372036854775808 ≤ v.natAbs then Lib.NumEnd.range else .ok (v.natAbs : Int)) = .ok v
      rw [if_neg (by omega)]; congr 1; omega
end
section
set_option linter.unusedSimpArgs false
set_option linter.unusedVariables false
open Go Go.RowKit
theorem val_le (l : List UInt8) : ∀ a, l.foldl vstep a + 23 ≤ (a + 23) * 10 ^ l.length := by
  induction l with
  | nil => intro a; simp
  | cons x r ih =>
    intro a
    have h1 := ih (vstep a x)
    have h2 : vstep a x + 23 ≤ (a + 23) * 10 := by have := UInt8.toNat_lt x; unfold vstep; omega
    have h3 := Nat.mul_le_mul_right (10 ^ r.length) h2
    simp only [List.foldl_cons, List.length_cons, Nat.pow_succ]
    rw [Nat.mul_assoc, Nat.mul_comm 10] at h3
    omega
theorem val_lt {l : List UInt8} (h : l.length ≤ 7) : dval l < 1000000000 := by
 have := val_le l 0
 have h2 : 10 ^ l.length ≤ 10 ^ 7 := Nat.pow_le_pow_right (by omega) h
 unfold dval; omega
theorem val_take {l : List UInt8} {i : Nat} (h : i < l.length) : dval (l.take (i + 1)) = vstep (dval (l.take i)) l[i] := by
 rw [List.take_succ_eq_append_getElem h, val_snoc]
theorem nd_dec (x : UInt8) : (decide ((x.toNat : Int) < 48) || decide (57 < (x.toNat : Int))) = !isDg x := by
 unfold isDg
 by_cases h1 : x.toNat < 48
 · have : ¬ (48 ≤ x.toNat ∧ x.toNat ≤ 57) := by omega
   have h2 : (x.toNat : Int) < 48 := by omega
   simp [this, h2]
 · by_cases h2 : 57 < x.toNat
   · have : ¬ (48 ≤ x.toNat ∧ x.toNat ≤ 57) := by omega
     have h3 : (57 : Int) < x.toNat := by omega
     simp [this, h3]
   · have : (48 ≤ x.toNat ∧ x.toNat ≤ 57) := by omega
     have h3 : ¬ (57 : Int) < x.toNat := by omega
     have h4 : ¬ (x.toNat : Int) < 48 := by omega
     simp [this, h3, h4]
theorem scanF_c {ρ : Type} {b : Nat → Bool} {r : ρ} : ∀ {n i : Nat}, (∃ k, i ≤ k ∧ k < i + n ∧ b k = true) → scanF (fun i => bif b i then some r else none) n i = some r
  | 0, i, ⟨k, h1, h2, _⟩ => by omega
  | n + 1, i, ⟨k, h1, h2, h3⟩ => by
    simp only [scanF]
    cases hb : b i with
    | true => rfl
    | false =>
      simp only [cond_false]
      rcases Nat.eq_or_lt_of_le h1 with rfl | h4
      · rw [hb] at h3; cases h3
      · exact scanF_c ⟨k, by omega, by omega, h3⟩
theorem num_loop {L : List UInt8} {k : Nat} (hk : k ≤ L.length) (hm : (L.drop k).length ≤ 7) (hL : L.length ≤ 1000) :
    oloop (τ := Int × Int) (ρ := (Int) ⊕ (Int × Bool)) (fun e30 =>
     oite ((ilt e30.2 (L.length : Int))) (
      obnd (
       ogrd ((ile 0 e30.2)) (
       obnd (L[e30.2.toNat]?) fun (x39 : UInt8) =>
       oite ((ilt (x39.toNat : Int) (48 : Int))) (
        some true
         ) (
        obnd (L[e30.2.toNat]?) fun (x41 : UInt8) =>
        some (ilt (57 : Int) (x41.toNat : Int))
         )
       )
        ) fun (r34 : Bool) =>
      oite r34 (
       some (.inr (.inr (((0 : Int), false))))
        ) (
       ogrd ((ile 0 e30.2)) (
       obnd (L[e30.2.toNat]?) fun (x45 : UInt8) =>
       some (.inl (((IntKind.i64.wrap ((IntKind.i64.wrap ((10 : Int) * e30.1)) + (IntKind.i64.wrap (IntKind.u8.wrap ((x45.toNat : Int) - (48 : Int)))))), (IntKind.i64.wrap (e30.2 + (1 : Int))))))
       )
        )
       ) (
      some (.inr (.inl e30.1))
       )
      ) ((0 : Int), (k : Int)) = some (if (L.drop k).all isDg = true then .inl ((dval (L.drop k) : Nat) : Int) else .inr ((0 : Int), false)) := by
  generalize hM : L.drop k = m at hm
  have hml : m.length + k = L.length := by rw [← hM]; simp; omega
  have hget : ∀ i (h : i < m.length), L[k + i]? = some m[i] := fun i h => by
    have : m[i]? = some m[i] := List.getElem?_eq_getElem h
    rw [← this, ← hM, List.getElem?_drop]
  rw [oloop_scanB (fun i => (((dval (m.take i) : Nat) : Int), ((k + i : Nat) : Int))) m.length (fun i => !isDg (m.getD i 0)) (fun _ => .inr ((0 : Int), false)) (d := .inl ((dval m : Nat) : Int)) (e0 := ((0 : Int), (k : Int))) rfl ?_ ?_]
  · by_cases h : m.all isDg = true
    · rw [if_pos h, scanF_of_none]
      · rfl
      · intro i _ hi
        rw [List.all_eq_true] at h
        have hi : i < m.length := by omega
        have : m.getD i 0 = m[i] := by simp [List.getD, hi]
        rw [this, h _ (List.getElem_mem hi)]; rfl
    · rw [if_neg h, scanF_c]
      · rfl
      · have : ∃ x, x ∈ m ∧ isDg x = false := by simpa [List.all_eq_true] using h
        obtain ⟨x, hx, hx2⟩ := this
        obtain ⟨i, hi, rfl⟩ := List.getElem_of_mem hx
        refine ⟨i, by omega, by omega, ?_⟩
        have : m.getD i 0 = m[i] := by simp [List.getD, hi]
        rw [this, hx2]; rfl
  · intro i hi
    have hg : m.getD i 0 = m[i] := by simp [List.getD, hi]
    have hlt : ((k + i : Nat) : Int) < (L.length : Int) := by omega
    have hn0 : (0 : Int) ≤ ((k + i : Nat) : Int) := by omega
    rw [hg]
    simp (disch := omega) only [obnd_s, obnd_n, oite_ss, oite_t, oite_f, ogrd_t, ogrd_f, obndS_l, obndS_r, ilt_eq, ile_eq, ieq_eq, imax_e, imin_e, k0, k1, k2, k3, k4, k5, k6, k7, k8, k9, reduceIte, k10, k11, k12, k13, k14, k15, k16, k17, k18, k19, k20, k21, k22, k23, k24, k25, k26, k27, k28, hlt, hn0, hget i hi]
    have hx := nd_dec m[i]
    cases hd : isDg m[i] with
    | false =>
      rw [hd] at hx
      simp only [Bool.not_false, Bool.or_eq_true, decide_eq_true_eq] at hx
      by_cases h1 : (m[i].toNat : Int) < 48
      · simp (disch := omega) only [obnd_s, obnd_n, oite_ss, oite_t, oite_f, ogrd_t, ogrd_f, obndS_l, obndS_r, ilt_eq, ile_eq, ieq_eq, imax_e, imin_e, k0, k1, k2, k3, k4, k5, k6, k7, k8, k9, reduceIte, k10, k11, k12, k13, k14, k15, k16, k17, k18, k19, k20, k21, k22, k23, k24, k25, k26, k27, k28, h1]
      · have h2 : (57 : Int) < m[i].toNat := hx.resolve_left h1
        simp (disch := omega) only [obnd_s, obnd_n, oite_ss, oite_t, oite_f, ogrd_t, ogrd_f, obndS_l, obndS_r, ilt_eq, ile_eq, ieq_eq, imax_e, imin_e, k0, k1, k2, k3, k4, k5, k6, k7, k8, k9, reduceIte, k10, k11, k12, k13, k14, k15, k16, k17, k18, k19, k20, k21, k22, k23, k24, k25, k26, k27, k28, h1, h2]
    | true =>
      rw [hd] at hx
      simp only [Bool.not_true, Bool.or_eq_false_iff, decide_eq_false_iff_not] at hx
      have hv := val_lt (l := m.take i) (by simp; omega)
      have hdd := of_decide_eq_true hd
      simp (disch := omega) only [obnd_s, obnd_n, oite_ss, oite_t, oite_f, ogrd_t, ogrd_f, obndS_l, obndS_r, ilt_eq, ile_eq, ieq_eq, imax_e, imin_e, k0, k1, k2, k3, k4, k5, k6, k7, k8, k9, reduceIte, k10, k11, k12, k13, k14, k15, k16, k17, k18, k19, k20, k21, k22, k23, k24, k25, k26, k27, k28, hx.1, hx.2]
      rw [val_take hi]
      have e1 : IntKind.u8.wrap ((m[i].toNat : Int) - 48) = ((m[i].toNat - 48 : Nat) : Int) := by
        show ((m[i].toNat : Int) - 48) % 256 = _
        omega
      rw [e1]
      simp (disch := omega) only [wr]
      unfold vstep
      congr 3
  · have h1 : ((k + m.length : Nat) : Int) = L.length := by omega
    rw [h1, List.take_length]
    simp (disch := omega) only [obnd_s, obnd_n, oite_ss, oite_t, oite_f, ogrd_t, ogrd_f, obndS_l, obndS_r, ilt_eq, ile_eq, ieq_eq, imax_e, imin_e, k0, k1, k2, k3, k4, k5, k6, k7, k8, k9, reduceIte, k10, k11, k12, k13, k14, k15, k16, k17, k18, k19, k20, k21, k22, k23, k24, k25, k26, k27, k28, Int.lt_irrefl]
theorem f387_neg {s : ByteArray} {d : Int} {m : List UInt8} (hl : s.data.toList = 45 :: m) (hd : 0 ≤ d ∧ d ≤ 7) (hs : s.size ≤ 999) :
    f387 s d = some (if m ≠ [] ∧ (m.length : Int) ≤ d ∧ m.head? ≠ some 48 ∧ m.all isDg = true then (-((dval m : Nat) : Int), true) else (0, false)) := by
  have hsz : (s.size : Int) = ((45 :: m : List UInt8).length : Int) := by rw [← hl, Array.length_toList]; rfl
  have hsn : (45 :: m : List UInt8).length ≤ 999 := by omega
  unfold f387
  rw [hsz, hl]
  have h45 : ((45 : UInt8).toNat : Int) = 45 := rfl
  have hpos : (0 : Int) < ((45 :: m : List UInt8).length : Int) := by rw [List.length_cons]; omega
  have h01 : (0 : Int) ≤ 1 := by omega
  simp (disch := omega) only [obnd_s, obnd_n, oite_ss, oite_t, oite_f, ogrd_t, ogrd_f, obndS_l, obndS_r, ilt_eq, ile_eq, ieq_eq, imax_e, imin_e, k0, k1, k2, k3, k4, k5, k6, k7, k8, k9, reduceIte, k10, k11, k12, k13, k14, k15, k16, k17, k18, k19, k20, k21, k22, k23, k24, k25, k26, k27, k28, hpos, List.getElem?_cons_zero, h45, Int.toNat_zero]
  simp only [List.length_cons] at hsn
  cases m with
  | nil => simp (disch := omega) only [obnd_s, obnd_n, oite_ss, oite_t, oite_f, ogrd_t, ogrd_f, obndS_l, obndS_r, ilt_eq, ile_eq, ieq_eq, imax_e, imin_e, k0, k1, k2, k3, k4, k5, k6, k7, k8, k9, reduceIte, k10, k11, k12, k13, k14, k15, k16, k17, k18, k19, k20, k21, k22, k23, k24, k25, k26, k27, k28, List.length_cons, List.length_nil]; rfl
  | cons x r =>
    simp only [List.length_cons] at hsn
    have h1 : ¬ ((45 :: x :: r : List UInt8).length : Int) = 1 := by simp; omega
    have h2 : IntKind.i64.wrap (((45 :: x :: r : List UInt8).length : Int) - 1) = (((x :: r).length : Nat) : Int) := by simp only [List.length_cons]; rw [wr (by omega) (by omega)]; omega
    have h3 : (1 : Int) < ((45 :: x :: r : List UInt8).length : Int) := by simp; omega
    simp (disch := omega) only [obnd_s, obnd_n, oite_ss, oite_t, oite_f, ogrd_t, ogrd_f, obndS_l, obndS_r, ilt_eq, ile_eq, ieq_eq, imax_e, imin_e, k0, k1, k2, k3, k4, k5, k6, k7, k8, k9, reduceIte, k10, k11, k12, k13, k14, k15, k16, k17, k18, k19, k20, k21, k22, k23, k24, k25, k26, k27, k28, h1, h2, h3]
    by_cases h4 : d < ((x :: r).length : Int)
    · rw [if_neg (fun h => by have := h.2.1; omega)]
      simp (disch := omega) only [obnd_s, obnd_n, oite_ss, oite_t, oite_f, ogrd_t, ogrd_f, obndS_l, obndS_r, ilt_eq, ile_eq, ieq_eq, imax_e, imin_e, k0, k1, k2, k3, k4, k5, k6, k7, k8, k9, reduceIte, k10, k11, k12, k13, k14, k15, k16, k17, k18, k19, k20, k21, k22, k23, k24, k25, k26, k27, k28, h4]
    · have h5 : (1 : Int).toNat = 1 := rfl
      simp (disch := omega) only [obnd_s, obnd_n, oite_ss, oite_t, oite_f, ogrd_t, ogrd_f, obndS_l, obndS_r, ilt_eq, ile_eq, ieq_eq, imax_e, imin_e, k0, k1, k2, k3, k4, k5, k6, k7, k8, k9, reduceIte, k10, k11, k12, k13, k14, k15, k16, k17, k18, k19, k20, k21, k22, k23, k24, k25, k26, k27, k28, h4, h5, List.getElem?_cons_succ, List.getElem?_cons_zero]
      by_cases h6 : (x.toNat : Int) = 48
      · have hx : x = 48 := UInt8.toNat_inj.1 (by have : (48 : UInt8).toNat = 48 := rfl; omega)
        subst hx
        rw [if_neg (fun h => h.2.2.1 rfl)]
        simp (disch := omega) only [obnd_s, obnd_n, oite_ss, oite_t, oite_f, ogrd_t, ogrd_f, obndS_l, obndS_r, ilt_eq, ile_eq, ieq_eq, imax_e, imin_e, k0, k1, k2, k3, k4, k5, k6, k7, k8, k9, reduceIte, k10, k11, k12, k13, k14, k15, k16, k17, k18, k19, k20, k21, k22, k23, k24, k25, k26, k27, k28, h6, h01]
      · have hx : x ≠ 48 := fun e => h6 (by rw [e]; rfl)
        simp (disch := omega) only [obnd_s, obnd_n, oite_ss, oite_t, oite_f, ogrd_t, ogrd_f, obndS_l, obndS_r, ilt_eq, ile_eq, ieq_eq, imax_e, imin_e, k0, k1, k2, k3, k4, k5, k6, k7, k8, k9, reduceIte, k10, k11, k12, k13, k14, k15, k16, k17, k18, k19, k20, k21, k22, k23, k24, k25, k26, k27, k28, h6, h01]
        have hloop := num_loop (L := 45 :: x :: r) (k := 1) (by simp) (by simp at h4 ⊢; omega) (by simp; omega)
        rw [show ((1 : Nat) : Int) = 1 from rfl] at hloop
        simp only [ilt_eq, ile_eq] at hloop
        rw [hloop]
        have hdr : (45 :: x :: r : List UInt8).drop 1 = x :: r := rfl
        rw [hdr]
        by_cases h7 : (x :: r).all isDg = true
        · have hv := val_lt (l := x :: r) (by omega)
          rw [if_pos h7, if_pos ⟨by simp, by omega, by simp [hx], h7⟩]
          simp (disch := omega) only [obnd_s, obnd_n, oite_ss, oite_t, oite_f, ogrd_t, ogrd_f, obndS_l, obndS_r, ilt_eq, ile_eq, ieq_eq, imax_e, imin_e, k0, k1, k2, k3, k4, k5, k6, k7, k8, k9, reduceIte, k10, k11, k12, k13, k14, k15, k16, k17, k18, k19, k20, k21, k22, k23, k24, k25, k26, k27, k28, wr]
          congr 2
          omega
        · rw [if_neg h7, if_neg (fun h => h7 h.2.2.2)]; rfl
theorem f387_pos {s : ByteArray} {d : Int} {m : List UInt8} (hl : s.data.toList = m) (hh : m.head? ≠ some 45) (hd : 0 ≤ d ∧ d ≤ 7) (hs : s.size ≤ 999) :
    f387 s d = some (if m ≠ [] ∧ (m.length : Int) ≤ d ∧ (m.head? = some 48 → m.length = 1) ∧ m.all isDg = true then (((dval m : Nat) : Int), true) else (0, false)) := by
  have hsz : (s.size : Int) = (m.length : Int) := by rw [← hl, Array.length_toList]; rfl
  have hsn : m.length ≤ 999 := by omega
  unfold f387
  rw [hsz, hl]
  cases m with
  | nil => simp (disch := omega) only [obnd_s, obnd_n, oite_ss, oite_t, oite_f, ogrd_t, ogrd_f, obndS_l, obndS_r, ilt_eq, ile_eq, ieq_eq, imax_e, imin_e, k0, k1, k2, k3, k4, k5, k6, k7, k8, k9, reduceIte, k10, k11, k12, k13, k14, k15, k16, k17, k18, k19, k20, k21, k22, k23, k24, k25, k26, k27, k28, List.length_nil]; rfl
  | cons x r =>
    have hx : ¬ (x.toNat : Int) = 45 := fun e => hh (by
      have : x = 45 := UInt8.toNat_inj.1 (by have : (45 : UInt8).toNat = 45 := rfl; omega)
      rw [this]; rfl)
    have hpos : (0 : Int) < ((x :: r : List UInt8).length : Int) := by rw [List.length_cons]; omega
    have h00 : (0 : Int) ≤ 0 := by omega
    have n01 : ¬ (0 : Int) = 1 := by omega
    have h1 : ¬ ((x :: r : List UInt8).length : Int) = 0 := by omega
    have h2 : IntKind.i64.wrap (((x :: r : List UInt8).length : Int) - 0) = ((x :: r : List UInt8).length : Int) := by rw [Int.sub_zero]; exact wr (by omega) (by omega)
    simp (disch := omega) only [obnd_s, obnd_n, oite_ss, oite_t, oite_f, ogrd_t, ogrd_f, obndS_l, obndS_r, ilt_eq, ile_eq, ieq_eq, imax_e, imin_e, k0, k1, k2, k3, k4, k5, k6, k7, k8, k9, reduceIte, k10, k11, k12, k13, k14, k15, k16, k17, k18, k19, k20, k21, k22, k23, k24, k25, k26, k27, k28, hpos, List.getElem?_cons_zero, hx, Int.toNat_zero, h1, h2]
    by_cases h4 : d < ((x :: r).length : Int)
    · rw [if_neg (fun h => by have := h.2.1; omega)]
      simp (disch := omega) only [obnd_s, obnd_n, oite_ss, oite_t, oite_f, ogrd_t, ogrd_f, obndS_l, obndS_r, ilt_eq, ile_eq, ieq_eq, imax_e, imin_e, k0, k1, k2, k3, k4, k5, k6, k7, k8, k9, reduceIte, k10, k11, k12, k13, k14, k15, k16, k17, k18, k19, k20, k21, k22, k23, k24, k25, k26, k27, k28, h4]
    · simp (disch := omega) only [obnd_s, obnd_n, oite_ss, oite_t, oite_f, ogrd_t, ogrd_f, obndS_l, obndS_r, ilt_eq, ile_eq, ieq_eq, imax_e, imin_e, k0, k1, k2, k3, k4, k5, k6, k7, k8, k9, reduceIte, k10, k11, k12, k13, k14, k15, k16, k17, k18, k19, k20, k21, k22, k23, k24, k25, k26, k27, k28, h4]
      have key : ∀ b : Bool, b = true ∨ b = false := by intro b; cases b <;> simp
      by_cases h6 : (x.toNat : Int) = 48 ∧ (1 : Int) < ((x :: r).length : Int)
      · have hx : x = 48 := UInt8.toNat_inj.1 (by have : (48 : UInt8).toNat = 48 := rfl; omega)
        rw [if_neg (fun h => by have := h.2.2.1 (by rw [hx]; rfl); omega)]
        simp (disch := omega) only [obnd_s, obnd_n, oite_ss, oite_t, oite_f, ogrd_t, ogrd_f, obndS_l, obndS_r, ilt_eq, ile_eq, ieq_eq, imax_e, imin_e, k0, k1, k2, k3, k4, k5, k6, k7, k8, k9, reduceIte, k10, k11, k12, k13, k14, k15, k16, k17, k18, k19, k20, k21, k22, k23, k24, k25, k26, k27, k28, h6.1, h6.2, h00, n01]
      · have hz : (x :: r).head? = some 48 → (x :: r).length = 1 := fun e => by
          have : x = 48 := by simpa using e
          have : (x.toNat : Int) = 48 := by rw [this]; rfl
          rcases Nat.lt_or_ge 1 (x :: r).length with h | h
          · exact absurd ⟨this, by omega⟩ h6
          · simp only [List.length_cons] at h ⊢; omega
        have hb : (if (x.toNat : Int) = 48 then decide ((1 : Int) < ((x :: r).length : Int)) else false) = false := by
          by_cases h7 : (x.toNat : Int) = 48
          · rw [if_pos h7]; simp only [decide_eq_false_iff_not]; exact fun e => h6 ⟨h7, e⟩
          · rw [if_neg h7]
        have hloop := num_loop (L := x :: r) (k := 0) (by simp) (by simp at h4 ⊢; omega) (by omega)
        rw [show ((0 : Nat) : Int) = 0 from rfl] at hloop
        simp only [ilt_eq, ile_eq] at hloop
        have fin : ∀ q, (if (x :: r).all isDg = true then (Sum.inl ((dval (x :: r) : Nat) : Int) : Int ⊕ (Int × Bool)) else .inr ((0 : Int), false)) = q →
            obndS (some q) (fun (r47 : Int) => some (r47, true)) = some (if (x :: r) ≠ [] ∧ ((x :: r).length : Int) ≤ d ∧ ((x :: r).head? = some 48 → (x :: r).length = 1) ∧ (x :: r).all isDg = true then (((dval (x :: r) : Nat) : Int), true) else (0, false)) := by
          rintro q rfl
          by_cases h7 : (x :: r).all isDg = true
          · rw [if_pos h7, if_pos ⟨by simp, by omega, hz, h7⟩]; rfl
          · rw [if_neg h7, if_neg (fun h => h7 h.2.2.2)]; rfl
        by_cases h7 : (x.toNat : Int) = 48
        · have h8 : ¬ (1 : Int) < ((x :: r).length : Int) := fun e => h6 ⟨h7, e⟩
          simp (disch := omega) only [obnd_s, obnd_n, oite_ss, oite_t, oite_f, ogrd_t, ogrd_f, obndS_l, obndS_r, ilt_eq, ile_eq, ieq_eq, imax_e, imin_e, k0, k1, k2, k3, k4, k5, k6, k7, k8, k9, reduceIte, k10, k11, k12, k13, k14, k15, k16, k17, k18, k19, k20, k21, k22, k23, k24, k25, k26, k27, k28, h7, h8, h00, n01]
          rw [hloop]
          exact fin _ rfl
        · simp (disch := omega) only [obnd_s, obnd_n, oite_ss, oite_t, oite_f, ogrd_t, ogrd_f, obndS_l, obndS_r, ilt_eq, ile_eq, ieq_eq, imax_e, imin_e, k0, k1, k2, k3, k4, k5, k6, k7, k8, k9, reduceIte, k10, k11, k12, k13, k14, k15, k16, k17, k18, k19, k20, k21, k22, k23, k24, k25, k26, k27, k28, h7, h00, n01]
          rw [hloop]
          exact fin _ rfl
end
section
set_option linter.unusedSimpArgs false
set_option linter.unusedVariables false
open Go Go.RowKit
def numB (s : ByteArray) (d : Int) (b : Bool) : Bool := match Lib.atoiAll s.data.toList with
 | .ok v => decide (Lib.itoa v = s.toList) && (b || decide (0 ≤ v)) && decide (((Lib.trimPrefix s.data.toList [45]).length : Int) ≤ d)
 | _ => false
def numOf (s : ByteArray) (d v : Int) : Prop := s.data.toList = Lib.itoa v ∧ ((Lib.decDigits v.natAbs).length : Int) ≤ d
theorem allDg (u : Nat) : (Lib.decDigits u).all isDg = true := List.all_eq_true.2 (digs_dg u)
theorem f387_t {s : ByteArray} {d v : Int} (h : numOf s d v) (hd : 0 ≤ d ∧ d ≤ 7) (hs : s.size ≤ 999) : f387 s d = some (v, true) := by
 obtain ⟨h1, h2⟩ := h
 by_cases h0 : v < 0
 · rw [itoa_neg h0] at h1
   rw [f387_neg h1 hd hs, if_pos ⟨digs_ne _, h2, digs_head _ (by omega), allDg _⟩, digs_val]
   congr 2; omega
 · rw [itoa_nn h0] at h1
   rw [f387_pos h1 (digs_45 _) hd hs, if_pos ⟨digs_ne _, h2, (digs_canon _).2.2, allDg _⟩, digs_val]
   congr 2; omega
theorem f387_f {s : ByteArray} {d : Int} (h : ¬ ∃ v, numOf s d v) (hd : 0 ≤ d ∧ d ≤ 7) (hs : s.size ≤ 999) : f387 s d = some (0, false) := by
 by_cases hh : s.data.toList.head? = some 45
 · obtain ⟨m, hm⟩ : ∃ m, s.data.toList = 45 :: m := by
     cases hl : s.data.toList with
     | nil => rw [hl] at hh; cases hh
     | cons a b => rw [hl] at hh; simp at hh; subst hh; exact ⟨b, rfl⟩
   rw [f387_neg hm hd hs, if_neg]
   rintro ⟨h1, h2, h3, h4⟩
   have hc : canon m := ⟨h1, List.all_eq_true.1 h4, fun e => absurd e h3⟩
   have hm2 := canon_digs m hc
   have hpos : 0 < dval m := Nat.pos_of_ne_zero fun e => by
     rw [e, Lib.decDigits, dif_pos (by omega)] at hm2
     rw [← hm2] at h3; exact h3 rfl
   refine h ⟨-((dval m : Nat) : Int), ?_, ?_⟩
   · rw [itoa_neg (by omega), hm, show (-((dval m : Nat) : Int)).natAbs = dval m by omega, hm2]
   · rw [show (-((dval m : Nat) : Int)).natAbs = dval m by omega, hm2]; exact h2
 · rw [f387_pos rfl hh hd hs, if_neg]
   rintro ⟨h1, h2, h3, h4⟩
   have hc : canon s.data.toList := ⟨h1, List.all_eq_true.1 h4, h3⟩
   have hm2 := canon_digs _ hc
   refine h ⟨((dval s.data.toList : Nat) : Int), ?_, ?_⟩
   · rw [itoa_pos, hm2]
   · rw [show (((dval s.data.toList : Nat) : Int)).natAbs = dval s.data.toList by omega, hm2]; exact h2
theorem natAbs_lt {v : Int} (h : (Lib.decDigits v.natAbs).length ≤ 7) : v.natAbs < 10000000 := by
 rw [Lib.decDigits_length] at h
 have h1 := Lib.lt_pow_nDigits v.natAbs
 have h2 : 10 ^ Lib.nDigits v.natAbs ≤ 10 ^ 7 := Nat.pow_le_pow_right (by omega) h
 omega
theorem num_t {s : ByteArray} {d v : Int} {b : Bool} (h : numOf s d v) (hd : d ≤ 7) (hb : b = true ∨ 0 ≤ v) : numB s d b = true ∧ numV s = v := by
 obtain ⟨h1, h2⟩ := h
 have ha := atoi_itoa (v := v) (by have := natAbs_lt (v := v) (by omega); omega)
 unfold numB numV
 rw [Lib.toList_data, h1, ha, itoa_trim]
 refine ⟨?_, rfl⟩
 have h3 : (b || decide (0 ≤ v)) = true := by rcases hb with h | h <;> simp [h]
 simp [h3, h2]
theorem itoa_no (v : Int) (c : UInt8) (hc : isDg c = false) (h45 : c ≠ 45) : c ∉ Lib.itoa v := by
 intro h
 have hd : c ∉ Lib.decDigits v.natAbs := fun h => by rw [digs_dg _ _ h] at hc; cases hc
 by_cases h0 : v < 0
 · rw [itoa_neg h0] at h
   rcases List.mem_cons.1 h with h | h
   · exact h45 h
   · exact hd h
 · rw [itoa_nn h0] at h; exact hd h
theorem spl_no {c : UInt8} : ∀ {p : List UInt8}, c ∉ p → spl c p = [p]
  | [], _ => rfl
  | x :: r, h => by
    simp only [List.mem_cons, not_or] at h
    simp only [spl, if_neg (Ne.symm h.1), spl_no h.2, glue]
    rfl
theorem spl_app {c : UInt8} {r : List UInt8} : ∀ {p : List UInt8}, c ∉ p → spl c (p ++ c :: r) = p :: spl c r
  | [], _ => by simp [spl]
  | x :: p, h => by
    simp only [List.mem_cons, not_or] at h
    simp only [List.cons_append, spl, if_neg (Ne.symm h.1), spl_app h.2, glue]
    rfl
theorem spl_size {c : UInt8} {l : List UInt8} {n : Nat} (h : l.length ≤ n) : ∀ p, p ∈ (spl c l).map mkB → p.size ≤ n := by
  intro p hp
  obtain ⟨q, hq, rfl⟩ := List.mem_map.1 hp
  have key : ∀ (l : List UInt8) (q : List UInt8), q ∈ spl c l → q.length ≤ l.length := by
    intro l
    induction l with
    | nil => intro q hq; simp [spl] at hq; subst hq; simp
    | cons x r ih =>
      intro q hq
      simp only [spl] at hq
      split at hq
      · rcases List.mem_cons.1 hq with rfl | hq
        · simp
        · have := ih q hq; simp; omega
      · cases hs : spl c r with
        | nil => exact absurd hs (spl_ne _ _)
        | cons a b =>
          rw [hs] at hq ih
          simp only [glue, List.mem_cons] at hq
          rcases hq with rfl | hq
          · have := ih a (by simp); simp; omega
          · have := ih q (by simp [hq]); simp; omega
  have := key l q hq
  show q.toArray.size ≤ n
  simp; omega
end
section
set_option linter.unusedSimpArgs false
set_option linter.unusedVariables false
open Go Go.RowKit
theorem f214_e (b : Bool) (e : Int) : f214 b e = some (if b = true then 0 else e) := by unfold f214; cases b <;> rfl
theorem f216_e (n lo hi : Int) : f216 n lo hi = some (decide (lo ≤ n) && decide (n ≤ hi)) := by unfold f216; simp (disch := omega) only [obnd_s, obnd_n, oite_ss, oite_t, oite_f, ogrd_t, ogrd_f, obndS_l, obndS_r, ilt_eq, ile_eq, ieq_eq, imax_e, imin_e, k0, k1, k2, k3, k4, k5, k6, k7, k8, k9, reduceIte, k10, k11, k12, k13, k14, k15, k16, k17, k18, k19, k20, k21, k22, k23, k24, k25, k26, k27, k28]
theorem f15_e (n lo hi : Int) : f15 n lo hi = some (decide (lo ≤ n) && decide (n ≤ hi)) := by unfold f15; simp (disch := omega) only [obnd_s, obnd_n, oite_ss, oite_t, oite_f, ogrd_t, ogrd_f, obndS_l, obndS_r, ilt_eq, ile_eq, ieq_eq, imax_e, imin_e, k0, k1, k2, k3, k4, k5, k6, k7, k8, k9, reduceIte, k10, k11, k12, k13, k14, k15, k16, k17, k18, k19, k20, k21, k22, k23, k24, k25, k26, k27, k28]
def fstN : List Int → Int
 | [] => 0
 | x :: r => if x = 0 then fstN r else x
theorem getD_i {α : Type} {l : List α} {i : Nat} {d : α} (h : i < l.length) : l.getD i d = l[i] := by rw [List.getD_eq_getElem?_getD, List.getElem?_eq_getElem h]; rfl
theorem scan_fst : ∀ (k : Nat) (l : List Int) (i : Nat), i + k = l.length → (scanF (fun i => bif !decide (l.getD i 0 = 0) then some (.inr (l.getD i 0) : Unit ⊕ Int) else none) k i).getD (.inl ()) = if fstN (l.drop i) = 0 then .inl () else .inr (fstN (l.drop i))
  | 0, l, i, h => by rw [List.drop_eq_nil_of_le (by omega)]; simp [scanF, fstN]
  | k + 1, l, i, h => by
    have hi : i < l.length := by omega
    rw [List.drop_eq_getElem_cons hi]
    simp only [scanF, fstN, getD_i hi]
    by_cases h0 : l[i] = 0
    · simp only [h0, decide_true, Bool.not_true, cond_false, if_true]; exact scan_fst k l (i + 1) (by omega)
    · simp [h0]
theorem f213_e {l : List Int} (hl : l.length < 4611686018427387904) : f213 l = some (fstN l) := by
 unfold f213
 rw [oloop_scanB (fun i => (i : Int)) l.length (fun i => !decide (l.getD i 0 = 0)) (fun i => .inr (l.getD i 0)) (d := .inl ()) (e0 := 0) rfl ?_ ?_, scan_fst l.length l 0 (by omega)]
 · rw [List.drop_zero]
   by_cases h : fstN l = 0
   · rw [if_pos h, h]; rfl
   · rw [if_neg h]; rfl
 · intro i hi
   rw [getD_i hi]
   simp (disch := omega) only [obnd_s, obnd_n, oite_ss, oite_t, oite_f, ogrd_t, ogrd_f, obndS_l, obndS_r, ilt_eq, ile_eq, ieq_eq, imax_e, imin_e, k0, k1, k2, k3, k4, k5, k6, k7, k8, k9, reduceIte, k10, k11, k12, k13, k14, k15, k16, k17, k18, k19, k20, k21, k22, k23, k24, k25, k26, k27, k28, hi, get_i hi, wr]; rfl
 · simp (disch := omega) only [obnd_s, obnd_n, oite_ss, oite_t, oite_f, ogrd_t, ogrd_f, obndS_l, obndS_r, ilt_eq, ile_eq, ieq_eq, imax_e, imin_e, k0, k1, k2, k3, k4, k5, k6, k7, k8, k9, reduceIte, k10, k11, k12, k13, k14, k15, k16, k17, k18, k19, k20, k21, k22, k23, k24, k25, k26, k27, k28, Int.lt_irrefl]
theorem f213_3 (a b c : Int) : f213 [a, b, c] = some (if a = 0 then (if b = 0 then c else b) else a) := by
 rw [f213_e (by simp)]
 congr 1
 simp only [fstN]; repeat' split
 all_goals first | rfl | (symm; assumption) | (exfalso; omega) | omega
def findI {α : Type} (q : α → Bool) (l : List α) : Int := match l.findIdx? q with
 | some i => (i : Int)
 | none => -1
theorem scan_find {α ρ : Type} (q : α → Bool) (d : α) (k : Nat → ρ) : ∀ (n : Nat) (l : List α) (i : Nat), i + n = l.length → scanF (fun i => bif q (l.getD i d) then some (k i) else none) n i = ((l.drop i).findIdx? q).map fun j => k (i + j)
  | 0, l, i, h => by rw [List.drop_eq_nil_of_le (by omega)]; rfl
  | n + 1, l, i, h => by
    have hi : i < l.length := by omega
    rw [List.drop_eq_getElem_cons hi, List.findIdx?_cons]
    simp only [scanF, getD_i hi]
    cases hq : q l[i] with
    | true => simp
    | false =>
      simp only [cond_false, Bool.false_eq_true, if_false]
      rw [scan_find q d k n l (i + 1) (by omega)]
      cases (l.drop (i + 1)).findIdx? q with
      | none => rfl
      | some j => simp only [Option.map_some]; congr 2; omega
theorem findI_any {α : Type} (q : α → Bool) (l : List α) : decide (0 ≤ findI q l) = l.any q := by
 unfold findI
 rw [← List.findIdx?_isSome]
 cases l.findIdx? q with
 | none => rfl
 | some i => simp
theorem scan_anyB {α ρ : Type} (q : α → Bool) (d : α) (r : ρ) (l : List α) : scanF (fun i => bif q (l.getD i d) then some r else none) l.length 0 = bif l.any q then some r else none := by
 rw [scan_find q d (fun _ => r) l.length l 0 (by omega), List.drop_zero, ← List.findIdx?_isSome]
 cases l.findIdx? q <;> rfl
def gi (L : List Int) (i : Nat) : Int := L.getD i 0
theorem oslH_n {α : Type} {l : List α} {i : Nat} (h : i ≤ l.length) : oslH l (i : Int) = some (l.take i) := by
 unfold oslH; rw [if_pos (by omega)]; rfl
end
section
set_option linter.unusedSimpArgs false
set_option linter.unusedVariables false
open Go Go.RowKit
def letC (c : Nat) : Bool := (decide (97 ≤ c) && decide (c ≤ 122)) || (decide (65 ≤ c) && decide (c ≤ 90))
def badC (i c : Nat) : Bool := !letC c && (decide (i = 0) || (!decide (c = 45) && !(decide (48 ≤ c) && decide (c ≤ 57))))
def nameO (s : ByteArray) : Option Unit := scanF (fun i => bif badC i (s.data.toList.getD i 0).toNat then some () else none) s.size 0
def nameB (s : ByteArray) : Bool := decide (1 ≤ s.size) && decide (s.size ≤ 12) && (nameO s).isNone
theorem size_l (s : ByteArray) : s.data.toList.length = s.size := ba_size
theorem ceq (k c : Nat) : decide ((c : Int) = (k : Int)) = decide (c = k) := by rw [Bool.eq_iff_iff, decide_eq_true_eq, decide_eq_true_eq]; exact Int.ofNat_inj
theorem cle (k c : Nat) : decide ((k : Int) ≤ (c : Int)) = decide (k ≤ c) := by rw [Bool.eq_iff_iff]; simp
theorem name_scan (s : ByteArray) : scanF (fun i => bif badC i (s.data.toList.getD i 0).toNat then some (.inr false : Unit ⊕ Bool) else none) s.size 0 = (nameO s).map fun _ => .inr false := by
 unfold nameO
 rw [← scanF_map]
 refine scanF_congr fun k _ _ => ?_
 cases badC k (s.data.toList.getD k 0).toNat <;> rfl
theorem orC : ∀ c : Fin 256, (decide ((97 : Int) ≤ IntKind.i64.wrap (IntKind.u8.wrap (BitVec.ofInt (IntKind.bits .u8) ((c.val : Nat) : Int) ||| BitVec.ofInt (IntKind.bits .u8) (32 : Int)).toNat)) && decide (IntKind.i64.wrap (IntKind.u8.wrap (BitVec.ofInt (IntKind.bits .u8) ((c.val : Nat) : Int) ||| BitVec.ofInt (IntKind.bits .u8) (32 : Int)).toNat) ≤ 122)) = letC c.val := by decide +kernel
theorem f254_w {s : ByteArray} (hs : s.size ≤ 9223372036854775807) : f254 s = some (nameB s) := by
  unfold f254
  rw [oloop_scanB (fun i => (i : Int)) s.size (fun i => badC i (s.data.toList.getD i 0).toNat) (fun _ => .inr false) (d := .inl ()) (e0 := 0) rfl ?_ ?_, name_scan]
  · unfold nameB
    cases nameO s with
    | none =>
      simp (disch := omega) only [obnd_s, obnd_n, oite_ss, oite_t, oite_f, ogrd_t, ogrd_f, obndS_l, obndS_r, ilt_eq, ile_eq, ieq_eq, imax_e, imin_e, k0, k1, k2, k3, k4, k5, k6, k7, k8, k9, reduceIte, k10, k11, k12, k13, k14, k15, k16, k17, k18, k19, k20, k21, k22, k23, k24, k25, k26, k27, k28, f216_e, Option.map_none, Option.getD_none, Option.isNone_none]
      rw [show decide ((1 : Int) ≤ s.size) = decide (1 ≤ s.size) from cle 1 _, show decide ((s.size : Int) ≤ 12) = decide (s.size ≤ 12) from cle _ 12]
    | some _ => simp (disch := omega) only [obnd_s, obnd_n, oite_ss, oite_t, oite_f, ogrd_t, ogrd_f, obndS_l, obndS_r, ilt_eq, ile_eq, ieq_eq, imax_e, imin_e, k0, k1, k2, k3, k4, k5, k6, k7, k8, k9, reduceIte, k10, k11, k12, k13, k14, k15, k16, k17, k18, k19, k20, k21, k22, k23, k24, k25, k26, k27, k28, Option.map_some, Option.getD_some, Option.isNone_some]
  · intro i hi
    have hi' : i < s.data.toList.length := by rw [size_l]; exact hi
    rw [getD_i hi']
    have hc := (s.data.toList[i]).toNat_lt
    have ho := orC ⟨(s.data.toList[i]).toNat, by omega⟩
    simp only at ho
    simp (disch := omega) only [obnd_s, obnd_n, oite_ss, oite_t, oite_f, ogrd_t, ogrd_f, obndS_l, obndS_r, ilt_eq, ile_eq, ieq_eq, imax_e, imin_e, k0, k1, k2, k3, k4, k5, k6, k7, k8, k9, reduceIte, k10, k11, k12, k13, k14, k15, k16, k17, k18, k19, k20, k21, k22, k23, k24, k25, k26, k27, k28, hi', get_i hi', f216_e, wr]
    rw [ho]
    generalize (s.data.toList[i]).toNat = c at *
    unfold badC
    rw [show decide ((i : Int) = 0) = decide (i = 0) from ceq 0 i, show decide ((c : Int) = 45) = decide (c = 45) from ceq 45 c, show decide ((48 : Int) ≤ c) = decide (48 ≤ c) from cle 48 c, show decide ((c : Int) ≤ 57) = decide (c ≤ 57) from cle c 57]
    cases letC c <;> cases decide (i = 0) <;> cases decide (c = 45) <;> rfl
  · simp (disch := omega) only [obnd_s, obnd_n, oite_ss, oite_t, oite_f, ogrd_t, ogrd_f, obndS_l, obndS_r, ilt_eq, ile_eq, ieq_eq, imax_e, imin_e, k0, k1, k2, k3, k4, k5, k6, k7, k8, k9, reduceIte, k10, k11, k12, k13, k14, k15, k16, k17, k18, k19, k20, k21, k22, k23, k24, k25, k26, k27, k28, Int.lt_irrefl, size_l]
theorem f254_e {s : ByteArray} (hs : s.size < 4611686018427387904) : f254 s = some (nameB s) := f254_w (by omega)
theorem f91_w {s : ByteArray} (hs : s.size ≤ 9223372036854775807) : f91 s = some (nameB s) := by
  unfold f91
  rw [oloop_scanB (fun i => (i : Int)) s.size (fun i => badC i (s.data.toList.getD i 0).toNat) (fun _ => .inr false) (d := .inl ()) (e0 := 0) rfl ?_ ?_, name_scan]
  · have hsz : (decide ((s.size : Int) < 1) || decide (12 < (s.size : Int))) = !(decide (1 ≤ s.size) && decide (s.size ≤ 12)) := by
      rw [show decide ((s.size : Int) < 1) = !decide (1 ≤ s.size) by rw [← decide_not]; congr 1; exact propext (by omega), show decide (12 < (s.size : Int)) = !decide (s.size ≤ 12) by rw [← decide_not]; congr 1; exact propext (by omega)]
      cases decide (1 ≤ s.size) <;> cases decide (s.size ≤ 12) <;> rfl
    unfold nameB
    cases nameO s with
    | none =>
      simp (disch := omega) only [obnd_s, obnd_n, oite_ss, oite_t, oite_f, ogrd_t, ogrd_f, obndS_l, obndS_r, ilt_eq, ile_eq, ieq_eq, imax_e, imin_e, k0, k1, k2, k3, k4, k5, k6, k7, k8, k9, reduceIte, k10, k11, k12, k13, k14, k15, k16, k17, k18, k19, k20, k21, k22, k23, k24, k25, k26, k27, k28, Option.map_none, Option.getD_none, Option.isNone_none, hsz]
      first | done | (cases (decide (1 ≤ s.size) && decide (s.size ≤ 12)) <;> rfl)
    | some _ =>
      simp (disch := omega) only [obnd_s, obnd_n, oite_ss, oite_t, oite_f, ogrd_t, ogrd_f, obndS_l, obndS_r, ilt_eq, ile_eq, ieq_eq, imax_e, imin_e, k0, k1, k2, k3, k4, k5, k6, k7, k8, k9, reduceIte, k10, k11, k12, k13, k14, k15, k16, k17, k18, k19, k20, k21, k22, k23, k24, k25, k26, k27, k28, Option.map_some, Option.getD_some, Option.isNone_some, hsz]
  · intro i hi
    have hi' : i < s.data.toList.length := by rw [size_l]; exact hi
    rw [getD_i hi']
    simp (disch := omega) only [obnd_s, obnd_n, oite_ss, oite_t, oite_f, ogrd_t, ogrd_f, obndS_l, obndS_r, ilt_eq, ile_eq, ieq_eq, imax_e, imin_e, k0, k1, k2, k3, k4, k5, k6, k7, k8, k9, reduceIte, k10, k11, k12, k13, k14, k15, k16, k17, k18, k19, k20, k21, k22, k23, k24, k25, k26, k27, k28, hi', hi, get_i hi', wr]
    generalize (s.data.toList[i]).toNat = c at *
    have e : (!((decide ((97 : Int) ≤ c) && decide ((c : Int) ≤ 122)) || (decide ((65 : Int) ≤ c) && decide ((c : Int) ≤ 90))) && (decide ((i : Int) = 0) || (!decide ((c : Int) = 45) && (decide ((c : Int) < 48) || decide (57 < (c : Int)))))) = badC i c := by
      unfold badC letC; rw [Bool.eq_iff_iff]; simp; omega
    rw [e]; rfl
  · simp (disch := omega) only [obnd_s, obnd_n, oite_ss, oite_t, oite_f, ogrd_t, ogrd_f, obndS_l, obndS_r, ilt_eq, ile_eq, ieq_eq, imax_e, imin_e, k0, k1, k2, k3, k4, k5, k6, k7, k8, k9, reduceIte, k10, k11, k12, k13, k14, k15, k16, k17, k18, k19, k20, k21, k22, k23, k24, k25, k26, k27, k28, Int.lt_irrefl]
theorem f91_e {s : ByteArray} (hs : s.size < 4611686018427387904) : f91 s = some (nameB s) := f91_w (by omega)
theorem obnd_of {α β : Type} {x : Option α} {a : α} {f : α → Option β} (h : x = some a) : obnd x f = f a := by rw [h]; rfl
def errs (f : Nat → Int) (n : Nat) : Option (Int × Int) := scanF (fun i => bif !decide (f i = 0) then some ((i : Int), f i) else none) n 0
theorem errs_scan {σ : Type} (f : Nat → Int) (n : Nat) (k : Int × Int → σ) : scanF (fun i => bif !decide (f i = 0) then some (k ((i : Int), f i)) else none) n 0 = (errs f n).map k := by
 unfold errs; rw [← scanF_map]
 refine scanF_congr fun i _ _ => ?_
 cases (!decide (f i = 0)) <;> rfl
theorem errs_none {f : Nat → Int} {n : Nat} (h : errs f n = none) : ∀ i, i < n → f i = 0 := by
 intro i hi
 have := scanF_none h i (Nat.zero_le _) (by omega)
 cases hd : decide (f i = 0) with
 | true => exact of_decide_eq_true hd
 | false => rw [hd] at this; cases this
theorem errs_some {f : Nat → Int} {n : Nat} {r : Int × Int} (h : errs f n = some r) : r.2 ≠ 0 := by
  unfold errs at h
  have key : ∀ (k i : Nat), scanF (fun i => bif !decide (f i = 0) then some ((i : Int), f i) else none) k i = some r → r.2 ≠ 0 := by
    intro k
    induction k with
    | zero => intro i h; cases h
    | succ k ih =>
      intro i h
      simp only [scanF] at h
      cases hd : decide (f i = 0) with
      | true => rw [hd] at h; exact ih (i + 1) h
      | false => rw [hd] at h; injection h with h; rw [← h]; exact of_decide_eq_false hd
  exact key n 0 h
theorem errs_get {f : Nat → Int} {n : Nat} (h : ((errs f n).getD (0, 0)).2 = 0) : (errs f n).getD (0, 0) = (0, 0) ∧ ∀ i, i < n → f i = 0 := by
 cases he : errs f n with
 | none => exact ⟨rfl, errs_none he⟩
 | some r => rw [he] at h; exact absurd h (errs_some he)
def gm (M : List (ByteArray × Int × Int × Int)) (i : Nat) : ByteArray × Int × Int × Int := M.getD i (⟨#[]⟩, 0, 0, 0)
theorem get_gm {M : List (ByteArray × Int × Int × Int)} {i : Nat} (h : i < M.length) : M[i]? = some (gm M i) := by unfold gm; rw [getD_i h, List.getElem?_eq_getElem h]
def gh (H : List (Int × Int × Int)) (i : Nat) : Int × Int × Int := H.getD i (0, 0, 0)
theorem get_gh {H : List (Int × Int × Int)} {i : Nat} (h : i < H.length) : H[i]? = some (gh H i) := by unfold gh; rw [getD_i h, List.getElem?_eq_getElem h]
def s4 (n : Int) : Bool := decide (-10000 ≤ n) && decide (n ≤ 10000)
def z4 (n : Int) : Bool := decide (0 ≤ n) && decide (n ≤ 10000)
def vol (n : Int) : Bool := decide (0 ≤ n) && decide (n ≤ 1000000)
def knownM (M : List (ByteArray × Int × Int × Int)) (i : Nat) : Bool := (M.take i).any fun x => x.1.toList == (gm M i).1.toList
def modE (M : List (ByteArray × Int × Int × Int)) (i : Nat) : Int := bif !nameB (gm M i).1 then 4 else bif knownM M i then 5 else bif !(s4 (gm M i).2.1 && s4 (gm M i).2.2.1 && z4 (gm M i).2.2.2) then 2 else 0
def pltE (lo up : Int) (n : Nat) : Int := bif !(vol lo && vol up) then 2 else bif !decide (lo ≤ up) then 9 else bif !decide (up - lo < 40) then 8 else bif !decide ((0 : Int) < n) then 10 else bif !decide ((n : Int) ≤ 5) then 8 else 0
def ckP (lo up : Int) (M : List (ByteArray × Int × Int × Int)) : Int × Int := bif !decide (pltE lo up M.length = 0) then (0, pltE lo up M.length) else (errs (modE M) M.length).getD (0, 0)
theorem f256_e (n : Int) : f256 n = some (vol n) := by unfold f256; rw [f216_e]; rfl
theorem f235_4 (n : Int) : f235 n 10000 = some (s4 n) := by
 unfold f235; rw [show IntKind.i64.wrap (0 - 10000) = -10000 by rw [wr (by omega) (by omega)]; rfl, f216_e]; rfl
theorem f258_e (a : ByteArray) (b c d : Int) (e : ByteArray) (f g h : Int) : f258 a b c d e f g h = some (a.toList == e.toList) := rfl
theorem f262_e {p : ByteArray → Int → Int → Int → Option Bool} {l : List (ByteArray × Int × Int × Int)} (q : ByteArray × Int × Int × Int → Bool) (hp : ∀ x, x ∈ l → p x.1 x.2.1 x.2.2.1 x.2.2.2 = some (q x)) (hl : l.length < 4611686018427387904) : f262 p l = some (findI q l) := by
 unfold f262
 rw [oloop_scanB (fun i => (i : Int)) l.length (fun i => q (l.getD i (⟨#[]⟩, 0, 0, 0))) (fun i => .inr (i : Int)) (d := .inl ()) (e0 := 0) rfl ?_ ?_, scan_find q _ _ l.length l 0 (by omega)]
 · rw [List.drop_zero]; unfold findI
   cases l.findIdx? q with
   | none => rfl
   | some i => simp [obndS_r]
 · intro i hi
   rw [getD_i hi]
   have := hp l[i] (List.getElem_mem hi)
   simp (disch := omega) only [obnd_s, obnd_n, oite_ss, oite_t, oite_f, ogrd_t, ogrd_f, obndS_l, obndS_r, ilt_eq, ile_eq, ieq_eq, imax_e, imin_e, k0, k1, k2, k3, k4, k5, k6, k7, k8, k9, reduceIte, k10, k11, k12, k13, k14, k15, k16, k17, k18, k19, k20, k21, k22, k23, k24, k25, k26, k27, k28, hi, get_i hi, wr, this]; rfl
 · simp (disch := omega) only [obnd_s, obnd_n, oite_ss, oite_t, oite_f, ogrd_t, ogrd_f, obndS_l, obndS_r, ilt_eq, ile_eq, ieq_eq, imax_e, imin_e, k0, k1, k2, k3, k4, k5, k6, k7, k8, k9, reduceIte, k10, k11, k12, k13, k14, k15, k16, k17, k18, k19, k20, k21, k22, k23, k24, k25, k26, k27, k28, Int.lt_irrefl]
theorem f257_e {p : ByteArray → Int → Int → Int → Option Bool} {l : List (ByteArray × Int × Int × Int)} (q : ByteArray × Int × Int × Int → Bool) (hp : ∀ x, x ∈ l → p x.1 x.2.1 x.2.2.1 x.2.2.2 = some (q x)) (hl : l.length < 4611686018427387904) : f257 p l = some (l.any q) := by
 unfold f257
 rw [f262_e q hp hl]
 simp (disch := omega) only [obnd_s, obnd_n, oite_ss, oite_t, oite_f, ogrd_t, ogrd_f, obndS_l, obndS_r, ilt_eq, ile_eq, ieq_eq, imax_e, imin_e, k0, k1, k2, k3, k4, k5, k6, k7, k8, k9, reduceIte, k10, k11, k12, k13, k14, k15, k16, k17, k18, k19, k20, k21, k22, k23, k24, k25, k26, k27, k28, findI_any]
theorem f249_e {lo up : Int} {M : List (ByteArray × Int × Int × Int)} (hM : M.length < 4611686018427387904) (hs : ∀ p, p ∈ M → p.1.size < 4611686018427387904) : f249 lo up M = some (ckP lo up M) := by
  unfold f249
  refine (obnd_of (a := pltE lo up M.length) ?_).trans ?_
  · rw [f256_e, f256_e]
    simp only [obnd_s, f214_e]
    cases h1 : vol lo with
    | false => rw [oite_f, f213_e (by simp)]; unfold pltE; rw [h1]; rfl
    | true =>
      cases h2 : vol up with
      | false => rw [oite_t, f213_e (by simp)]; unfold pltE; rw [h1, h2]; rfl
      | true =>
        have h3 := h1; have h4 := h2
        unfold vol at h3 h4
        simp only [Bool.and_eq_true, decide_eq_true_eq] at h3 h4
        rw [oite_t, f213_e (by simp)]; unfold pltE; rw [h1, h2, wr (by omega) (by omega), ile_eq, ilt_eq, ilt_eq, ile_eq, List.length_map]
        cases decide (lo ≤ up) <;> cases decide (up - lo < 40) <;> cases decide ((0 : Int) < (M.length : Int)) <;> cases decide ((M.length : Int) ≤ 5) <;> rfl
  · unfold ckP
    rw [ieq_eq]
    cases h1 : decide (pltE lo up M.length = 0) with
    | false => rfl
    | true =>
      simp (disch := omega) only [obnd_s, obnd_n, oite_ss, oite_t, oite_f, ogrd_t, ogrd_f, obndS_l, obndS_r, ilt_eq, ile_eq, ieq_eq, imax_e, imin_e, k0, k1, k2, k3, k4, k5, k6, k7, k8, k9, reduceIte, k10, k11, k12, k13, k14, k15, k16, k17, k18, k19, k20, k21, k22, k23, k24, k25, k26, k27, k28]
      rw [oloop_scanB (fun i => (i : Int)) M.length (fun i => !decide (modE M i = 0)) (fun i => .inr ((i : Int), modE M i)) (d := .inl ()) (e0 := 0) rfl ?_ ?_, errs_scan (modE M) M.length (Sum.inr : Int × Int → Unit ⊕ (Int × Int))]
      · cases errs (modE M) M.length <;> rfl
      · intro i hi
        have hn := hs (gm M i) (by unfold gm; rw [getD_i hi]; exact List.getElem_mem hi)
        simp (disch := omega) only [obnd_s, obnd_n, oite_ss, oite_t, oite_f, ogrd_t, ogrd_f, obndS_l, obndS_r, ilt_eq, ile_eq, ieq_eq, imax_e, imin_e, k0, k1, k2, k3, k4, k5, k6, k7, k8, k9, reduceIte, k10, k11, k12, k13, k14, k15, k16, k17, k18, k19, k20, k21, k22, k23, k24, k25, k26, k27, k28, hi, get_gm hi, f254_e hn, oslH_n (Nat.le_of_lt hi), f257_e (p := fun z0 z1 z2 z3 => f258 z0 z1 z2 z3 (gm M i).1 (gm M i).2.1 (gm M i).2.2.1 (gm M i).2.2.2) (l := M.take i) (fun x => x.1.toList == (gm M i).1.toList) (fun _ _ => f258_e _ _ _ _ _ _ _ _) (by rw [List.length_take]; omega), f216_e, f235_4, f214_e, f213_3, wr]
        unfold modE
        rw [show (List.any (M.take i) fun x => x.1.toList == (gm M i).1.toList) = knownM M i from rfl, show (decide (0 ≤ (gm M i).2.2.2) && decide ((gm M i).2.2.2 ≤ 10000)) = z4 (gm M i).2.2.2 from rfl]
        cases nameB (gm M i).1 <;> cases knownM M i <;> cases s4 (gm M i).2.1 <;> cases s4 (gm M i).2.2.1 <;> cases z4 (gm M i).2.2.2 <;> rfl
      · simp (disch := omega) only [obnd_s, obnd_n, oite_ss, oite_t, oite_f, ogrd_t, ogrd_f, obndS_l, obndS_r, ilt_eq, ile_eq, ieq_eq, imax_e, imin_e, k0, k1, k2, k3, k4, k5, k6, k7, k8, k9, reduceIte, k10, k11, k12, k13, k14, k15, k16, k17, k18, k19, k20, k21, k22, k23, k24, k25, k26, k27, k28, Int.lt_irrefl]
def hourE (H : List (Int × Int × Int)) (i : Nat) : Int := bif !(s4 (gh H i).1 && s4 (gh H i).2.1 && s4 (gh H i).2.2) then 2 else bif !decide ((gh H i).2.1 ≤ (gh H i).1) then 9 else 0
def tskE (lo up : Int) (n : Nat) (v m w : Int) (k : Nat) : Int := bif !(decide (lo ≤ v) && decide (v ≤ up)) then 2 else bif !(decide (0 ≤ m) && decide (m ≤ (n : Int) - 1)) then 6 else bif !s4 w then 2 else bif !decide ((0 : Int) < k) then 10 else bif !decide ((k : Int) ≤ 10) then 8 else 0
def ckT (lo up : Int) (M : List (ByteArray × Int × Int × Int)) (v m w : Int) (H : List (Int × Int × Int)) : Int × Int :=
 bif !decide ((ckP lo up M).2 = 0) then (0, (ckP lo up M).2) else bif !decide (tskE lo up M.length v m w H.length = 0) then (0, tskE lo up M.length v m w H.length) else (errs (hourE H) H.length).getD (0, 0)
structure okT (lo up : Int) (M : List (ByteArray × Int × Int × Int)) (v m w : Int) (H : List (Int × Int × Int)) : Prop where
 lo0 : 0 ≤ lo
 hi1 : up ≤ 1000000
 lohi : lo ≤ up
 span : up - lo < 40
 mpos : 0 < M.length
 mfew : M.length ≤ 5
 mode : ∀ i, i < M.length → (-10000 ≤ (gm M i).2.1 ∧ (gm M i).2.1 ≤ 10000) ∧ (-10000 ≤ (gm M i).2.2.1 ∧ (gm M i).2.2.1 ≤ 10000) ∧ (0 ≤ (gm M i).2.2.2 ∧ (gm M i).2.2.2 ≤ 10000)
 vlo : lo ≤ v
 vhi : v ≤ up
 m0 : 0 ≤ m
 m1 : m < M.length
 w4 : -10000 ≤ w ∧ w ≤ 10000
 hpos : 0 < H.length
 hfew : H.length ≤ 10
 hour : ∀ i, i < H.length → (-10000 ≤ (gh H i).1 ∧ (gh H i).1 ≤ 10000) ∧ (-10000 ≤ (gh H i).2.1 ∧ (gh H i).2.1 ≤ 10000) ∧ (-10000 ≤ (gh H i).2.2 ∧ (gh H i).2.2 ≤ 10000)
theorem s4_p {n : Int} (h : s4 n = true) : -10000 ≤ n ∧ n ≤ 10000 := by simpa [s4] using h
theorem z4_p {n : Int} (h : z4 n = true) : 0 ≤ n ∧ n ≤ 10000 := by simpa [z4] using h
theorem vol_p {n : Int} (h : vol n = true) : 0 ≤ n ∧ n ≤ 1000000 := by simpa [vol] using h
theorem modE_0 {M : List (ByteArray × Int × Int × Int)} {i : Nat} (h : modE M i = 0) : (-10000 ≤ (gm M i).2.1 ∧ (gm M i).2.1 ≤ 10000) ∧ (-10000 ≤ (gm M i).2.2.1 ∧ (gm M i).2.2.1 ≤ 10000) ∧ (0 ≤ (gm M i).2.2.2 ∧ (gm M i).2.2.2 ≤ 10000) := by
  unfold modE at h
  cases h1 : nameB (gm M i).1 with
  | false => rw [h1] at h; cases h
  | true =>
    cases h2 : knownM M i with
    | true => rw [h1, h2] at h; cases h
    | false =>
      cases h3 : (s4 (gm M i).2.1 && s4 (gm M i).2.2.1 && z4 (gm M i).2.2.2) with
      | false => rw [h1, h2, h3] at h; cases h
      | true =>
        simp only [Bool.and_eq_true] at h3
        exact ⟨s4_p h3.1.1, s4_p h3.1.2, z4_p h3.2⟩
theorem hourE_0 {H : List (Int × Int × Int)} {i : Nat} (h : hourE H i = 0) : (-10000 ≤ (gh H i).1 ∧ (gh H i).1 ≤ 10000) ∧ (-10000 ≤ (gh H i).2.1 ∧ (gh H i).2.1 ≤ 10000) ∧ (-10000 ≤ (gh H i).2.2 ∧ (gh H i).2.2 ≤ 10000) := by
  unfold hourE at h
  cases h3 : (s4 (gh H i).1 && s4 (gh H i).2.1 && s4 (gh H i).2.2) with
  | false => rw [h3] at h; cases h
  | true =>
    simp only [Bool.and_eq_true] at h3
    exact ⟨s4_p h3.1.1, s4_p h3.1.2, s4_p h3.2⟩
theorem pltE_0 {lo up : Int} {n : Nat} (h : pltE lo up n = 0) : (0 ≤ lo ∧ up ≤ 1000000 ∧ lo ≤ up ∧ up - lo < 40) ∧ 0 < n ∧ n ≤ 5 := by
  unfold pltE at h
  cases h1 : (vol lo && vol up) with
  | false => rw [h1] at h; cases h
  | true =>
    cases h2 : decide (lo ≤ up) with
    | false => rw [h1, h2] at h; cases h
    | true =>
      cases h3 : decide (up - lo < 40) with
      | false => rw [h1, h2, h3] at h; cases h
      | true =>
        cases h4 : decide ((0 : Int) < n) with
        | false => rw [h1, h2, h3, h4] at h; cases h
        | true =>
          cases h5 : decide ((n : Int) ≤ 5) with
          | false => rw [h1, h2, h3, h4, h5] at h; cases h
          | true =>
            simp only [Bool.and_eq_true] at h1
            have a := vol_p h1.1; have b := vol_p h1.2
            simp only [decide_eq_true_eq] at h2 h3 h4 h5
            omega
theorem tskE_0 {lo up v m w : Int} {n k : Nat} (h : tskE lo up n v m w k = 0) : (lo ≤ v ∧ v ≤ up) ∧ (0 ≤ m ∧ m < n) ∧ (-10000 ≤ w ∧ w ≤ 10000) ∧ 0 < k ∧ k ≤ 10 := by
  unfold tskE at h
  cases h1 : (decide (lo ≤ v) && decide (v ≤ up)) with
  | false => rw [h1] at h; cases h
  | true =>
    cases h2 : (decide (0 ≤ m) && decide (m ≤ (n : Int) - 1)) with
    | false => rw [h1, h2] at h; cases h
    | true =>
      cases h3 : s4 w with
      | false => rw [h1, h2, h3] at h; cases h
      | true =>
        cases h4 : decide ((0 : Int) < k) with
        | false => rw [h1, h2, h3, h4] at h; cases h
        | true =>
          cases h5 : decide ((k : Int) ≤ 10) with
          | false => rw [h1, h2, h3, h4, h5] at h; cases h
          | true =>
            have a := s4_p h3
            simp only [Bool.and_eq_true, decide_eq_true_eq] at h1 h2 h4 h5
            omega
theorem ckP_0 {lo up : Int} {M : List (ByteArray × Int × Int × Int)} (h : (ckP lo up M).2 = 0) : ckP lo up M = (0, 0) ∧ pltE lo up M.length = 0 ∧ ∀ i, i < M.length → modE M i = 0 := by
  unfold ckP at h ⊢
  cases h1 : decide (pltE lo up M.length = 0) with
  | false => rw [h1] at h; exact absurd h (of_decide_eq_false h1)
  | true =>
    rw [h1] at h
    obtain ⟨h2, h3⟩ := errs_get h
    exact ⟨h2, of_decide_eq_true h1, h3⟩
theorem ckT_0 {lo up v m w : Int} {M : List (ByteArray × Int × Int × Int)} {H : List (Int × Int × Int)} (h : (ckT lo up M v m w H).2 = 0) : ckT lo up M v m w H = (0, 0) ∧ okT lo up M v m w H := by
  unfold ckT at h ⊢
  cases h1 : decide ((ckP lo up M).2 = 0) with
  | false => rw [h1] at h; exact absurd h (of_decide_eq_false h1)
  | true =>
    cases h2 : decide (tskE lo up M.length v m w H.length = 0) with
    | false => rw [h1, h2] at h; exact absurd h (of_decide_eq_false h2)
    | true =>
      rw [h1, h2] at h
      obtain ⟨h3, h4⟩ := errs_get h
      obtain ⟨_, h5, h6⟩ := ckP_0 (of_decide_eq_true h1)
      obtain ⟨⟨p1, p2, p3, p4⟩, p5, p6⟩ := pltE_0 h5
      obtain ⟨⟨q1, q2⟩, ⟨q3, q4⟩, q5, q6, q7⟩ := tskE_0 (of_decide_eq_true h2)
      exact ⟨h3, ⟨p1, p2, p3, p4, p5, p6, fun i hi => modE_0 (h6 i hi), q1, q2, q3, q4, q5, q6, q7, fun i hi => hourE_0 (h4 i hi)⟩⟩
end
section
set_option linter.unusedSimpArgs false
set_option linter.unusedVariables false
open Go Go.RowKit
theorem numB_num {s : ByteArray} {d : Int} {b : Bool} (h : numB s d b = true) : numOf s d (numV s) ∧ (b = true ∨ 0 ≤ numV s) := by
 unfold numB at h
 unfold numV
 cases ha : Lib.atoiAll s.data.toList
 · rename_i v
   rw [ha] at h
   simp only [Bool.and_eq_true, Bool.or_eq_true, decide_eq_true_eq] at h
   obtain ⟨⟨e1, e2⟩, e3⟩ := h
   rw [Lib.toList_data] at e1
   rw [← e1, itoa_trim] at e3
   exact ⟨⟨e1.symm, e3⟩, e2⟩
 · rw [ha] at h; cases h
 · rw [ha] at h; cases h
theorem numB_f (s : ByteArray) (d : Int) : numB s d false = (numB s d true && decide (0 ≤ numV s)) := by
 unfold numB numV
 cases Lib.atoiAll s.data.toList
 · simp only [Bool.false_or, Bool.true_or, Bool.and_true]
   rw [Bool.and_right_comm]
 · rfl
 · rfl
theorem numB_f' (s : ByteArray) (b : Bool) : numB s 7 b = (numB s 7 true && (b || decide (0 ≤ numV s))) := by
 cases b with
 | false => rw [numB_f]; rfl
 | true => simp
theorem f387_n {s : ByteArray} (hs : s.size ≤ 999) : f387 s 7 = some (bif numB s 7 true then (numV s, true) else (0, false)) := by
  cases h : numB s 7 true with
  | true => exact f387_t (numB_num h).1 (by omega) hs
  | false =>
    refine f387_f (fun ⟨v, hv⟩ => ?_) (by omega) hs
    have := (num_t (b := true) hv (by omega) (.inl rfl)).1
    rw [h] at this; cases this
theorem f394_e {s : ByteArray} (hs : s.size ≤ 999) : f394 s = some (numV s, numO s) := by
 unfold f394; rw [decide_eq_true (by omega)]; rfl
theorem numO_v {s : ByteArray} (h : numO s = true) : ∃ v, Lib.atoiAll s.data.toList = .ok v ∧ numV s = v ∧ (-9223372036854775808 ≤ v ∧ v ≤ 9223372036854775807) := by
 unfold numO at h
 unfold numV
 cases ha : Lib.atoiAll s.data.toList
 · rename_i v; exact ⟨v, rfl, rfl, Lib.atoiAll_bounds ha⟩
 · rw [ha] at h; cases h
 · rw [ha] at h; cases h
theorem trim_sz (s : ByteArray) : ((⟨(Lib.trimPrefix s.data.toList [45]).toArray⟩ : ByteArray).size : Int) = ((Lib.trimPrefix s.data.toList [45]).length : Int) := by
 show (((Lib.trimPrefix s.data.toList [45]).toArray.size : Nat) : Int) = _
 simp
theorem chk_f (s : ByteArray) : oite (numO s) (obnd (f385 (numV s)) fun (y : ByteArray) => oite ((!(y.toList == s.toList))) (some true) (oite ((ilt (numV s) (0 : Int))) (some true) (obnd (f395 s (⟨#[45]⟩ : ByteArray)) fun (z : ByteArray) => some (ilt (7 : Int) (z.size : Int))))) (some true) = some (!numB s 7 false) := by
  cases h : numO s with
  | false =>
    rw [oite_f]
    unfold numB; unfold numO at h
    cases ha : Lib.atoiAll s.data.toList
    · rw [ha] at h; cases h
    · rfl
    · rfl
  | true =>
    obtain ⟨v, h1, h2, h3⟩ := numO_v h
    have h5 : f385 (numV s) = some ⟨(Lib.itoa v).toArray⟩ := by unfold f385; rw [h2, show in64 v = true from decide_eq_true h3]; rfl
    have h6 : (⟨(Lib.itoa v).toArray⟩ : ByteArray).toList = Lib.itoa v := by rw [Lib.toList_data]
    unfold f395
    rw [oite_t, h5, obnd_s, obnd_s, h6, trim_sz, ilt_eq, ilt_eq, h2]
    unfold numB
    rw [h1]
    simp only [Bool.false_or]
    cases h7 : (Lib.itoa v == s.toList) with
    | false =>
      have : ¬ Lib.itoa v = s.toList := fun e => by rw [e] at h7; simp at h7
      rw [decide_eq_false this]; rfl
    | true =>
      rw [decide_eq_true (eq_of_beq h7)]
      by_cases h8 : v < 0
      · rw [decide_eq_true h8, decide_eq_false (show ¬ 0 ≤ v by omega)]; rfl
      · rw [decide_eq_false h8, decide_eq_true (show 0 ≤ v by omega)]
        by_cases h9 : (7 : Int) < ((Lib.trimPrefix s.data.toList [45]).length : Int)
        · rw [decide_eq_true h9, decide_eq_false (show ¬ ((Lib.trimPrefix s.data.toList [45]).length : Int) ≤ 7 by omega)]; rfl
        · rw [decide_eq_false h9, decide_eq_true (show ((Lib.trimPrefix s.data.toList [45]).length : Int) ≤ 7 by omega)]; rfl
theorem chk_t (s : ByteArray) : oite (numO s) (obnd (f385 (numV s)) fun (y : ByteArray) => oite ((!(y.toList == s.toList))) (some true) (oite ((ilt (numV s) (0 : Int))) (obnd (f395 s (⟨#[45]⟩ : ByteArray)) fun (z : ByteArray) => some (ilt (7 : Int) (z.size : Int))) (obnd (f395 s (⟨#[45]⟩ : ByteArray)) fun (z : ByteArray) => some (ilt (7 : Int) (z.size : Int))))) (some true) = some (!numB s 7 true) := by
  cases h : numO s with
  | false =>
    rw [oite_f]
    unfold numB; unfold numO at h
    cases ha : Lib.atoiAll s.data.toList
    · rw [ha] at h; cases h
    · rfl
    · rfl
  | true =>
    obtain ⟨v, h1, h2, h3⟩ := numO_v h
    have h5 : f385 (numV s) = some ⟨(Lib.itoa v).toArray⟩ := by unfold f385; rw [h2, show in64 v = true from decide_eq_true h3]; rfl
    have h6 : (⟨(Lib.itoa v).toArray⟩ : ByteArray).toList = Lib.itoa v := by rw [Lib.toList_data]
    unfold f395
    rw [oite_t, h5, obnd_s, obnd_s, h6, trim_sz, ilt_eq, ilt_eq, h2]
    unfold numB
    rw [h1]
    simp only [Bool.true_or, Bool.and_true]
    cases h7 : (Lib.itoa v == s.toList) with
    | false =>
      have : ¬ Lib.itoa v = s.toList := fun e => by rw [e] at h7; simp at h7
      rw [decide_eq_false this]; rfl
    | true =>
      rw [decide_eq_true (eq_of_beq h7)]
      have e : decide ((7 : Int) < ((Lib.trimPrefix s.data.toList [45]).length : Int)) = !decide (((Lib.trimPrefix s.data.toList [45]).length : Int) ≤ 7) := by rw [← decide_not]; congr 1; exact propext (by omega)
      rw [e]
      cases decide (v < 0) <;> rfl
def nums (w : List ByteArray) (n k : Nat) : Option (List Int) := bif decide (w.length = n) && (List.range n).all fun i => numB (w.getD i ⟨#[]⟩) 7 (decide (k ≤ i)) then some (w.map numV) else none
theorem nums_len {w : List ByteArray} {n k : Nat} {l : List Int} (h : nums w n k = some l) : l.length = n ∧ w.length = n ∧ l = w.map numV := by
  unfold nums at h
  cases h1 : decide (w.length = n) && (List.range n).all fun i => numB (w.getD i ⟨#[]⟩) 7 (decide (k ≤ i)) with
  | false => rw [h1] at h; cases h
  | true =>
    rw [h1] at h
    simp only [cond_true, Option.some.injEq] at h
    simp only [Bool.and_eq_true, decide_eq_true_eq] at h1
    subst h
    exact ⟨by rw [List.length_map]; exact h1.1, h1.1, rfl⟩
theorem f473_e {w : List ByteArray} {n k : Nat} (hn : n ≤ 10) (hk : k ≤ 10) (hs : ∀ x, x ∈ w → x.size ≤ 999) : f473 w (n : Int) (k : Int) = some (match nums w n k with | some l => (l, true) | none => ([], false)) := by
  unfold f473
  by_cases hl : w.length = n
  · subst hl
    simp only [ieq_eq, List.length_map, decide_true, Bool.not_true, oite_f]
    rw [oloop_scan (fun i => ((w.take i).map numV, (i : Int))) w.length (fun i => bif numB (w.getD i ⟨#[]⟩) 7 (decide (k ≤ i)) then none else some (.inr (([] : List Int), false))) (d := .inl (w.map numV)) (e0 := (([] : List Int), (0 : Int))) rfl ?_ ?_]
    · unfold nums
      rw [decide_eq_true rfl, Bool.true_and]
      cases h1 : (List.range w.length).all fun i => numB (w.getD i ⟨#[]⟩) 7 (decide (k ≤ i)) with
      | true =>
        rw [scanF_of_none]
        · rfl
        · intro j _ hj
          have := List.all_eq_true.1 h1 j (List.mem_range.2 (by omega))
          rw [this]; rfl
      | false =>
        have h2 : ∃ j, 0 ≤ j ∧ j < 0 + w.length ∧ (!numB (w.getD j ⟨#[]⟩) 7 (decide (k ≤ j))) = true := by
          rw [List.all_eq_false] at h1
          obtain ⟨j, hj, h3⟩ := h1
          exact ⟨j, Nat.zero_le _, by have := List.mem_range.1 hj; omega, by simpa using h3⟩
        have h3 := scanF_c (ρ := List Int ⊕ (List Int × Bool)) (r := .inr (([] : List Int), false)) h2
        rw [show (fun i => bif numB (w.getD i ⟨#[]⟩) 7 (decide (k ≤ i)) then none else some (.inr (([] : List Int), false))) = (fun i => bif !numB (w.getD i ⟨#[]⟩) 7 (decide (k ≤ i)) then some (.inr (([] : List Int), false)) else none : Nat → Option (List Int ⊕ (List Int × Bool))) from funext fun i => by cases numB (w.getD i ⟨#[]⟩) 7 (decide (k ≤ i)) <;> rfl, h3]
        rfl
    · intro i hi
      have hx := hs w[i] (List.getElem_mem hi)
      rw [getD_i hi, numB_f' w[i] (decide (k ≤ i))]
      simp (disch := omega) only [obnd_s, obnd_n, oite_ss, oite_t, oite_f, ogrd_t, ogrd_f, obndS_l, obndS_r, ilt_eq, ile_eq, ieq_eq, imax_e, imin_e, k0, k1, k2, k3, k4, k5, k6, k7, k8, k9, reduceIte, k10, k11, k12, k13, k14, k15, k16, k17, k18, k19, k20, k21, k22, k23, k24, k25, k26, k27, k28, hi, get_i hi, f387_n hx, wr]
      cases h1 : numB w[i] 7 true with
      | false => rfl
      | true =>
        simp only [cond_true, Bool.not_true, oite_f]
        by_cases h2 : k ≤ i
        · rw [decide_eq_true h2, decide_eq_false (show ¬ i < k by omega)]
          simp (disch := omega) only [obnd_s, obnd_n, oite_ss, oite_t, oite_f, ogrd_t, ogrd_f, obndS_l, obndS_r, ilt_eq, ile_eq, ieq_eq, imax_e, imin_e, k0, k1, k2, k3, k4, k5, k6, k7, k8, k9, reduceIte, k10, k11, k12, k13, k14, k15, k16, k17, k18, k19, k20, k21, k22, k23, k24, k25, k26, k27, k28]
          rw [ogrd_fits (by simp; omega) (by simp; omega), List.take_succ_eq_append_getElem hi]
          simp only [List.map_append, List.map_cons, List.map_nil]; rfl
        · rw [decide_eq_false h2, decide_eq_true (show i < k by omega)]
          by_cases h3 : numV w[i] < 0
          · simp (disch := omega) only [obnd_s, obnd_n, oite_ss, oite_t, oite_f, ogrd_t, ogrd_f, obndS_l, obndS_r, ilt_eq, ile_eq, ieq_eq, imax_e, imin_e, k0, k1, k2, k3, k4, k5, k6, k7, k8, k9, reduceIte, k10, k11, k12, k13, k14, k15, k16, k17, k18, k19, k20, k21, k22, k23, k24, k25, k26, k27, k28, h3, show ¬ 0 ≤ numV w[i] by omega]
          · simp (disch := omega) only [obnd_s, obnd_n, oite_ss, oite_t, oite_f, ogrd_t, ogrd_f, obndS_l, obndS_r, ilt_eq, ile_eq, ieq_eq, imax_e, imin_e, k0, k1, k2, k3, k4, k5, k6, k7, k8, k9, reduceIte, k10, k11, k12, k13, k14, k15, k16, k17, k18, k19, k20, k21, k22, k23, k24, k25, k26, k27, k28, h3, show 0 ≤ numV w[i] by omega]
            rw [ogrd_fits (by simp; omega) (by simp; omega), List.take_succ_eq_append_getElem hi]
            simp only [List.map_append, List.map_cons, List.map_nil]; rfl
    · simp (disch := omega) only [obnd_s, obnd_n, oite_ss, oite_t, oite_f, ogrd_t, ogrd_f, obndS_l, obndS_r, ilt_eq, ile_eq, ieq_eq, imax_e, imin_e, k0, k1, k2, k3, k4, k5, k6, k7, k8, k9, reduceIte, k10, k11, k12, k13, k14, k15, k16, k17, k18, k19, k20, k21, k22, k23, k24, k25, k26, k27, k28, Int.lt_irrefl, List.take_length]
  · have : ¬ ((w.length : Int) = (n : Int)) := by omega
    unfold nums
    rw [decide_eq_false hl]
    simp (disch := omega) only [obnd_s, obnd_n, oite_ss, oite_t, oite_f, ogrd_t, ogrd_f, obndS_l, obndS_r, ilt_eq, ile_eq, ieq_eq, imax_e, imin_e, k0, k1, k2, k3, k4, k5, k6, k7, k8, k9, reduceIte, k10, k11, k12, k13, k14, k15, k16, k17, k18, k19, k20, k21, k22, k23, k24, k25, k26, k27, k28, this]
end
section
set_option linter.unusedSimpArgs false
set_option linter.unusedVariables false
open Go Go.RowKit
def anyN (b : Nat → Bool) : Nat → Nat → Bool
 | 0, _ => false
 | n + 1, i => b i || anyN b n (i + 1)
theorem scan_c {ρ : Type} (b : Nat → Bool) (r : ρ) : ∀ n i : Nat, scanF (fun i => bif b i then some r else none) n i = bif anyN b n i then some r else none
  | 0, i => rfl
  | n + 1, i => by
    simp only [scanF, anyN]
    cases h : b i with
    | true => rfl
    | false => simp only [cond_false, Bool.false_or]; exact scan_c b r n (i + 1)
theorem f307_e {lo up : Int} {M : List (ByteArray × Int × Int × Int)} : ∃ b, f307 lo up M = some b ∧ (b = true → M.length ≤ 7 ∧ ∀ p, p ∈ M → p.1.size ≤ 20) := by
  unfold f307
  simp only [List.length_map, ilt_eq]
  cases h1 : decide ((7 : Int) < ((M.length : Nat) : Int)) with
  | true => exact ⟨false, rfl, fun h => by cases h⟩
  | false =>
    have h1 := of_decide_eq_false h1
    rw [oite_f, oloop_scanB (fun i => (i : Int)) M.length (fun i => decide (20 < (gm M i).1.size)) (fun _ => .inr false) (d := .inl ()) (e0 := 0) rfl ?_ ?_]
    · cases h2 : scanF (fun i => bif decide (20 < (gm M i).1.size) then some (Sum.inr false : Unit ⊕ Bool) else none) M.length 0 with
      | none =>
        refine ⟨true, rfl, fun _ => ⟨by omega, fun p hp => ?_⟩⟩
        obtain ⟨i, hi, rfl⟩ := List.getElem_of_mem hp
        have := scanF_none h2 i (Nat.zero_le _) (by omega)
        unfold gm at this
        rw [getD_i hi] at this
        by_cases h3 : 20 < M[i].1.size
        · rw [decide_eq_true h3] at this; cases this
        · omega
      | some r =>
        have : r = .inr false := by
          rw [scan_c] at h2
          cases h4 : anyN (fun i => decide (20 < (gm M i).1.size)) M.length 0 with
          | true => rw [h4] at h2; injection h2 with h2; exact h2.symm
          | false => rw [h4] at h2; cases h2
        subst this
        exact ⟨false, rfl, fun h => by cases h⟩
    · intro i hi
      have e : decide ((20 : Int) < (((gm M i).1.size : Nat) : Int)) = decide (20 < (gm M i).1.size) := by rw [Bool.eq_iff_iff, decide_eq_true_eq, decide_eq_true_eq]; omega
      simp (disch := omega) only [obnd_s, obnd_n, oite_ss, oite_t, oite_f, ogrd_t, ogrd_f, obndS_l, obndS_r, ilt_eq, ile_eq, ieq_eq, imax_e, imin_e, k0, k1, k2, k3, k4, k5, k6, k7, k8, k9, reduceIte, k10, k11, k12, k13, k14, k15, k16, k17, k18, k19, k20, k21, k22, k23, k24, k25, k26, k27, k28, hi, get_gm hi, wr, e]; rfl
    · simp (disch := omega) only [obnd_s, obnd_n, oite_ss, oite_t, oite_f, ogrd_t, ogrd_f, obndS_l, obndS_r, ilt_eq, ile_eq, ieq_eq, imax_e, imin_e, k0, k1, k2, k3, k4, k5, k6, k7, k8, k9, reduceIte, k10, k11, k12, k13, k14, k15, k16, k17, k18, k19, k20, k21, k22, k23, k24, k25, k26, k27, k28, Int.lt_irrefl]
theorem f308_e {v m w : Int} {H : List (Int × Int × Int)} : f308 v m w H = some (decide (H.length ≤ 12)) := by
 unfold f308
 rw [List.length_map, ile_eq]
 congr 1; rw [Bool.eq_iff_iff, decide_eq_true_eq, decide_eq_true_eq]; omega
theorem f309_e {lo up : Int} {M : List (ByteArray × Int × Int × Int)} (h : M.length ≤ 1000000000) : f309 lo up M = some (lo, up, M) := by
 unfold f309; rw [ogrd_fits (by simp; omega) (by simp; omega)]; rfl
theorem f310_e {v m w : Int} {H : List (Int × Int × Int)} (h : H.length ≤ 1000000000) : f310 v m w H = some (v, m, w, H) := by
 unfold f310; rw [ogrd_fits (by simp; omega) (by simp; omega)]; rfl
theorem f355_e (n : Int) : f355 n = some (s4 n) := by unfold f355; rw [f15_e]; rfl
theorem f364_e {l : List ByteArray} (s : ByteArray) (hl : l.length < 4611686018427387904) : f364 l s = some (l.any fun x => x.toList == s.toList) := by
 unfold f364
 rw [oloop_scanB (fun i => (i : Int)) l.length (fun i => (l.getD i ⟨#[]⟩).toList == s.toList) (fun _ => .inr true) (d := .inl ()) (e0 := 0) rfl ?_ ?_, scan_anyB (fun x => x.toList == s.toList) ⟨#[]⟩ (Sum.inr true : Unit ⊕ Bool) l]
 · cases l.any (fun x => x.toList == s.toList) <;> rfl
 · intro i hi
   rw [getD_i hi]
   simp (disch := omega) only [obnd_s, obnd_n, oite_ss, oite_t, oite_f, ogrd_t, ogrd_f, obndS_l, obndS_r, ilt_eq, ile_eq, ieq_eq, imax_e, imin_e, k0, k1, k2, k3, k4, k5, k6, k7, k8, k9, reduceIte, k10, k11, k12, k13, k14, k15, k16, k17, k18, k19, k20, k21, k22, k23, k24, k25, k26, k27, k28, hi, get_i hi, wr]; rfl
 · simp (disch := omega) only [obnd_s, obnd_n, oite_ss, oite_t, oite_f, ogrd_t, ogrd_f, obndS_l, obndS_r, ilt_eq, ile_eq, ieq_eq, imax_e, imin_e, k0, k1, k2, k3, k4, k5, k6, k7, k8, k9, reduceIte, k10, k11, k12, k13, k14, k15, k16, k17, k18, k19, k20, k21, k22, k23, k24, k25, k26, k27, k28, Int.lt_irrefl]
theorem f354_e {s : ByteArray} {c e z : Int} {l : List ByteArray} (hs : s.size < 4611686018427387904) (hl : l.length < 4611686018427387904) :
  f354 s c e z l = some (bif !nameB s then 4 else bif l.any (fun x => x.toList == s.toList) then 5 else bif !(s4 c && s4 e && z4 z) then 2 else 0) := by
 unfold f354
 rw [f91_e hs, f364_e s hl]
 simp only [obnd_s, f15_e]
 rw [show (decide (-10000 ≤ c) && decide (c ≤ 10000)) = s4 c from rfl, show (decide (-10000 ≤ e) && decide (e ≤ 10000)) = s4 e from rfl, show (decide (0 ≤ z) && decide (z ≤ 10000)) = z4 z from rfl]
 cases nameB s <;> cases l.any (fun x => x.toList == s.toList) <;> cases s4 c <;> cases s4 e <;> cases z4 z <;> rfl
def nms (M : List (ByteArray × Int × Int × Int)) (i : Nat) : List ByteArray := (M.take i).map (·.1)
theorem nms_len {M : List (ByteArray × Int × Int × Int)} {i : Nat} : (nms M i).length ≤ i := by simp [nms]; omega
theorem nms_s {M : List (ByteArray × Int × Int × Int)} {i : Nat} (h : i < M.length) : nms M i ++ [(gm M i).1] = nms M (i + 1) := by
 unfold nms
 rw [List.take_add_one, get_gm h, List.map_append]; rfl
theorem nms_any {M : List (ByteArray × Int × Int × Int)} {i : Nat} : (nms M i).any (fun x => x.toList == (gm M i).1.toList) = knownM M i := by
 unfold nms knownM; rw [List.any_map]; rfl
theorem f325_e {lo up : Int} {M : List (ByteArray × Int × Int × Int)} (hM : M.length < 4611686018427387904) (hs : ∀ p, p ∈ M → p.1.size < 4611686018427387904) : f325 lo up M = some (ckP lo up M) := by
  unfold f325 ckP
  simp only [obnd_s, f15_e, List.length_map, ilt_eq, ile_eq, ieq_eq]
  rw [show (decide (0 ≤ lo) && decide (lo ≤ 1000000)) = vol lo from rfl, show (decide (0 ≤ up) && decide (up ≤ 1000000)) = vol up from rfl]
  cases h1 : vol lo with
  | false => unfold pltE; rw [h1]; rfl
  | true =>
    cases h2 : vol up with
    | false => unfold pltE; rw [h1, h2]; rfl
    | true =>
      have h3 := vol_p h1; have h4 := vol_p h2
      simp only [Bool.not_true, oite_f, obnd_s]
      have e1 : decide (up < lo) = !decide (lo ≤ up) := by rw [← decide_not]; congr 1; exact propext (by omega)
      have e2 : decide ((40 : Int) ≤ up - lo) = !decide (up - lo < 40) := by rw [← decide_not]; congr 1; exact propext (by omega)
      have e3 : decide (((M.length : Nat) : Int) = 0) = !decide ((0 : Int) < ((M.length : Nat) : Int)) := by rw [← decide_not]; congr 1; exact propext (by omega)
      have e4 : decide ((5 : Int) < ((M.length : Nat) : Int)) = !decide (((M.length : Nat) : Int) ≤ 5) := by rw [← decide_not]; congr 1; exact propext (by omega)
      rw [wr (n := up - lo) (by omega) (by omega), e1, e2, e3, e4]
      unfold pltE
      rw [h1, h2]
      cases decide (lo ≤ up) with
      | false => rfl
      | true =>
        cases decide (up - lo < 40) with
        | false => rfl
        | true =>
          cases decide ((0 : Int) < ((M.length : Nat) : Int)) with
          | false => rfl
          | true =>
            cases h5 : decide (((M.length : Nat) : Int) ≤ 5) with
            | false => rfl
            | true =>
              have h5 := of_decide_eq_true h5
              simp only [Bool.not_true, oite_f, Bool.and_self, cond_false, decide_true]
              rw [oloop_scanB (fun i => (nms M i, (i : Int))) M.length (fun i => !decide (modE M i = 0)) (fun i => .inr ((i : Int), modE M i)) (d := .inl ()) (e0 := (([] : List ByteArray), (0 : Int))) rfl ?_ ?_, errs_scan (modE M) M.length (Sum.inr : Int × Int → Unit ⊕ (Int × Int))]
              · cases errs (modE M) M.length <;> rfl
              · intro i hi
                have hn := hs (gm M i) (by unfold gm; rw [getD_i hi]; exact List.getElem_mem hi)
                have hl := nms_len (M := M) (i := i)
                simp (disch := omega) only [obnd_s, obnd_n, oite_ss, oite_t, oite_f, ogrd_t, ogrd_f, obndS_l, obndS_r, ilt_eq, ile_eq, ieq_eq, imax_e, imin_e, k0, k1, k2, k3, k4, k5, k6, k7, k8, k9, reduceIte, k10, k11, k12, k13, k14, k15, k16, k17, k18, k19, k20, k21, k22, k23, k24, k25, k26, k27, k28, hi, get_gm hi, wr]
                rw [f354_e hn (by omega), nms_any, show (bif !nameB (gm M i).1 then (4 : Int) else bif knownM M i then 5 else bif !(s4 (gm M i).2.1 && s4 (gm M i).2.2.1 && z4 (gm M i).2.2.2) then 2 else 0) = modE M i from rfl]
                simp only [obnd_s]
                rw [ogrd_fits (by simp; omega) (by simp; omega), nms_s hi]
                cases decide (modE M i = 0) <;> rfl
              · simp (disch := omega) only [obnd_s, obnd_n, oite_ss, oite_t, oite_f, ogrd_t, ogrd_f, obndS_l, obndS_r, ilt_eq, ile_eq, ieq_eq, imax_e, imin_e, k0, k1, k2, k3, k4, k5, k6, k7, k8, k9, reduceIte, k10, k11, k12, k13, k14, k15, k16, k17, k18, k19, k20, k21, k22, k23, k24, k25, k26, k27, k28, Int.lt_irrefl]
theorem f326_e {lo up v m w : Int} {M : List (ByteArray × Int × Int × Int)} {H : List (Int × Int × Int)} (hM : M.length < 4611686018427387904) (hs : ∀ p, p ∈ M → p.1.size < 4611686018427387904) (hH : H.length < 4611686018427387904) : f326 lo up M v m w H = some (ckT lo up M v m w H) := by
  unfold f326 ckT f347
  have hw : IntKind.i64.wrap ((M.length : Int) - 1) = (M.length : Int) - 1 := wr (by omega) (by omega)
  simp only [f325_e hM hs, obnd_s, f15_e, f355_e, List.length_map, ile_eq, ilt_eq, ieq_eq, hw]
  cases h1 : decide ((ckP lo up M).2 = 0) with
  | false => rfl
  | true =>
    have e3 : decide (((H.length : Nat) : Int) = 0) = !decide ((0 : Int) < ((H.length : Nat) : Int)) := by rw [← decide_not]; congr 1; exact propext (by omega)
    have e4 : decide ((10 : Int) < ((H.length : Nat) : Int)) = !decide (((H.length : Nat) : Int) ≤ 10) := by rw [← decide_not]; congr 1; exact propext (by omega)
    rw [e3, e4]
    unfold tskE
    cases (decide (lo ≤ v) && decide (v ≤ up)) with
    | false => rfl
    | true =>
      cases (decide (0 ≤ m) && decide (m ≤ (M.length : Int) - 1)) with
      | false => rfl
      | true =>
        cases s4 w with
        | false => rfl
        | true =>
          cases decide ((0 : Int) < ((H.length : Nat) : Int)) with
          | false => rfl
          | true =>
            cases decide (((H.length : Nat) : Int) ≤ 10) with
            | false => rfl
            | true =>
              simp only [Bool.not_true, oite_f, cond_false, decide_true]
              rw [oloop_scanB (fun i => (i : Int)) H.length (fun i => !decide (hourE H i = 0)) (fun i => .inr ((i : Int), hourE H i)) (d := .inl ()) (e0 := 0) rfl ?_ ?_, errs_scan (hourE H) H.length (Sum.inr : Int × Int → Unit ⊕ (Int × Int))]
              · cases errs (hourE H) H.length <;> rfl
              · intro i hi
                have e5 : decide ((gh H i).1 < (gh H i).2.1) = !decide ((gh H i).2.1 ≤ (gh H i).1) := by rw [← decide_not]; congr 1; exact propext (by omega)
                simp (disch := omega) only [obnd_s, obnd_n, oite_ss, oite_t, oite_f, ogrd_t, ogrd_f, obndS_l, obndS_r, ilt_eq, ile_eq, ieq_eq, imax_e, imin_e, k0, k1, k2, k3, k4, k5, k6, k7, k8, k9, reduceIte, k10, k11, k12, k13, k14, k15, k16, k17, k18, k19, k20, k21, k22, k23, k24, k25, k26, k27, k28, hi, get_gh hi, wr, e5]
                unfold hourE
                cases s4 (gh H i).1 <;> cases s4 (gh H i).2.1 <;> cases s4 (gh H i).2.2 <;> cases decide ((gh H i).2.1 ≤ (gh H i).1) <;> rfl
              · simp (disch := omega) only [obnd_s, obnd_n, oite_ss, oite_t, oite_f, ogrd_t, ogrd_f, obndS_l, obndS_r, ilt_eq, ile_eq, ieq_eq, imax_e, imin_e, k0, k1, k2, k3, k4, k5, k6, k7, k8, k9, reduceIte, k10, k11, k12, k13, k14, k15, k16, k17, k18, k19, k20, k21, k22, k23, k24, k25, k26, k27, k28, Int.lt_irrefl]
theorem f311_e {lo up v m w : Int} {M : List (ByteArray × Int × Int × Int)} {H : List (Int × Int × Int)} (hM : M.length < 4611686018427387904) (hs : ∀ p, p ∈ M → p.1.size < 4611686018427387904) (hH : H.length < 4611686018427387904) : f311 lo up M v m w H = some (ckT lo up M v m w H).2 := by
 unfold f311; rw [f326_e hM hs hH]; rfl
end
section
set_option linter.unusedSimpArgs false
set_option linter.unusedVariables false
open Go Go.RowKit
abbrev Md := ByteArray × Int × Int × Int
abbrev Hr := Int × Int × Int
def wds (c : UInt8) (s : ByteArray) : List ByteArray := (spl c s.data.toList).map mkB
theorem wds_ne (c : UInt8) (s : ByteArray) : ∃ x r, wds c s = x :: r := by
 unfold wds
 cases h : spl c s.data.toList with
 | nil => exact absurd h (spl_ne _ _)
 | cons a b => exact ⟨mkB a, b.map mkB, rfl⟩
theorem wds_sz {c : UInt8} {s : ByteArray} {n : Nat} (h : s.size ≤ n) : ∀ p, p ∈ wds c s → p.size ≤ n := spl_size (by rw [size_l]; exact h)
theorem spl_cnt (c : UInt8) : ∀ l : List UInt8, (spl c l).length ≤ l.length + 1
  | [] => by simp [spl]
  | x :: r => by
    have := spl_cnt c r
    simp only [spl]
    split
    · simp; omega
    · cases h : spl c r with
      | nil => exact absurd h (spl_ne _ _)
      | cons a b => rw [h] at this; simp [glue] at this ⊢; omega
theorem wds_cnt {c : UInt8} {s : ByteArray} : (wds c s).length ≤ s.size + 1 := by
 have := spl_cnt c s.data.toList
 rw [size_l] at this
 unfold wds; rw [List.length_map]; exact this
def emp (x : ByteArray) : Bool := x.toList == (⟨#[]⟩ : ByteArray).toList
def modeOf (x : ByteArray) : Option Md := match nums ((wds 32 x).drop 1) 3 0 with
 | some [a, b, c] => bif emp ((wds 32 x).getD 0 ⟨#[]⟩) then none else some ((wds 32 x).getD 0 ⟨#[]⟩, a, b, c)
 | _ => none
def hourOf (x : ByteArray) : Option Hr := match nums (wds 32 x) 3 0 with
 | some [a, b, c] => some (a, b, c)
 | _ => none
def allO {α : Type} : List (Option α) → Option (List α)
 | [] => some []
 | none :: _ => none
 | some a :: r => (allO r).map (a :: ·)
theorem allO_take {α : Type} {l : List (Option α)} (h : allO l = none) : ∃ i, i < l.length ∧ l[i]? = some none ∧ ∃ a, allO (l.take i) = some a := by
  induction l with
  | nil => cases h
  | cons x r ih =>
    cases x with
    | none => exact ⟨0, by simp, rfl, [], rfl⟩
    | some a =>
      simp only [allO, Option.map_eq_none_iff] at h
      obtain ⟨i, h1, h2, b, h3⟩ := ih h
      exact ⟨i + 1, by simp; omega, by simpa using h2, a :: b, by simp only [List.take_succ_cons, allO, h3]; rfl⟩
theorem allO_len {α : Type} : ∀ {l : List (Option α)} {a : List α}, allO l = some a → a.length = l.length
  | [], a, h => by simp [allO] at h; subst h; rfl
  | none :: r, a, h => by cases h
  | some x :: r, a, h => by
    simp only [allO, Option.map_eq_some_iff] at h
    obtain ⟨b, h1, rfl⟩ := h
    simp [allO_len h1]
theorem allO_at {α : Type} {l : List (Option α)} {a : List α} (h : allO l = some a) {i : Nat} {x : α} (hx : a[i]? = some x) : l[i]? = some (some x) := by
  induction l generalizing a i with
  | nil => simp [allO] at h; subst h; simp at hx
  | cons y r ih =>
    cases y with
    | none => cases h
    | some y =>
      simp only [allO, Option.map_eq_some_iff] at h
      obtain ⟨b, h1, rfl⟩ := h
      cases i with
      | zero => simpa using hx
      | succ i => simpa using ih h1 (by simpa using hx)
theorem three {l : List Int} (h : l.length = 3) : ∃ a b c, l = [a, b, c] := by
 match l, h with
 | [a, b, c], _ => exact ⟨a, b, c, rfl⟩
theorem two2 {l : List Int} (h : l.length = 2) : ∃ a b, l = [a, b] := by
 match l, h with
 | [a, b], _ => exact ⟨a, b, rfl⟩
def plantOf (s : ByteArray) : Option (Int × Int × List Md) := match nums (wds 32 ((wds 59 s).getD 0 ⟨#[]⟩)) 2 2, allO (((wds 59 s).drop 1).map modeOf) with
 | some [a, b], some M => some (a, b, M)
 | _, _ => none
def taskOf (s : ByteArray) : Option (Int × Int × Int × List Hr) := match nums (wds 32 ((wds 59 s).getD 0 ⟨#[]⟩)) 3 2, allO (((wds 59 s).drop 1).map hourOf) with
 | some [a, b, c], some H => some (a, b, c, H)
 | _, _ => none
def outP : Option (Int × Int × List Md) → Int × Int × List Md × Int
 | none => (0, 0, [], 7)
 | some (a, b, M) => bif decide ((ckP a b M).2 = 0) then (a, b, M, 0) else (0, 0, [], (ckP a b M).2)
def outT : Option (Int × Int × Int × List Hr) → Int × Int × Int × List Hr × Int
 | none => (0, 0, 0, [], 7)
 | some (a, b, c, H) => (a, b, c, H, 0)
theorem mode_sz {s : ByteArray} {n : Nat} (hs : s.size ≤ n) {M : List Md} (h : allO (((wds 59 s).drop 1).map modeOf) = some M) : ∀ p, p ∈ M → p.1.size ≤ n := by
  intro p hp
  obtain ⟨i, hi, rfl⟩ := List.getElem_of_mem hp
  have h1 := allO_at h (List.getElem?_eq_getElem hi)
  rw [List.getElem?_map, Option.map_eq_some_iff] at h1
  obtain ⟨x, hx, h2⟩ := h1
  have hx2 := wds_sz hs x (List.mem_of_mem_drop (List.mem_of_getElem? hx))
  unfold modeOf at h2
  split at h2
  · cases he : emp ((wds 32 x).getD 0 ⟨#[]⟩) with
    | true => rw [he] at h2; cases h2
    | false =>
      rw [he] at h2
      simp only [cond_false, Option.some.injEq] at h2
      rw [← h2]
      obtain ⟨y, r, hy⟩ := wds_ne 32 x
      rw [hy]
      exact wds_sz hx2 y (by rw [hy]; simp)
  · cases h2
noncomputable def l464 (y2 : List ByteArray) (e16 : Int × List Md) : Option ((Int × List Md) ⊕ (List Md ⊕ (Int × Int × List Md × Int))) :=
 oite ((ilt e16.1 ((y2.map eS).length : Int))) (
 ogrd ((ile 0 e16.1)) (
 obnd (y2[e16.1.toNat]?) fun (x21 : ByteArray) =>
 obnd (f386 x21 (32 : Int)) fun (y22 : (List ByteArray)) =>
 obnd (oslL y22 (1 : Int)) fun (m24 : List ByteArray) =>
 obnd (f473 m24 (3 : Int) (0 : Int)) fun (y27 : (List Int) × Bool) =>
 obnd (
 oite (!y27.2) (
 some true
 ) (
 obnd (y22[(0 : Int).toNat]?) fun (x34 : ByteArray) =>
 some (x34.toList == (⟨#[]⟩ : ByteArray).toList)
 )
 ) fun (r29 : Bool) =>
 oite r29 (
 some (.inr (.inr (((0 : Int), (0 : Int), ([] : List (ByteArray × Int × Int × Int)), (7 : Int)))))
 ) (
 obnd (y22[(0 : Int).toNat]?) fun (x37 : ByteArray) =>
 obnd (y27.1[(0 : Int).toNat]?) fun (x38 : Int) =>
 obnd (y27.1[(1 : Int).toNat]?) fun (x39 : Int) =>
 obnd (y27.1[(2 : Int).toNat]?) fun (x40 : Int) =>
 ogrd (fits 40 (e16.2.length + ([(x37, x38, x39, x40)] : List (ByteArray × Int × Int × Int)).length)) (
 some (.inl (((IntKind.i64.wrap (e16.1 + (1 : Int))), (e16.2 ++ ([(x37, x38, x39, x40)] : List (ByteArray × Int × Int × Int))))))
 )
 )
 )
 ) (
 some (.inr (.inl e16.2))
 )
noncomputable def l465 (y2 : List ByteArray) (e17 : Int × List Hr) : Option ((Int × List Hr) ⊕ (List Hr ⊕ (Int × Int × Int × List Hr × Int))) :=
 oite ((ilt e17.1 ((y2.map eS).length : Int))) (
 ogrd ((ile 0 e17.1)) (
 obnd (y2[e17.1.toNat]?) fun (x22 : ByteArray) =>
 obnd (f386 x22 (32 : Int)) fun (y23 : (List ByteArray)) =>
 obnd (f473 y23 (3 : Int) (0 : Int)) fun (y25 : (List Int) × Bool) =>
 oite (!y25.2) (
 some (.inr (.inr (((0 : Int), (0 : Int), (0 : Int), ([] : List (Int × Int × Int)), (7 : Int)))))
 ) (
 obnd (y25.1[(0 : Int).toNat]?) fun (x29 : Int) =>
 obnd (y25.1[(1 : Int).toNat]?) fun (x30 : Int) =>
 obnd (y25.1[(2 : Int).toNat]?) fun (x31 : Int) =>
 ogrd (fits 24 (e17.2.length + ([(x29, x30, x31)] : List (Int × Int × Int)).length)) (
 some (.inl (((IntKind.i64.wrap (e17.1 + (1 : Int))), (e17.2 ++ ([(x29, x30, x31)] : List (Int × Int × Int))))))
 )
 )
 )
 ) (
 some (.inr (.inl e17.2))
 )
theorem getD0 {x : ByteArray} {r : List ByteArray} : (x :: r).getD 0 ⟨#[]⟩ = x := rfl
theorem l464_t {x : ByteArray} {r : List ByteArray} {i : Nat} (hi : i < r.length) (hr : r.length ≤ 1000) (hs : r[i].size ≤ 999) {A : List Md} (hA : A.length ≤ 1000) :
    l464 (x :: r) (((i + 1 : Nat) : Int), A) = some (match modeOf r[i] with | some m => .inl (((i + 2 : Nat) : Int), A ++ [m]) | none => .inr (.inr (0, 0, [], 7))) := by
  obtain ⟨y, w, hw⟩ := wds_ne 32 r[i]
  have hx : (x :: r)[(((i + 1 : Nat) : Int)).toNat]? = some r[i] := by rw [Int.toNat_natCast, List.getElem?_cons_succ]; exact List.getElem?_eq_getElem hi
  have h386 : f386 r[i] 32 = some (wds 32 r[i]) := f386_e (c := 32) rfl (by omega)
  have hsz := wds_sz (c := 32) hs
  rw [hw] at hsz
  have n0 : f473 w 3 0 = some (match nums w 3 0 with | some l => (l, true) | none => ([], false)) := f473_e (n := 3) (k := 0) (by omega) (by omega) (fun z hz => hsz z (by simp [hz]))
  have ho : oslL (y :: w) 1 = some w := by unfold oslL; rw [if_pos (by simp; omega)]; rfl
  unfold l464 modeOf
  have h1 : ((i + 1 : Nat) : Int) < (((x :: r).length : Nat) : Int) := by simp; omega
  simp only [ilt_eq, List.length_map, decide_eq_true h1, oite_t, ile_t (show (0 : Int) ≤ ((i + 1 : Nat) : Int) by omega), ogrd_t, hx, obnd_s, h386, hw, ho, n0, List.drop_one, List.tail_cons, getD0, show (y :: w)[(0 : Int).toNat]? = some y from rfl]
  cases hn : nums w 3 0 with
  | none => rfl
  | some l =>
    obtain ⟨a, b, c, rfl⟩ := three (nums_len hn).1
    simp only [Bool.not_true, oite_f, obnd_s, show ([a, b, c] : List Int)[(0 : Int).toNat]? = some a from rfl, show ([a, b, c] : List Int)[(1 : Int).toNat]? = some b from rfl, show ([a, b, c] : List Int)[(2 : Int).toNat]? = some c from rfl]
    rw [show (y.toList == (⟨#[]⟩ : ByteArray).toList) = emp y from rfl]
    cases emp y with
    | true => rfl
    | false =>
      rw [oite_f, ogrd_fits (by simp; omega) (by simp; omega), wr (by omega) (by omega)]
      simp only [cond_false]
      congr 3
theorem l464_end {x : ByteArray} {r : List ByteArray} {A : List Md} : l464 (x :: r) (((r.length + 1 : Nat) : Int), A) = some (.inr (.inl A)) := by
 unfold l464
 have h1 : ¬ ((r.length + 1 : Nat) : Int) < (((x :: r).length : Nat) : Int) := by simp
 simp only [ilt_eq, List.length_map, decide_eq_false h1, oite_f]
theorem loop464 {x : ByteArray} {r : List ByteArray} (hr : r.length ≤ 1000) (hs : ∀ z, z ∈ r → z.size ≤ 999) : oloop (l464 (x :: r)) ((1 : Int), []) = some (match allO (r.map modeOf) with | some M => .inl M | none => .inr (0, 0, [], 7)) := by
  cases h : allO (r.map modeOf) with
  | some M =>
    have hl := allO_len h
    rw [List.length_map] at hl
    refine oloop_all (fun i => (((i + 1 : Nat) : Int), M.take i)) r.length rfl (fun i hi => ?_) (by rw [List.take_of_length_le (by omega)]; exact l464_end)
    rw [l464_t hi hr (hs _ (List.getElem_mem hi)) (by simp; omega)]
    have h2 : M[i]? = some M[i] := List.getElem?_eq_getElem (by omega)
    have h3 := allO_at h h2
    rw [List.getElem?_map, List.getElem?_eq_getElem hi, Option.map_some, Option.some.injEq] at h3
    rw [h3, List.take_succ_eq_append_getElem (by omega)]
  | none =>
    obtain ⟨i, h1, h2, M, h3⟩ := allO_take h
    rw [List.length_map] at h1
    have hl := allO_len h3
    rw [List.length_take, List.length_map] at hl
    rw [show ((1 : Int), ([] : List Md)) = (((0 + 1 : Nat) : Int), M.take 0) from rfl, oloop_up (fun j => (((j + 1 : Nat) : Int), M.take j)) i 0 (Nat.zero_le _) (fun j hj => ?_)]
    · refine oloop_done ?_
      have h4 : modeOf r[i] = none := by
        rw [List.getElem?_map, List.getElem?_eq_getElem h1, Option.map_some, Option.some.injEq] at h2; exact h2
      rw [l464_t h1 hr (hs _ (List.getElem_mem h1)) (by simp; omega), h4]
    · have hj2 : j < r.length := by omega
      rw [l464_t hj2 hr (hs _ (List.getElem_mem hj2)) (by simp; omega)]
      have h4 : M[j]? = some M[j] := List.getElem?_eq_getElem (by omega)
      have h5 := allO_at h3 h4
      rw [List.getElem?_take_of_lt hj, List.getElem?_map, List.getElem?_eq_getElem hj2, Option.map_some, Option.some.injEq] at h5
      rw [h5, List.take_succ_eq_append_getElem (by omega)]
theorem f464_e {s : ByteArray} (hs : s.size ≤ 999) : f464 s = some (outP (plantOf s)) := by
  have h0 : ilt (60000 : Int) (s.size : Int) = false := by rw [ilt_eq]; exact decide_eq_false (by omega)
  have h386 : ∀ x : ByteArray, x.size ≤ 999 → f386 x 32 = some (wds 32 x) := fun x hx => f386_e (c := 32) rfl (by omega)
  have h386s : f386 s 59 = some (wds 59 s) := f386_e (c := 59) rfl (by omega)
  obtain ⟨x, r, hx⟩ := wds_ne 59 s
  have hsz := wds_sz (c := 59) hs
  have hcn := wds_cnt (c := 59) (s := s)
  have hx0 := hsz x (by rw [hx]; simp)
  have hms := fun M h => @mode_sz s 999 hs M h
  unfold f464 plantOf
  rw [hx] at hsz hcn hms h386s ⊢
  rw [List.length_cons] at hcn
  have n0 : f473 (wds 32 x) 2 2 = _ := f473_e (w := wds 32 x) (n := 2) (k := 2) (by omega) (by omega) (wds_sz hx0)
  have hl := loop464 (x := x) (r := r) (by omega) (fun z hz => hsz z (by simp [hz]))
  unfold l464 at hl
  rw [h0, oite_f, h386s, obnd_s, show (x :: r)[(0 : Int).toNat]? = some x from rfl, obnd_s, h386 x hx0, obnd_s, n0, obnd_s, hl, getD0, List.drop_one, List.tail_cons]
  rw [List.drop_one, List.tail_cons] at hms
  cases hn : nums (wds 32 x) 2 2 with
  | none => rfl
  | some l =>
    obtain ⟨a, b, rfl⟩ := two2 (nums_len hn).1
    cases hM : allO (r.map modeOf) with
    | none => rfl
    | some M =>
      have hM1 := allO_len hM
      rw [List.length_map] at hM1
      have hM2 := hms M hM
      have h347 : f347 a b M = some (ckP a b M).2 := by
        unfold f347
        rw [f325_e (by omega) (fun p hp => by have := hM2 p hp; omega)]; rfl
      simp only [Bool.not_true, oite_f, obnd_s, obndS_l, show ([a, b] : List Int)[(0 : Int).toNat]? = some a from rfl, show ([a, b] : List Int)[(1 : Int).toNat]? = some b from rfl, h347, ieq_eq, oite_ss]
      show some _ = some (bif decide ((ckP a b M).2 = 0) then (a, b, M, 0) else (0, 0, [], (ckP a b M).2))
      cases decide ((ckP a b M).2 = 0) <;> rfl
theorem l465_t {x : ByteArray} {r : List ByteArray} {i : Nat} (hi : i < r.length) (hr : r.length ≤ 1000) (hs : r[i].size ≤ 999) {A : List Hr} (hA : A.length ≤ 1000) :
    l465 (x :: r) (((i + 1 : Nat) : Int), A) = some (match hourOf r[i] with | some m => .inl (((i + 2 : Nat) : Int), A ++ [m]) | none => .inr (.inr (0, 0, 0, [], 7))) := by
  have hx : (x :: r)[(((i + 1 : Nat) : Int)).toNat]? = some r[i] := by rw [Int.toNat_natCast, List.getElem?_cons_succ]; exact List.getElem?_eq_getElem hi
  have h386 : f386 r[i] 32 = some (wds 32 r[i]) := f386_e (c := 32) rfl (by omega)
  have hsz := wds_sz (c := 32) hs
  have n0 : f473 (wds 32 r[i]) 3 0 = some (match nums (wds 32 r[i]) 3 0 with | some l => (l, true) | none => ([], false)) := f473_e (n := 3) (k := 0) (by omega) (by omega) hsz
  unfold l465 hourOf
  have h1 : ((i + 1 : Nat) : Int) < (((x :: r).length : Nat) : Int) := by simp; omega
  simp only [ilt_eq, List.length_map, decide_eq_true h1, oite_t, ile_t (show (0 : Int) ≤ ((i + 1 : Nat) : Int) by omega), ogrd_t, hx, obnd_s, h386, n0]
  cases hn : nums (wds 32 r[i]) 3 0 with
  | none => rfl
  | some l =>
    obtain ⟨a, b, c, rfl⟩ := three (nums_len hn).1
    simp only [Bool.not_true, oite_f, obnd_s, show ([a, b, c] : List Int)[(0 : Int).toNat]? = some a from rfl, show ([a, b, c] : List Int)[(1 : Int).toNat]? = some b from rfl, show ([a, b, c] : List Int)[(2 : Int).toNat]? = some c from rfl]
    rw [ogrd_fits (by simp; omega) (by simp; omega), wr (by omega) (by omega)]
    congr 3
theorem l465_end {x : ByteArray} {r : List ByteArray} {A : List Hr} : l465 (x :: r) (((r.length + 1 : Nat) : Int), A) = some (.inr (.inl A)) := by
 unfold l465
 have h1 : ¬ ((r.length + 1 : Nat) : Int) < (((x :: r).length : Nat) : Int) := by simp
 simp only [ilt_eq, List.length_map, decide_eq_false h1, oite_f]
theorem loop465 {x : ByteArray} {r : List ByteArray} (hr : r.length ≤ 1000) (hs : ∀ z, z ∈ r → z.size ≤ 999) : oloop (l465 (x :: r)) ((1 : Int), []) = some (match allO (r.map hourOf) with | some M => .inl M | none => .inr (0, 0, 0, [], 7)) := by
  cases h : allO (r.map hourOf) with
  | some M =>
    have hl := allO_len h
    rw [List.length_map] at hl
    refine oloop_all (fun i => (((i + 1 : Nat) : Int), M.take i)) r.length rfl (fun i hi => ?_) (by rw [List.take_of_length_le (by omega)]; exact l465_end)
    rw [l465_t hi hr (hs _ (List.getElem_mem hi)) (by simp; omega)]
    have h2 : M[i]? = some M[i] := List.getElem?_eq_getElem (by omega)
    have h3 := allO_at h h2
    rw [List.getElem?_map, List.getElem?_eq_getElem hi, Option.map_some, Option.some.injEq] at h3
    rw [h3, List.take_succ_eq_append_getElem (by omega)]
  | none =>
    obtain ⟨i, h1, h2, M, h3⟩ := allO_take h
    rw [List.length_map] at h1
    have hl := allO_len h3
    rw [List.length_take, List.length_map] at hl
    rw [show ((1 : Int), ([] : List Hr)) = (((0 + 1 : Nat) : Int), M.take 0) from rfl, oloop_up (fun j => (((j + 1 : Nat) : Int), M.take j)) i 0 (Nat.zero_le _) (fun j hj => ?_)]
    · refine oloop_done ?_
      have h4 : hourOf r[i] = none := by
        rw [List.getElem?_map, List.getElem?_eq_getElem h1, Option.map_some, Option.some.injEq] at h2; exact h2
      rw [l465_t h1 hr (hs _ (List.getElem_mem h1)) (by simp; omega), h4]
    · have hj2 : j < r.length := by omega
      rw [l465_t hj2 hr (hs _ (List.getElem_mem hj2)) (by simp; omega)]
      have h4 : M[j]? = some M[j] := List.getElem?_eq_getElem (by omega)
      have h5 := allO_at h3 h4
      rw [List.getElem?_take_of_lt hj, List.getElem?_map, List.getElem?_eq_getElem hj2, Option.map_some, Option.some.injEq] at h5
      rw [h5, List.take_succ_eq_append_getElem (by omega)]
theorem f465_e {s : ByteArray} (hs : s.size ≤ 999) : f465 s = some (outT (taskOf s)) := by
  have h0 : ilt (60000 : Int) (s.size : Int) = false := by rw [ilt_eq]; exact decide_eq_false (by omega)
  have h386 : ∀ x : ByteArray, x.size ≤ 999 → f386 x 32 = some (wds 32 x) := fun x hx => f386_e (c := 32) rfl (by omega)
  have h386s : f386 s 59 = some (wds 59 s) := f386_e (c := 59) rfl (by omega)
  obtain ⟨x, r, hx⟩ := wds_ne 59 s
  have hsz := wds_sz (c := 59) hs
  have hcn := wds_cnt (c := 59) (s := s)
  have hx0 := hsz x (by rw [hx]; simp)
  unfold f465 taskOf
  rw [hx] at hsz hcn h386s ⊢
  rw [List.length_cons] at hcn
  have n0 : f473 (wds 32 x) 3 2 = _ := f473_e (w := wds 32 x) (n := 3) (k := 2) (by omega) (by omega) (wds_sz hx0)
  have hl := loop465 (x := x) (r := r) (by omega) (fun z hz => hsz z (by simp [hz]))
  unfold l465 at hl
  rw [h0, oite_f, h386s, obnd_s, show (x :: r)[(0 : Int).toNat]? = some x from rfl, obnd_s, h386 x hx0, obnd_s, n0, obnd_s, hl, getD0, List.drop_one, List.tail_cons]
  cases hn : nums (wds 32 x) 3 2 with
  | none => rfl
  | some l =>
    obtain ⟨a, b, c, rfl⟩ := three (nums_len hn).1
    cases hM : allO (r.map hourOf) with
    | none => rfl
    | some M => rfl
end
section
set_option linter.unusedSimpArgs false
set_option linter.unusedVariables false
open Go Go.RowKit
noncomputable def l462 (m55 : List ByteArray) (e58 : Bool × Int × List Md) : Option ((Bool × Int × List Md) ⊕ (Bool × List Md)) :=
 oite ((ilt e58.2.1 ((m55.map eS).length : Int))) (
 ogrd ((ile 0 e58.2.1)) (
 obnd (m55[e58.2.1.toNat]?) fun (x63 : ByteArray) =>
 obnd (f382 x63 (⟨#[32]⟩ : ByteArray)) fun (y64 : (List ByteArray)) =>
 obnd (y64[(0 : Int).toNat]?) fun (x66 : ByteArray) =>
 obnd (
 obnd (y64[(0 : Int).toNat]?) fun (x71 : ByteArray) =>
 oite ((!(x71.toList == (⟨#[]⟩ : ByteArray).toList))) (
 obnd (oslL y64 (1 : Int)) fun (m74 : List ByteArray) =>
 oite ((!(ieq ((m74.map eS).length : Int) (3 : Int)))) (
 some (false, (0 : Int), (0 : Int), (0 : Int))
 ) (
 obndS (
 obnd (m74[(0 : Int).toNat]?) fun (x82 : ByteArray) =>
 obnd (f394 x82) fun (y83 : Int × Bool) =>
 obnd (
 oite y83.2 (
 obnd (m74[(0 : Int).toNat]?) fun (x90 : ByteArray) =>
 obnd (f385 y83.1) fun (y91 : ByteArray) =>
 oite ((!(y91.toList == x90.toList))) (
 some true
 ) (
 oite ((ilt y83.1 (0 : Int))) (
 obnd (m74[(0 : Int).toNat]?) fun (x95 : ByteArray) =>
 obnd (f395 x95 (⟨#[45]⟩ : ByteArray)) fun (y96 : ByteArray) =>
 some (ilt (7 : Int) (y96.size : Int))
 ) (
 obnd (m74[(0 : Int).toNat]?) fun (x98 : ByteArray) =>
 obnd (f395 x98 (⟨#[45]⟩ : ByteArray)) fun (y99 : ByteArray) =>
 some (ilt (7 : Int) (y99.size : Int))
 )
 )
 ) (
 some true
 )
 ) fun (r85 : Bool) =>
 oite r85 (
 some (.inr ((false, (0 : Int), (0 : Int), (0 : Int))))
 ) (
 obnd (m74[(1 : Int).toNat]?) fun (x102 : ByteArray) =>
 obnd (f394 x102) fun (y103 : Int × Bool) =>
 obnd (
 oite y103.2 (
 obnd (m74[(1 : Int).toNat]?) fun (x110 : ByteArray) =>
 obnd (f385 y103.1) fun (y111 : ByteArray) =>
 oite ((!(y111.toList == x110.toList))) (
 some true
 ) (
 oite ((ilt y103.1 (0 : Int))) (
 obnd (m74[(1 : Int).toNat]?) fun (x115 : ByteArray) =>
 obnd (f395 x115 (⟨#[45]⟩ : ByteArray)) fun (y116 : ByteArray) =>
 some (ilt (7 : Int) (y116.size : Int))
 ) (
 obnd (m74[(1 : Int).toNat]?) fun (x118 : ByteArray) =>
 obnd (f395 x118 (⟨#[45]⟩ : ByteArray)) fun (y119 : ByteArray) =>
 some (ilt (7 : Int) (y119.size : Int))
 )
 )
 ) (
 some true
 )
 ) fun (r105 : Bool) =>
 oite r105 (
 some (.inr ((false, y83.1, (0 : Int), (0 : Int))))
 ) (
 obnd (m74[(2 : Int).toNat]?) fun (x122 : ByteArray) =>
 obnd (f394 x122) fun (y123 : Int × Bool) =>
 obnd (
 oite y123.2 (
 obnd (m74[(2 : Int).toNat]?) fun (x130 : ByteArray) =>
 obnd (f385 y123.1) fun (y131 : ByteArray) =>
 oite ((!(y131.toList == x130.toList))) (
 some true
 ) (
 oite ((ilt y123.1 (0 : Int))) (
 obnd (m74[(2 : Int).toNat]?) fun (x135 : ByteArray) =>
 obnd (f395 x135 (⟨#[45]⟩ : ByteArray)) fun (y136 : ByteArray) =>
 some (ilt (7 : Int) (y136.size : Int))
 ) (
 obnd (m74[(2 : Int).toNat]?) fun (x138 : ByteArray) =>
 obnd (f395 x138 (⟨#[45]⟩ : ByteArray)) fun (y139 : ByteArray) =>
 some (ilt (7 : Int) (y139.size : Int))
 )
 )
 ) (
 some true
 )
 ) fun (r125 : Bool) =>
 oite r125 (
 some (.inr ((false, y83.1, y103.1, (0 : Int))))
 ) (
 some (.inl (y83.1, y103.1, y123.1))
 )
 )
 )
 ) fun (r142 : Int × Int × Int) =>
 some (e58.1, r142.1, r142.2.1, r142.2.2)
 )
 ) (
 some (false, (0 : Int), (0 : Int), (0 : Int))
 )
 ) fun (r67 : Bool × Int × Int × Int) =>
 ogrd (fits 40 (e58.2.2.length + ([(x66, r67.2.1, r67.2.2.1, r67.2.2.2)] : List (ByteArray × Int × Int × Int)).length)) (
 some (.inl ((r67.1, (IntKind.i64.wrap (e58.2.1 + (1 : Int))), (e58.2.2 ++ ([(x66, r67.2.1, r67.2.2.1, r67.2.2.2)] : List (ByteArray × Int × Int × Int))))))
 )
 )
 ) (
 some (.inr ((e58.1, e58.2.2)))
 )
noncomputable def l463 (m75 : List ByteArray) (e78 : Bool × Int × List Hr) : Option ((Bool × Int × List Hr) ⊕ (Bool × List Hr)) :=
 oite ((ilt e78.2.1 ((m75.map eS).length : Int))) (
 ogrd ((ile 0 e78.2.1)) (
 obnd (m75[e78.2.1.toNat]?) fun (x83 : ByteArray) =>
 obnd (
 obnd (f382 x83 (⟨#[32]⟩ : ByteArray)) fun (y88 : (List ByteArray)) =>
 oite ((!(ieq ((y88.map eS).length : Int) (3 : Int)))) (
 some (false, (0 : Int), (0 : Int), (0 : Int))
 ) (
 obndS (
 obnd (y88[(0 : Int).toNat]?) fun (x95 : ByteArray) =>
 obnd (f394 x95) fun (y96 : Int × Bool) =>
 obnd (
 oite y96.2 (
 obnd (y88[(0 : Int).toNat]?) fun (x103 : ByteArray) =>
 obnd (f385 y96.1) fun (y104 : ByteArray) =>
 oite ((!(y104.toList == x103.toList))) (
 some true
 ) (
 oite ((ilt y96.1 (0 : Int))) (
 obnd (y88[(0 : Int).toNat]?) fun (x108 : ByteArray) =>
 obnd (f395 x108 (⟨#[45]⟩ : ByteArray)) fun (y109 : ByteArray) =>
 some (ilt (7 : Int) (y109.size : Int))
 ) (
 obnd (y88[(0 : Int).toNat]?) fun (x111 : ByteArray) =>
 obnd (f395 x111 (⟨#[45]⟩ : ByteArray)) fun (y112 : ByteArray) =>
 some (ilt (7 : Int) (y112.size : Int))
 )
 )
 ) (
 some true
 )
 ) fun (r98 : Bool) =>
 oite r98 (
 some (.inr ((false, (0 : Int), (0 : Int), (0 : Int))))
 ) (
 obnd (y88[(1 : Int).toNat]?) fun (x115 : ByteArray) =>
 obnd (f394 x115) fun (y116 : Int × Bool) =>
 obnd (
 oite y116.2 (
 obnd (y88[(1 : Int).toNat]?) fun (x123 : ByteArray) =>
 obnd (f385 y116.1) fun (y124 : ByteArray) =>
 oite ((!(y124.toList == x123.toList))) (
 some true
 ) (
 oite ((ilt y116.1 (0 : Int))) (
 obnd (y88[(1 : Int).toNat]?) fun (x128 : ByteArray) =>
 obnd (f395 x128 (⟨#[45]⟩ : ByteArray)) fun (y129 : ByteArray) =>
 some (ilt (7 : Int) (y129.size : Int))
 ) (
 obnd (y88[(1 : Int).toNat]?) fun (x131 : ByteArray) =>
 obnd (f395 x131 (⟨#[45]⟩ : ByteArray)) fun (y132 : ByteArray) =>
 some (ilt (7 : Int) (y132.size : Int))
 )
 )
 ) (
 some true
 )
 ) fun (r118 : Bool) =>
 oite r118 (
 some (.inr ((false, y96.1, (0 : Int), (0 : Int))))
 ) (
 obnd (y88[(2 : Int).toNat]?) fun (x135 : ByteArray) =>
 obnd (f394 x135) fun (y136 : Int × Bool) =>
 obnd (
 oite y136.2 (
 obnd (y88[(2 : Int).toNat]?) fun (x143 : ByteArray) =>
 obnd (f385 y136.1) fun (y144 : ByteArray) =>
 oite ((!(y144.toList == x143.toList))) (
 some true
 ) (
 oite ((ilt y136.1 (0 : Int))) (
 obnd (y88[(2 : Int).toNat]?) fun (x148 : ByteArray) =>
 obnd (f395 x148 (⟨#[45]⟩ : ByteArray)) fun (y149 : ByteArray) =>
 some (ilt (7 : Int) (y149.size : Int))
 ) (
 obnd (y88[(2 : Int).toNat]?) fun (x151 : ByteArray) =>
 obnd (f395 x151 (⟨#[45]⟩ : ByteArray)) fun (y152 : ByteArray) =>
 some (ilt (7 : Int) (y152.size : Int))
 )
 )
 ) (
 some true
 )
 ) fun (r138 : Bool) =>
 oite r138 (
 some (.inr ((false, y96.1, y116.1, (0 : Int))))
 ) (
 some (.inl (y96.1, y116.1, y136.1))
 )
 )
 )
 ) fun (r155 : Int × Int × Int) =>
 some (e78.1, r155.1, r155.2.1, r155.2.2)
 )
 ) fun (r84 : Bool × Int × Int × Int) =>
 ogrd (fits 24 (e78.2.2.length + ([(r84.2.1, r84.2.2.1, r84.2.2.2)] : List (Int × Int × Int)).length)) (
 some (.inl ((r84.1, (IntKind.i64.wrap (e78.2.1 + (1 : Int))), (e78.2.2 ++ ([(r84.2.1, r84.2.2.1, r84.2.2.2)] : List (Int × Int × Int))))))
 )
 )
 ) (
 some (.inr ((e78.1, e78.2.2)))
 )
theorem nums_3 {x y z : ByteArray} {k : Nat} : nums [x, y, z] 3 k = bif numB x 7 (decide (k ≤ 0)) && (numB y 7 (decide (k ≤ 1)) && numB z 7 (decide (k ≤ 2))) then some [numV x, numV y, numV z] else none := by
 unfold nums
 simp [List.range_succ]
theorem nums_2 {x y : ByteArray} {k : Nat} : nums [x, y] 2 k = bif numB x 7 (decide (k ≤ 0)) && numB y 7 (decide (k ≤ 1)) then some [numV x, numV y] else none := by
 unfold nums
 simp [List.range_succ]
theorem three' {l : List ByteArray} (h : l.length = 3) : ∃ a b c, l = [a, b, c] := by
 match l, h with
 | [a, b, c], _ => exact ⟨a, b, c, rfl⟩
theorem two' {l : List ByteArray} (h : l.length = 2) : ∃ a b, l = [a, b] := by
 match l, h with
 | [a, b], _ => exact ⟨a, b, rfl⟩
theorem f382_w {x : ByteArray} (hs : x.size ≤ 999) : f382 x ⟨#[32]⟩ = some (wds 32 x) := f382_e (c := 32) (by omega)
theorem nums_no {w : List ByteArray} {n k : Nat} (h : w.length ≠ n) : nums w n k = none := by unfold nums; rw [decide_eq_false h]; rfl
theorem ieq_f' {a b : Int} (h : a ≠ b) : ieq a b = false := by rw [ieq_eq]; exact decide_eq_false h
theorem l462_t {r : List ByteArray} {i : Nat} (hi : i < r.length) (hr : r.length ≤ 1000) (hs : r[i].size ≤ 999) {A : List Md} (hA : A.length ≤ 1000) (ok : Bool) :
    ∃ m, l462 r (ok, (i : Int), A) = some (.inl (ok && (modeOf r[i]).isSome, ((i + 1 : Nat) : Int), A ++ [m])) ∧ ∀ m', modeOf r[i] = some m' → m' = m := by
  obtain ⟨y, w, hw⟩ := wds_ne 32 r[i]
  have hsz := wds_sz (c := 32) hs
  rw [hw] at hsz
  have h1 : ilt (i : Int) ((r.map eS).length : Int) = true := ilt_t (by simp; omega)
  have h2 : ile 0 (i : Int) = true := ile_t (by omega)
  have hx : r[((i : Int)).toNat]? = some r[i] := by rw [Int.toNat_natCast]; exact List.getElem?_eq_getElem hi
  have ho : oslL (y :: w) 1 = some w := by unfold oslL; rw [if_pos (by simp; omega)]; rfl
  have h0 : (y :: w)[(0 : Int).toNat]? = some y := rfl
  have fin : ∀ (b : Bool) (m : Md), (ogrd (fits 40 (A.length + [m].length)) (some (Sum.inl (b, IntKind.i64.wrap ((i : Int) + 1), A ++ [m]))) : Option ((Bool × Int × List Md) ⊕ (Bool × List Md))) = some (.inl (b, ((i + 1 : Nat) : Int), A ++ [m])) := fun b m => by
    rw [ogrd_fits (by simp; omega) (by simp; omega), wr (by omega) (by omega)]; rfl
  unfold l462 modeOf
  rw [hw, List.drop_one, List.tail_cons, getD0]
  cases he : emp y with
  | true =>
    have he' : (y.toList == (⟨#[]⟩ : ByteArray).toList) = true := he
    refine ⟨(y, 0, 0, 0), ?_, fun m' hm => ?_⟩
    · simp only [h1, h2, hx, oite_t, oite_f, ogrd_t, obnd_s, f382_w hs, hw, h0, he', Bool.not_true]
      rw [fin]
      cases nums w 3 0 with
      | none => simp
      | some l => split <;> simp
    · split at hm <;> cases hm
  | false =>
    have he' : (y.toList == (⟨#[]⟩ : ByteArray).toList) = false := he
    by_cases hl : w.length = 3
    · obtain ⟨a, b, c, rfl⟩ := three' hl
      have ha := hsz a (by simp)
      have hb := hsz b (by simp)
      have hc := hsz c (by simp)
      have h3 : ieq ((([a, b, c] : List ByteArray).map eS).length : Int) 3 = true := rfl
      rw [nums_3]
      have e : ∀ n : Nat, decide (0 ≤ n) = true := fun n => decide_eq_true (Nat.zero_le n)
      rw [e, e, e]
      simp only [h1, h2, hx, oite_t, oite_f, ogrd_t, obnd_s, f382_w hs, hw, h0, he', Bool.not_false, Bool.not_true, ho, h3, show ([a, b, c] : List ByteArray)[(0 : Int).toNat]? = some a from rfl, show ([a, b, c] : List ByteArray)[(1 : Int).toNat]? = some b from rfl, show ([a, b, c] : List ByteArray)[(2 : Int).toNat]? = some c from rfl, f394_e ha, f394_e hb, f394_e hc, chk_t]
      cases numB a 7 true with
      | false => exact ⟨(y, 0, 0, 0), by simp only [Bool.not_false, oite_t, obndS_r, obnd_s, Bool.false_and, cond_false]; rw [fin]; simp, fun m' hm => by cases hm⟩
      | true =>
        cases numB b 7 true with
        | false => exact ⟨(y, numV a, 0, 0), by simp only [Bool.not_false, Bool.not_true, oite_t, oite_f, obndS_r, obnd_s, Bool.false_and, Bool.and_false, cond_false]; rw [fin]; simp, fun m' hm => by cases hm⟩
        | true =>
          cases numB c 7 true with
          | false => exact ⟨(y, numV a, numV b, 0), by simp only [Bool.not_false, Bool.not_true, oite_t, oite_f, obndS_r, obnd_s, Bool.false_and, Bool.and_false, cond_false]; rw [fin]; simp, fun m' hm => by cases hm⟩
          | true => exact ⟨(y, numV a, numV b, numV c), by simp only [Bool.not_true, oite_f, obndS_l, obnd_s, Bool.and_self, cond_true, cond_false]; rw [fin]; simp, fun m' hm => by cases hm; rfl⟩
    · have h3 : ieq (((w.map eS).length : Nat) : Int) 3 = false := ieq_f' (by simp; omega)
      rw [nums_no hl]
      refine ⟨(y, 0, 0, 0), ?_, fun m' hm => by cases hm⟩
      simp only [h1, h2, hx, oite_t, oite_f, ogrd_t, obnd_s, f382_w hs, hw, h0, he', Bool.not_false, ho, h3]
      rw [fin]; simp
noncomputable def p462 (y2 : List ByteArray) : Option (Bool × Int × Int) :=
 obnd (y2[(0 : Int).toNat]?) fun (x8 : ByteArray) =>
 obnd (f382 x8 (⟨#[32]⟩ : ByteArray)) fun (y9 : (List ByteArray)) =>
 oite ((!(ieq ((y9.map eS).length : Int) (2 : Int)))) (
 some (false, (0 : Int), (0 : Int))
 ) (
 obndS (
 obnd (y9[(0 : Int).toNat]?) fun (x16 : ByteArray) =>
 obnd (f394 x16) fun (y17 : Int × Bool) =>
 obnd (
 oite y17.2 (
 obnd (y9[(0 : Int).toNat]?) fun (x24 : ByteArray) =>
 obnd (f385 y17.1) fun (y25 : ByteArray) =>
 oite ((!(y25.toList == x24.toList))) (
 some true
 ) (
 oite ((ilt y17.1 (0 : Int))) (
 some true
 ) (
 obnd (y9[(0 : Int).toNat]?) fun (x29 : ByteArray) =>
 obnd (f395 x29 (⟨#[45]⟩ : ByteArray)) fun (y30 : ByteArray) =>
 some (ilt (7 : Int) (y30.size : Int))
 )
 )
 ) (
 some true
 )
 ) fun (r19 : Bool) =>
 oite r19 (
 some (.inr ((false, (0 : Int), (0 : Int))))
 ) (
 obnd (y9[(1 : Int).toNat]?) fun (x33 : ByteArray) =>
 obnd (f394 x33) fun (y34 : Int × Bool) =>
 obnd (
 oite y34.2 (
 obnd (y9[(1 : Int).toNat]?) fun (x41 : ByteArray) =>
 obnd (f385 y34.1) fun (y42 : ByteArray) =>
 oite ((!(y42.toList == x41.toList))) (
 some true
 ) (
 oite ((ilt y34.1 (0 : Int))) (
 some true
 ) (
 obnd (y9[(1 : Int).toNat]?) fun (x46 : ByteArray) =>
 obnd (f395 x46 (⟨#[45]⟩ : ByteArray)) fun (y47 : ByteArray) =>
 some (ilt (7 : Int) (y47.size : Int))
 )
 )
 ) (
 some true
 )
 ) fun (r36 : Bool) =>
 oite r36 (
 some (.inr ((false, y17.1, (0 : Int))))
 ) (
 some (.inl (y17.1, y34.1))
 )
 )
 ) fun (r50 : Int × Int) =>
 some (true, r50.1, r50.2)
 )
noncomputable def p463 (y2 : List ByteArray) : Option (Bool × Int × Int × Int) :=
 obnd (y2[(0 : Int).toNat]?) fun (x8 : ByteArray) =>
 obnd (f382 x8 (⟨#[32]⟩ : ByteArray)) fun (y9 : (List ByteArray)) =>
 oite ((!(ieq ((y9.map eS).length : Int) (3 : Int)))) (
 some (false, (0 : Int), (0 : Int), (0 : Int))
 ) (
 obndS (
 obnd (y9[(0 : Int).toNat]?) fun (x16 : ByteArray) =>
 obnd (f394 x16) fun (y17 : Int × Bool) =>
 obnd (
 oite y17.2 (
 obnd (y9[(0 : Int).toNat]?) fun (x24 : ByteArray) =>
 obnd (f385 y17.1) fun (y25 : ByteArray) =>
 oite ((!(y25.toList == x24.toList))) (
 some true
 ) (
 oite ((ilt y17.1 (0 : Int))) (
 some true
 ) (
 obnd (y9[(0 : Int).toNat]?) fun (x29 : ByteArray) =>
 obnd (f395 x29 (⟨#[45]⟩ : ByteArray)) fun (y30 : ByteArray) =>
 some (ilt (7 : Int) (y30.size : Int))
 )
 )
 ) (
 some true
 )
 ) fun (r19 : Bool) =>
 oite r19 (
 some (.inr ((false, (0 : Int), (0 : Int), (0 : Int))))
 ) (
 obnd (y9[(1 : Int).toNat]?) fun (x33 : ByteArray) =>
 obnd (f394 x33) fun (y34 : Int × Bool) =>
 obnd (
 oite y34.2 (
 obnd (y9[(1 : Int).toNat]?) fun (x41 : ByteArray) =>
 obnd (f385 y34.1) fun (y42 : ByteArray) =>
 oite ((!(y42.toList == x41.toList))) (
 some true
 ) (
 oite ((ilt y34.1 (0 : Int))) (
 some true
 ) (
 obnd (y9[(1 : Int).toNat]?) fun (x46 : ByteArray) =>
 obnd (f395 x46 (⟨#[45]⟩ : ByteArray)) fun (y47 : ByteArray) =>
 some (ilt (7 : Int) (y47.size : Int))
 )
 )
 ) (
 some true
 )
 ) fun (r36 : Bool) =>
 oite r36 (
 some (.inr ((false, y17.1, (0 : Int), (0 : Int))))
 ) (
 obnd (y9[(2 : Int).toNat]?) fun (x50 : ByteArray) =>
 obnd (f394 x50) fun (y51 : Int × Bool) =>
 obnd (
 oite y51.2 (
 obnd (y9[(2 : Int).toNat]?) fun (x58 : ByteArray) =>
 obnd (f385 y51.1) fun (y59 : ByteArray) =>
 oite ((!(y59.toList == x58.toList))) (
 some true
 ) (
 oite ((ilt y51.1 (0 : Int))) (
 obnd (y9[(2 : Int).toNat]?) fun (x63 : ByteArray) =>
 obnd (f395 x63 (⟨#[45]⟩ : ByteArray)) fun (y64 : ByteArray) =>
 some (ilt (7 : Int) (y64.size : Int))
 ) (
 obnd (y9[(2 : Int).toNat]?) fun (x66 : ByteArray) =>
 obnd (f395 x66 (⟨#[45]⟩ : ByteArray)) fun (y67 : ByteArray) =>
 some (ilt (7 : Int) (y67.size : Int))
 )
 )
 ) (
 some true
 )
 ) fun (r53 : Bool) =>
 oite r53 (
 some (.inr ((false, y17.1, y34.1, (0 : Int))))
 ) (
 some (.inl (y17.1, y34.1, y51.1))
 )
 )
 )
 ) fun (r70 : Int × Int × Int) =>
 some (true, r70.1, r70.2.1, r70.2.2)
 )
theorem l463_t {r : List ByteArray} {i : Nat} (hi : i < r.length) (hr : r.length ≤ 1000) (hs : r[i].size ≤ 999) {A : List Hr} (hA : A.length ≤ 1000) (ok : Bool) :
    ∃ m, l463 r (ok, (i : Int), A) = some (.inl (ok && (hourOf r[i]).isSome, ((i + 1 : Nat) : Int), A ++ [m])) ∧ ∀ m', hourOf r[i] = some m' → m' = m := by
  have hsz := wds_sz (c := 32) hs
  have h1 : ilt (i : Int) ((r.map eS).length : Int) = true := ilt_t (by simp; omega)
  have h2 : ile 0 (i : Int) = true := ile_t (by omega)
  have hx : r[((i : Int)).toNat]? = some r[i] := by rw [Int.toNat_natCast]; exact List.getElem?_eq_getElem hi
  have fin : ∀ (b : Bool) (m : Hr), (ogrd (fits 24 (A.length + [m].length)) (some (Sum.inl (b, IntKind.i64.wrap ((i : Int) + 1), A ++ [m]))) : Option ((Bool × Int × List Hr) ⊕ (Bool × List Hr))) = some (.inl (b, ((i + 1 : Nat) : Int), A ++ [m])) := fun b m => by
    rw [ogrd_fits (by simp; omega) (by simp; omega), wr (by omega) (by omega)]; rfl
  unfold l463 hourOf
  generalize hw : wds 32 r[i] = w at hsz
  by_cases hl : w.length = 3
  · obtain ⟨a, b, c, rfl⟩ := three' hl
    have ha := hsz a (by simp)
    have hb := hsz b (by simp)
    have hc := hsz c (by simp)
    have h3 : ieq ((([a, b, c] : List ByteArray).map eS).length : Int) 3 = true := rfl
    rw [nums_3]
    have e : ∀ n : Nat, decide (0 ≤ n) = true := fun n => decide_eq_true (Nat.zero_le n)
    rw [e, e, e]
    simp only [h1, h2, hx, oite_t, oite_f, ogrd_t, obnd_s, f382_w hs, hw, Bool.not_true, h3, show ([a, b, c] : List ByteArray)[(0 : Int).toNat]? = some a from rfl, show ([a, b, c] : List ByteArray)[(1 : Int).toNat]? = some b from rfl, show ([a, b, c] : List ByteArray)[(2 : Int).toNat]? = some c from rfl, f394_e ha, f394_e hb, f394_e hc, chk_t]
    cases numB a 7 true with
    | false => exact ⟨(0, 0, 0), by simp only [Bool.not_false, oite_t, obndS_r, obnd_s, Bool.false_and, cond_false]; rw [fin]; simp, fun m' hm => by cases hm⟩
    | true =>
      cases numB b 7 true with
      | false => exact ⟨(numV a, 0, 0), by simp only [Bool.not_false, Bool.not_true, oite_t, oite_f, obndS_r, obnd_s, Bool.false_and, Bool.and_false, cond_false]; rw [fin]; simp, fun m' hm => by cases hm⟩
      | true =>
        cases numB c 7 true with
        | false => exact ⟨(numV a, numV b, 0), by simp only [Bool.not_false, Bool.not_true, oite_t, oite_f, obndS_r, obnd_s, Bool.false_and, Bool.and_false, cond_false]; rw [fin]; simp, fun m' hm => by cases hm⟩
        | true => exact ⟨(numV a, numV b, numV c), by simp only [Bool.not_true, oite_f, obndS_l, obnd_s, Bool.and_self, cond_true, cond_false]; rw [fin]; simp, fun m' hm => by cases hm; rfl⟩
  · have h3 : ieq (((w.map eS).length : Nat) : Int) 3 = false := ieq_f' (by simp; omega)
    rw [nums_no hl]
    refine ⟨(0, 0, 0), ?_, fun m' hm => by cases hm⟩
    simp only [h1, h2, hx, oite_t, oite_f, ogrd_t, obnd_s, f382_w hs, hw, Bool.not_false, h3]
    rw [fin]; simp
theorem loop462 {r : List ByteArray} (hr : r.length ≤ 1000) (hs : ∀ z, z ∈ r → z.size ≤ 999) : ∀ (k i : Nat) (ok : Bool) (A : List Md), i + k = r.length → A.length = i →
    ∃ B, oloop (l462 r) (ok, (i : Int), A) = some (ok && (allO ((r.drop i).map modeOf)).isSome, A ++ B) ∧ ∀ M, allO ((r.drop i).map modeOf) = some M → B = M
  | 0, i, ok, A, hi, hA => by
    rw [List.drop_eq_nil_of_le (by omega)]
    refine ⟨[], oloop_done ?_, fun M hM => by cases hM; rfl⟩
    unfold l462
    simp only [ilt_f (show ((r.map eS).length : Int) ≤ (i : Int) by simp; omega), oite_f]
    simp [allO]
  | k + 1, i, ok, A, hi, hA => by
    have hi2 : i < r.length := by omega
    obtain ⟨m, h1, h2⟩ := l462_t hi2 hr (hs _ (List.getElem_mem hi2)) (A := A) (by omega) ok
    obtain ⟨B, h3, h4⟩ := loop462 hr hs k (i + 1) (ok && (modeOf r[i]).isSome) (A ++ [m]) (by omega) (by simp; omega)
    refine ⟨m :: B, ?_, fun M hM => ?_⟩
    · rw [oloop_step h1, h3, List.drop_eq_getElem_cons hi2]
      simp only [List.map_cons]
      cases hm : modeOf r[i] with
      | none => simp [allO]
      | some m' => simp [allO]
    · rw [List.drop_eq_getElem_cons hi2] at hM
      simp only [List.map_cons] at hM
      cases hm : modeOf r[i] with
      | none => rw [hm] at hM; cases hM
      | some m' =>
        rw [hm] at hM
        simp only [allO, Option.map_eq_some_iff] at hM
        obtain ⟨M', h5, rfl⟩ := hM
        rw [h4 M' h5, h2 m' hm]
theorem loop463 {r : List ByteArray} (hr : r.length ≤ 1000) (hs : ∀ z, z ∈ r → z.size ≤ 999) : ∀ (k i : Nat) (ok : Bool) (A : List Hr), i + k = r.length → A.length = i →
    ∃ B, oloop (l463 r) (ok, (i : Int), A) = some (ok && (allO ((r.drop i).map hourOf)).isSome, A ++ B) ∧ ∀ M, allO ((r.drop i).map hourOf) = some M → B = M
  | 0, i, ok, A, hi, hA => by
    rw [List.drop_eq_nil_of_le (by omega)]
    refine ⟨[], oloop_done ?_, fun M hM => by cases hM; rfl⟩
    unfold l463
    simp only [ilt_f (show ((r.map eS).length : Int) ≤ (i : Int) by simp; omega), oite_f]
    simp [allO]
  | k + 1, i, ok, A, hi, hA => by
    have hi2 : i < r.length := by omega
    obtain ⟨m, h1, h2⟩ := l463_t hi2 hr (hs _ (List.getElem_mem hi2)) (A := A) (by omega) ok
    obtain ⟨B, h3, h4⟩ := loop463 hr hs k (i + 1) (ok && (hourOf r[i]).isSome) (A ++ [m]) (by omega) (by simp; omega)
    refine ⟨m :: B, ?_, fun M hM => ?_⟩
    · rw [oloop_step h1, h3, List.drop_eq_getElem_cons hi2]
      simp only [List.map_cons]
      cases hm : hourOf r[i] with
      | none => simp [allO]
      | some m' => simp [allO]
    · rw [List.drop_eq_getElem_cons hi2] at hM
      simp only [List.map_cons] at hM
      cases hm : hourOf r[i] with
      | none => rw [hm] at hM; cases hM
      | some m' =>
        rw [hm] at hM
        simp only [allO, Option.map_eq_some_iff] at hM
        obtain ⟨M', h5, rfl⟩ := hM
        rw [h4 M' h5, h2 m' hm]
theorem p462_e {x : ByteArray} {r : List ByteArray} (hs : x.size ≤ 999) : ∃ lo hi, p462 (x :: r) = some ((nums (wds 32 x) 2 2).isSome, lo, hi) ∧ ∀ l, nums (wds 32 x) 2 2 = some l → l = [lo, hi] := by
  have hsz := wds_sz (c := 32) hs
  have h0 : (x :: r)[(0 : Int).toNat]? = some x := rfl
  unfold p462
  generalize hw : wds 32 x = w at hsz
  by_cases hl : w.length = 2
  · obtain ⟨a, b, rfl⟩ := two' hl
    have ha := hsz a (by simp)
    have hb := hsz b (by simp)
    have h3 : ieq ((([a, b] : List ByteArray).map eS).length : Int) 2 = true := rfl
    rw [nums_2, decide_eq_false (show ¬ 2 ≤ 0 by omega), decide_eq_false (show ¬ 2 ≤ 1 by omega)]
    simp only [h0, oite_t, oite_f, obnd_s, f382_w hs, hw, Bool.not_true, h3, show ([a, b] : List ByteArray)[(0 : Int).toNat]? = some a from rfl, show ([a, b] : List ByteArray)[(1 : Int).toNat]? = some b from rfl, f394_e ha, f394_e hb, chk_f]
    cases numB a 7 false with
    | false => exact ⟨0, 0, rfl, fun l hl => by cases hl⟩
    | true =>
      cases numB b 7 false with
      | false => exact ⟨numV a, 0, rfl, fun l hl => by cases hl⟩
      | true => exact ⟨numV a, numV b, rfl, fun l hl => by cases hl; rfl⟩
  · have h3 : ieq (((w.map eS).length : Nat) : Int) 2 = false := ieq_f' (by simp; omega)
    rw [nums_no hl]
    refine ⟨0, 0, ?_, fun l hl => by cases hl⟩
    simp only [h0, oite_t, obnd_s, f382_w hs, hw, Bool.not_false, h3]
    rfl
theorem p463_e {x : ByteArray} {r : List ByteArray} (hs : x.size ≤ 999) : ∃ v m w, p463 (x :: r) = some ((nums (wds 32 x) 3 2).isSome, v, m, w) ∧ ∀ l, nums (wds 32 x) 3 2 = some l → l = [v, m, w] := by
  have hsz := wds_sz (c := 32) hs
  have h0 : (x :: r)[(0 : Int).toNat]? = some x := rfl
  unfold p463
  generalize hw : wds 32 x = w at hsz
  by_cases hl : w.length = 3
  · obtain ⟨a, b, c, rfl⟩ := three' hl
    have ha := hsz a (by simp)
    have hb := hsz b (by simp)
    have hc := hsz c (by simp)
    have h3 : ieq ((([a, b, c] : List ByteArray).map eS).length : Int) 3 = true := rfl
    rw [nums_3, decide_eq_false (show ¬ 2 ≤ 0 by omega), decide_eq_false (show ¬ 2 ≤ 1 by omega), decide_eq_true (show 2 ≤ 2 by omega)]
    simp only [h0, oite_t, oite_f, obnd_s, f382_w hs, hw, Bool.not_true, h3, show ([a, b, c] : List ByteArray)[(0 : Int).toNat]? = some a from rfl, show ([a, b, c] : List ByteArray)[(1 : Int).toNat]? = some b from rfl, show ([a, b, c] : List ByteArray)[(2 : Int).toNat]? = some c from rfl, f394_e ha, f394_e hb, f394_e hc, chk_f, chk_t]
    cases numB a 7 false with
    | false => exact ⟨0, 0, 0, rfl, fun l hl => by cases hl⟩
    | true =>
      cases numB b 7 false with
      | false => exact ⟨numV a, 0, 0, rfl, fun l hl => by cases hl⟩
      | true =>
        cases numB c 7 true with
        | false => exact ⟨numV a, numV b, 0, rfl, fun l hl => by cases hl⟩
        | true => exact ⟨numV a, numV b, numV c, rfl, fun l hl => by cases hl; rfl⟩
  · have h3 : ieq (((w.map eS).length : Nat) : Int) 3 = false := ieq_f' (by simp; omega)
    rw [nums_no hl]
    refine ⟨0, 0, 0, ?_, fun l hl => by cases hl⟩
    simp only [h0, oite_t, obnd_s, f382_w hs, hw, Bool.not_false, h3]
    rfl
theorem f462_e {s : ByteArray} (hs : s.size ≤ 999) : f462 s = some (outP (plantOf s)) := by
  have h0 : ilt (60000 : Int) (s.size : Int) = false := by rw [ilt_eq]; exact decide_eq_false (by omega)
  have h382s : f382 s ⟨#[59]⟩ = some (wds 59 s) := f382_e (c := 59) (by omega)
  obtain ⟨x, r, hx⟩ := wds_ne 59 s
  have hsz := wds_sz (c := 59) hs
  have hcn := wds_cnt (c := 59) (s := s)
  have hx0 := hsz x (by rw [hx]; simp)
  have hms := fun M h => @mode_sz s 999 hs M h
  unfold f462 plantOf
  rw [hx] at hsz hcn hms h382s ⊢
  rw [List.length_cons] at hcn
  obtain ⟨lo, hi, hp, hp2⟩ := p462_e (r := r) hx0
  obtain ⟨B, hl, hl2⟩ := loop462 (r := r) (by omega) (fun z hz => hsz z (by simp [hz])) r.length 0 ((nums (wds 32 x) 2 2).isSome) [] (by omega) rfl
  rw [List.drop_zero] at hl hl2
  have ho : oslL (x :: r) 1 = some r := by unfold oslL; rw [if_pos (by simp; omega)]; rfl
  unfold l462 at hl
  unfold p462 at hp
  rw [h0, oite_f, h382s, obnd_s, hp, obnd_s, ho, obnd_s]
  rw [show ((0 : Nat) : Int) = (0 : Int) from rfl] at hl
  rw [hl, obnd_s, getD0, List.drop_one, List.tail_cons]
  rw [List.drop_one, List.tail_cons] at hms
  cases hn : nums (wds 32 x) 2 2 with
  | none => rfl
  | some l =>
    obtain rfl := hp2 l hn
    cases hM : allO (r.map modeOf) with
    | none => rfl
    | some M =>
      obtain rfl := hl2 M hM
      have hM1 := allO_len hM
      rw [List.length_map] at hM1
      have hM2 := hms B hM
      have h249 : f249 lo hi B = some (ckP lo hi B) := f249_e (by omega) (fun p hp => by have := hM2 p hp; omega)
      simp only [Option.isSome_some, Bool.and_self, Bool.not_true, oite_f, List.nil_append, h249, obnd_s, ieq_eq, oite_ss]
      show some _ = some (bif decide ((ckP lo hi B).2 = 0) then (lo, hi, B, 0) else (0, 0, [], (ckP lo hi B).2))
      cases decide ((ckP lo hi B).2 = 0) <;> rfl
theorem f463_e {s : ByteArray} (hs : s.size ≤ 999) : f463 s = some (outT (taskOf s)) := by
  have h0 : ilt (60000 : Int) (s.size : Int) = false := by rw [ilt_eq]; exact decide_eq_false (by omega)
  have h382s : f382 s ⟨#[59]⟩ = some (wds 59 s) := f382_e (c := 59) (by omega)
  obtain ⟨x, r, hx⟩ := wds_ne 59 s
  have hsz := wds_sz (c := 59) hs
  have hcn := wds_cnt (c := 59) (s := s)
  have hx0 := hsz x (by rw [hx]; simp)
  unfold f463 taskOf
  rw [hx] at hsz hcn h382s ⊢
  rw [List.length_cons] at hcn
  obtain ⟨v, m, w, hp, hp2⟩ := p463_e (r := r) hx0
  obtain ⟨B, hl, hl2⟩ := loop463 (r := r) (by omega) (fun z hz => hsz z (by simp [hz])) r.length 0 ((nums (wds 32 x) 3 2).isSome) [] (by omega) rfl
  rw [List.drop_zero] at hl hl2
  have ho : oslL (x :: r) 1 = some r := by unfold oslL; rw [if_pos (by simp; omega)]; rfl
  unfold l463 at hl
  unfold p463 at hp
  rw [h0, oite_f, h382s, obnd_s, hp, obnd_s, ho, obnd_s]
  rw [show ((0 : Nat) : Int) = (0 : Int) from rfl] at hl
  rw [hl, obnd_s, getD0, List.drop_one, List.tail_cons]
  cases hn : nums (wds 32 x) 3 2 with
  | none => rfl
  | some l =>
    obtain rfl := hp2 l hn
    cases hM : allO (r.map hourOf) with
    | none => rfl
    | some M =>
      obtain rfl := hl2 M hM
      rfl
end
section
set_option linter.unusedSimpArgs false
set_option linter.unusedVariables false
open Go Go.RowKit
theorem size_mk (l : List UInt8) : (mkB l).size = l.length := by show l.toArray.size = _; simp
theorem ble_t {n m : Nat} (h : n ≤ m) : Nat.ble n m = true := by rw [Nat.ble_eq]; exact h
theorem mkB_app (a b : List UInt8) : mkB a ++ mkB b = mkB (a ++ b) := by
 show (⟨a.toArray⟩ : ByteArray) ++ ⟨b.toArray⟩ = ⟨(a ++ b).toArray⟩
 rw [ByteArray.mk_append_mk]
def is64 (n : Int) : Prop := -9223372036854775808 ≤ n ∧ n ≤ 9223372036854775807
theorem itoa_len {n : Int} (h : is64 n) : (Lib.itoa n).length ≤ 21 := by
 unfold is64 at h
 by_cases h0 : n < 0
 · rw [itoa_neg h0, List.length_cons]; have := digs_le (m := n.natAbs) (by omega); omega
 · rw [itoa_nn h0]; have := digs_le (m := n.natAbs) (by omega); omega
theorem f385_e {n : Int} (h : is64 n) : f385 n = some (mkB (Lib.itoa n)) := by
 unfold f385
 rw [show in64 n = true from decide_eq_true h]; rfl
theorem f388_e {n : Int} (h : is64 n) : f388 n = some (mkB (Lib.itoa n)) := by
 unfold f388
 rw [show in64 n = true from decide_eq_true h]; rfl
theorem f384_e {l : List ByteArray} {sep : ByteArray} {r : List UInt8} (h : Lib.join (l.map (·.data.toList)) sep.data.toList = r) (hl : l.length ≤ 1000) (hr : r.length ≤ 100000) : f384 l sep = some (mkB r) := by
 subst h
 unfold f384
 rw [decide_eq_true ⟨by omega, by omega⟩]; rfl
def tl (l : List (List UInt8)) : List UInt8 := Lib.joinTail [59] l
theorem tl_snoc (l : List (List UInt8)) (x : List UInt8) : tl (l ++ [x]) = tl l ++ 59 :: x := by simp [tl, Lib.joinTail]
theorem tl_cons (l : List (List UInt8)) (x : List UInt8) : tl (x :: l) = 59 :: (x ++ tl l) := by simp [tl, Lib.joinTail]
theorem tl_len (N : Nat) : ∀ (l : List (List UInt8)), (∀ x, x ∈ l → x.length ≤ N) → (tl l).length ≤ l.length * (N + 1)
  | [], _ => by simp [tl, Lib.joinTail]
  | x :: r, h => by
    have h1 := tl_len N r (fun y hy => h y (by simp [hy]))
    have h2 := h x (by simp)
    rw [tl_cons, List.length_cons, List.length_append, List.length_cons, Nat.succ_mul]
    omega
def w2 (a b : Int) : List UInt8 := Lib.itoa a ++ 32 :: Lib.itoa b
def w3 (a b c : Int) : List UInt8 := Lib.itoa a ++ 32 :: (Lib.itoa b ++ 32 :: Lib.itoa c)
theorem w2_len {a b : Int} (ha : is64 a) (hb : is64 b) : (w2 a b).length ≤ 43 := by
 have h1 := itoa_len ha; have h2 := itoa_len hb; unfold w2; simp; omega
theorem w3_len {a b c : Int} (ha : is64 a) (hb : is64 b) (hc : is64 c) : (w3 a b c).length ≤ 65 := by
 have h1 := itoa_len ha; have h2 := itoa_len hb; have h3 := itoa_len hc; unfold w3; simp; omega
theorem f471_e {l : List Int} (hl : l.length ≤ 10) (hi : ∀ x, x ∈ l → is64 x) {r : List UInt8} (h : Lib.join (l.map Lib.itoa) [32] = r) (hr : r.length ≤ 100000) : f471 l = some (mkB r) := by
 unfold f471
 rw [oloop_all (fun i => ((l.take i).map (fun n => mkB (Lib.itoa n)), (i : Int))) l.length (r := l.map (fun n => mkB (Lib.itoa n))) (e0 := (([] : List ByteArray), (0 : Int))) rfl ?_ ?_]
 · rw [obnd_s, f384_e (r := r) (by rw [List.map_map]; exact h) (by simp; omega) hr, obnd_s]
 · intro i hi2
   have h5 := f385_e (hi l[i] (List.getElem_mem hi2))
   simp (disch := omega) only [obnd_s, obnd_n, oite_ss, oite_t, oite_f, ogrd_t, ogrd_f, obndS_l, obndS_r, ilt_eq, ile_eq, ieq_eq, imax_e, imin_e, k0, k1, k2, k3, k4, k5, k6, k7, k8, k9, reduceIte, k10, k11, k12, k13, k14, k15, k16, k17, k18, k19, k20, k21, k22, k23, k24, k25, k26, k27, k28, hi2, get_i hi2, h5, wr]
   rw [ogrd_fits (by simp; omega) (by simp; omega), List.take_succ_eq_append_getElem hi2]
   simp only [List.map_append, List.map_cons, List.map_nil]
   rfl
 · simp only [List.length_map, List.take_length]; simp (disch := omega) only [obnd_s, obnd_n, oite_ss, oite_t, oite_f, ogrd_t, ogrd_f, obndS_l, obndS_r, ilt_eq, ile_eq, ieq_eq, imax_e, imin_e, k0, k1, k2, k3, k4, k5, k6, k7, k8, k9, reduceIte, k10, k11, k12, k13, k14, k15, k16, k17, k18, k19, k20, k21, k22, k23, k24, k25, k26, k27, k28, Int.lt_irrefl]
theorem f471_2 {a b : Int} (ha : is64 a) (hb : is64 b) : f471 [a, b] = some (mkB (w2 a b)) :=
 f471_e (by simp) (by intro x hx; simp at hx; rcases hx with rfl | rfl <;> assumption) (by simp [Lib.join_cons, Lib.joinTail, w2]) (by have := w2_len ha hb; omega)
theorem f471_3 {a b c : Int} (ha : is64 a) (hb : is64 b) (hc : is64 c) : f471 [a, b, c] = some (mkB (w3 a b c)) :=
 f471_e (by simp) (by intro x hx; simp at hx; rcases hx with rfl | rfl | rfl <;> assumption) (by simp [Lib.join_cons, Lib.joinTail, w3]) (by have := w3_len ha hb hc; omega)
def partM (m : Md) : List UInt8 := m.1.data.toList ++ 32 :: w3 m.2.1 m.2.2.1 m.2.2.2
def partH (h : Hr) : List UInt8 := w3 h.1 h.2.1 h.2.2
def fmtP (lo hi : Int) (M : List Md) : List UInt8 := w2 lo hi ++ tl (M.map partM)
def fmtT (v m w : Int) (H : List Hr) : List UInt8 := w3 v m w ++ tl (H.map partH)
structure fitP (lo hi : Int) (M : List Md) : Prop where
 lo : is64 lo
 hi : is64 hi
 n : M.length ≤ 7
 s : ∀ p, p ∈ M → p.1.size ≤ 20
 i : ∀ p, p ∈ M → is64 p.2.1 ∧ is64 p.2.2.1 ∧ is64 p.2.2.2
structure fitT (v m w : Int) (H : List Hr) : Prop where
 v : is64 v
 m : is64 m
 w : is64 w
 n : H.length ≤ 12
 i : ∀ p, p ∈ H → is64 p.1 ∧ is64 p.2.1 ∧ is64 p.2.2
theorem partM_len {lo hi : Int} {M : List Md} (F : fitP lo hi M) : ∀ x, x ∈ M.map partM → x.length ≤ 86 := by
 intro x hx
 obtain ⟨p, hp, rfl⟩ := List.mem_map.1 hx
 obtain ⟨h1, h2, h3⟩ := F.i p hp
 have := w3_len h1 h2 h3
 have := F.s p hp
 have := size_l p.1
 unfold partM; simp; omega
theorem partH_len {v m w : Int} {H : List Hr} (F : fitT v m w H) : ∀ x, x ∈ H.map partH → x.length ≤ 65 := by
 intro x hx
 obtain ⟨p, hp, rfl⟩ := List.mem_map.1 hx
 obtain ⟨h1, h2, h3⟩ := F.i p hp
 have := w3_len h1 h2 h3
 unfold partH; omega
theorem fmtP_len {lo hi : Int} {M : List Md} (F : fitP lo hi M) : (fmtP lo hi M).length ≤ 700 := by
 have h1 := tl_len 86 _ (partM_len F)
 have h2 := w2_len F.lo F.hi
 have := F.n
 rw [List.length_map] at h1
 unfold fmtP; rw [List.length_append]; omega
theorem fmtT_len {v m w : Int} {H : List Hr} (F : fitT v m w H) : (fmtT v m w H).length ≤ 900 := by
 have h1 := tl_len 65 _ (partH_len F)
 have h2 := w3_len F.v F.m F.w
 have := F.n
 rw [List.length_map] at h1
 unfold fmtT; rw [List.length_append]; omega
theorem f460_e {lo hi : Int} {M : List Md} (F : fitP lo hi M) : f460 lo hi M = some (mkB (fmtP lo hi M)) := by
 have e32 : (⟨#[32]⟩ : ByteArray) = mkB [32] := rfl
 unfold f460
 rw [f471_2 F.lo F.hi, obnd_s, e32]
 have hn := F.n
 rw [oloop_all (fun i => (mkB (w2 lo hi) :: (M.take i).map (fun p => mkB (partM p)), (i : Int))) M.length (r := mkB (w2 lo hi) :: M.map (fun p => mkB (partM p))) (e0 := ([mkB (w2 lo hi)], (0 : Int))) rfl ?_ ?_]
 · rw [obnd_s, f384_e (r := fmtP lo hi M) (by
    simp only [List.map_cons, List.map_map]
    rw [Lib.join_cons]
    rfl) (by simp; omega) (by have := fmtP_len F; omega), obnd_s]
 · intro i hi2
   have hp := List.getElem_mem hi2
   obtain ⟨i1, i2, i3⟩ := F.i M[i] hp
   have h3 := w3_len i1 i2 i3
   have hs := F.s M[i] hp
   have hsl := size_l M[i].1
   have hx := f471_3 i1 i2 i3
   have ha : M[i].1 ++ mkB [32] = mkB (M[i].1.data.toList ++ [32]) := mkB_app M[i].1.data.toList [32]
   simp (disch := omega) only [obnd_s, obnd_n, oite_ss, oite_t, oite_f, ogrd_t, ogrd_f, obndS_l, obndS_r, ilt_eq, ile_eq, ieq_eq, imax_e, imin_e, k0, k1, k2, k3, k4, k5, k6, k7, k8, k9, reduceIte, k10, k11, k12, k13, k14, k15, k16, k17, k18, k19, k20, k21, k22, k23, k24, k25, k26, k27, k28, hi2, get_i hi2, hx, wr, ha, mkB_app]
   rw [ble_t (by simp [size_mk]; omega), ogrd_t, ble_t (by simp [size_mk]; omega), ogrd_t, ogrd_fits (by simp; omega) (by simp; omega), List.take_succ_eq_append_getElem hi2]
   simp only [List.map_append, List.map_cons, List.map_nil]
   have : M[i].1.data.toList ++ [32] ++ w3 M[i].2.1 M[i].2.2.1 M[i].2.2.2 = partM M[i] := by unfold partM; simp
   rw [this]; rfl
 · simp only [List.length_map, List.take_length]; simp (disch := omega) only [obnd_s, obnd_n, oite_ss, oite_t, oite_f, ogrd_t, ogrd_f, obndS_l, obndS_r, ilt_eq, ile_eq, ieq_eq, imax_e, imin_e, k0, k1, k2, k3, k4, k5, k6, k7, k8, k9, reduceIte, k10, k11, k12, k13, k14, k15, k16, k17, k18, k19, k20, k21, k22, k23, k24, k25, k26, k27, k28, Int.lt_irrefl]
theorem f461_e {v m w : Int} {H : List Hr} (F : fitT v m w H) : f461 v m w H = some (mkB (fmtT v m w H)) := by
 unfold f461
 rw [f471_3 F.v F.m F.w, obnd_s]
 have hn := F.n
 rw [oloop_all (fun i => (mkB (w3 v m w) :: (H.take i).map (fun p => mkB (partH p)), (i : Int))) H.length (r := mkB (w3 v m w) :: H.map (fun p => mkB (partH p))) (e0 := ([mkB (w3 v m w)], (0 : Int))) rfl ?_ ?_]
 · rw [obnd_s, f384_e (r := fmtT v m w H) (by
    simp only [List.map_cons, List.map_map]
    rw [Lib.join_cons]
    rfl) (by simp; omega) (by have := fmtT_len F; omega), obnd_s]
 · intro i hi2
   have hp := List.getElem_mem hi2
   obtain ⟨i1, i2, i3⟩ := F.i H[i] hp
   have hx := f471_3 i1 i2 i3
   simp (disch := omega) only [obnd_s, obnd_n, oite_ss, oite_t, oite_f, ogrd_t, ogrd_f, obndS_l, obndS_r, ilt_eq, ile_eq, ieq_eq, imax_e, imin_e, k0, k1, k2, k3, k4, k5, k6, k7, k8, k9, reduceIte, k10, k11, k12, k13, k14, k15, k16, k17, k18, k19, k20, k21, k22, k23, k24, k25, k26, k27, k28, hi2, get_i hi2, hx, wr]
   rw [ogrd_fits (by simp; omega) (by simp; omega), List.take_succ_eq_append_getElem hi2]
   simp only [List.map_append, List.map_cons, List.map_nil]
   rfl
 · simp only [List.length_map, List.take_length]; simp (disch := omega) only [obnd_s, obnd_n, oite_ss, oite_t, oite_f, ogrd_t, ogrd_f, obndS_l, obndS_r, ilt_eq, ile_eq, ieq_eq, imax_e, imin_e, k0, k1, k2, k3, k4, k5, k6, k7, k8, k9, reduceIte, k10, k11, k12, k13, k14, k15, k16, k17, k18, k19, k20, k21, k22, k23, k24, k25, k26, k27, k28, Int.lt_irrefl]
theorem f466_e {lo hi : Int} {M : List Md} (F : fitP lo hi M) : f466 lo hi M = some (mkB (fmtP lo hi M)) := by
 have e32 : (⟨#[32]⟩ : ByteArray) = mkB [32] := rfl
 have e59 : (⟨#[59]⟩ : ByteArray) = mkB [59] := rfl
 have l1 := itoa_len F.lo
 have l2 := itoa_len F.hi
 have hn := F.n
 unfold f466
 rw [e32, e59, f388_e F.lo, obnd_s, ble_t (by simp [size_mk]; omega), ogrd_t, f388_e F.hi, obnd_s, mkB_app, ble_t (by simp [size_mk]; omega), ogrd_t, mkB_app]
 rw [oloop_all (fun i => (mkB (w2 lo hi ++ tl ((M.take i).map partM)), (i : Int))) M.length (r := mkB (fmtP lo hi M)) (by simp [w2, tl, Lib.joinTail]) ?_ ?_]
 · rfl
 · intro i hi2
   have hp := List.getElem_mem hi2
   obtain ⟨i1, i2, i3⟩ := F.i M[i] hp
   have a1 := itoa_len i1
   have a2 := itoa_len i2
   have a3 := itoa_len i3
   have hs := F.s M[i] hp
   have hsl := size_l M[i].1
   have ht := tl_len 86 ((M.take i).map partM) (fun x hx => partM_len F x (by obtain ⟨p, hp, rfl⟩ := List.mem_map.1 hx; exact List.mem_map.2 ⟨p, List.mem_of_mem_take hp, rfl⟩))
   have hw := w2_len F.lo F.hi
   have hl : ((M.take i).map partM).length ≤ 7 := by simp; omega
   have h6 : (tl ((M.take i).map partM)).length ≤ 700 := by
    have : ((M.take i).map partM).length * 87 ≤ 7 * 87 := Nat.mul_le_mul_right _ hl
    omega
   have hb : ∀ a : List UInt8, a.length ≤ 2000 → ∀ b : List UInt8, b.length ≤ 2000 → Nat.ble ((mkB a).size + (mkB b).size) 9223372036854775807 = true := fun a ha b hb => ble_t (by rw [size_mk, size_mk]; omega)
   have hnm : M[i].1 = mkB M[i].1.data.toList := rfl
   have h1 : ilt (i : Int) ((M.map e_SIII).length : Int) = true := ilt_t (by simp; omega)
   have h2 : ile 0 (i : Int) = true := ile_t (by omega)
   have hx : M[((i : Int)).toNat]? = some M[i] := by rw [Int.toNat_natCast]; exact List.getElem?_eq_getElem hi2
   generalize hT : tl ((M.take i).map partM) = T at ht h6
   simp only [h1, h2, oite_t, ogrd_t, hx, obnd_s]
   rw [hnm]
   generalize hN : M[i].1.data.toList = N at hsl
   simp only [mkB_app]
   rw [hb _ (by simp; omega) _ (by simp), ogrd_t, hb _ (by simp; omega) _ (by omega), ogrd_t, hb _ (by simp; omega) _ (by simp), ogrd_t, f388_e i1, obnd_s]
   simp only [mkB_app]
   rw [hb _ (by simp; omega) _ (by omega), ogrd_t, hb _ (by simp; omega) _ (by simp), ogrd_t, f388_e i2, obnd_s]
   simp only [mkB_app]
   rw [hb _ (by simp; omega) _ (by omega), ogrd_t, hb _ (by simp; omega) _ (by simp), ogrd_t, f388_e i3, obnd_s]
   simp only [mkB_app]
   rw [hb _ (by simp; omega) _ (by omega), ogrd_t, wr (by omega) (by omega), List.take_succ_eq_append_getElem hi2, List.map_append, List.map_cons, List.map_nil, tl_snoc, hT]
   have : partM M[i] = N ++ 32 :: w3 M[i].2.1 M[i].2.2.1 M[i].2.2.2 := by unfold partM; rw [hN]
   rw [this]
   simp only [w3, List.append_assoc, List.cons_append, List.nil_append]
   rfl
 · simp only [List.length_map, List.take_length]; simp (disch := omega) only [obnd_s, obnd_n, oite_ss, oite_t, oite_f, ogrd_t, ogrd_f, obndS_l, obndS_r, ilt_eq, ile_eq, ieq_eq, imax_e, imin_e, k0, k1, k2, k3, k4, k5, k6, k7, k8, k9, reduceIte, k10, k11, k12, k13, k14, k15, k16, k17, k18, k19, k20, k21, k22, k23, k24, k25, k26, k27, k28, Int.lt_irrefl]; rfl
theorem f467_e {v m w : Int} {H : List Hr} (F : fitT v m w H) : f467 v m w H = some (mkB (fmtT v m w H)) := by
 have e32 : (⟨#[32]⟩ : ByteArray) = mkB [32] := rfl
 have e59 : (⟨#[59]⟩ : ByteArray) = mkB [59] := rfl
 have l1 := itoa_len F.v
 have l2 := itoa_len F.m
 have l3 := itoa_len F.w
 have hn := F.n
 unfold f467
 rw [e32, e59, f388_e F.v, obnd_s, ble_t (by simp [size_mk]; omega), ogrd_t, f388_e F.m, obnd_s, mkB_app, ble_t (by simp [size_mk]; omega), ogrd_t, mkB_app, ble_t (by simp [size_mk]; omega), ogrd_t, f388_e F.w, obnd_s, mkB_app, ble_t (by simp [size_mk]; omega), ogrd_t, mkB_app]
 rw [oloop_all (fun i => (mkB (w3 v m w ++ tl ((H.take i).map partH)), (i : Int))) H.length (r := mkB (fmtT v m w H)) (by simp [w3, tl, Lib.joinTail]) ?_ ?_]
 · rfl
 · intro i hi2
   have hp := List.getElem_mem hi2
   obtain ⟨i1, i2, i3⟩ := F.i H[i] hp
   have a1 := itoa_len i1
   have a2 := itoa_len i2
   have a3 := itoa_len i3
   have ht := tl_len 65 ((H.take i).map partH) (fun x hx => partH_len F x (by obtain ⟨p, hp, rfl⟩ := List.mem_map.1 hx; exact List.mem_map.2 ⟨p, List.mem_of_mem_take hp, rfl⟩))
   have hw := w3_len F.v F.m F.w
   have hl : ((H.take i).map partH).length ≤ 12 := by simp; omega
   have h6 : (tl ((H.take i).map partH)).length ≤ 800 := by
    have : ((H.take i).map partH).length * 66 ≤ 12 * 66 := Nat.mul_le_mul_right _ hl
    omega
   have hb : ∀ a : List UInt8, a.length ≤ 2000 → ∀ b : List UInt8, b.length ≤ 2000 → Nat.ble ((mkB a).size + (mkB b).size) 9223372036854775807 = true := fun a ha b hb => ble_t (by rw [size_mk, size_mk]; omega)
   have h1 : ilt (i : Int) ((H.map e_III).length : Int) = true := ilt_t (by simp; omega)
   have h2 : ile 0 (i : Int) = true := ile_t (by omega)
   have hx : H[((i : Int)).toNat]? = some H[i] := by rw [Int.toNat_natCast]; exact List.getElem?_eq_getElem hi2
   generalize hT : tl ((H.take i).map partH) = T at ht h6
   simp only [h1, h2, oite_t, ogrd_t, hx, obnd_s, mkB_app]
   rw [hb _ (by simp; omega) _ (by simp), ogrd_t, f388_e i1, obnd_s]
   simp only [mkB_app]
   rw [hb _ (by simp; omega) _ (by omega), ogrd_t, hb _ (by simp; omega) _ (by simp), ogrd_t, f388_e i2, obnd_s]
   simp only [mkB_app]
   rw [hb _ (by simp; omega) _ (by omega), ogrd_t, hb _ (by simp; omega) _ (by simp), ogrd_t, f388_e i3, obnd_s]
   simp only [mkB_app]
   rw [hb _ (by simp; omega) _ (by omega), ogrd_t, wr (by omega) (by omega), List.take_succ_eq_append_getElem hi2, List.map_append, List.map_cons, List.map_nil, tl_snoc, hT]
   simp only [partH, w3, List.append_assoc, List.cons_append, List.nil_append]
   rfl
 · simp only [List.length_map, List.take_length]; simp (disch := omega) only [obnd_s, obnd_n, oite_ss, oite_t, oite_f, ogrd_t, ogrd_f, obndS_l, obndS_r, ilt_eq, ile_eq, ieq_eq, imax_e, imin_e, k0, k1, k2, k3, k4, k5, k6, k7, k8, k9, reduceIte, k10, k11, k12, k13, k14, k15, k16, k17, k18, k19, k20, k21, k22, k23, k24, k25, k26, k27, k28, Int.lt_irrefl]; rfl
end
section
set_option linter.unusedSimpArgs false
set_option linter.unusedVariables false
open Go Go.RowKit
theorem spl_tl {c : UInt8} (hc : c = 59) : ∀ (l : List (List UInt8)) (p : List UInt8), c ∉ p → (∀ x, x ∈ l → c ∉ x) → spl c (p ++ tl l) = p :: l
  | [], p, h, _ => by simp [tl, Lib.joinTail, spl_no h]
  | x :: l, p, h, hl => by
    have ih := spl_tl hc l x (hl x (by simp)) (fun y hy => hl y (by simp [hy]))
    rw [tl_cons, ← hc, spl_app h, ih]
theorem no_i (v : Int) : (32 : UInt8) ∉ Lib.itoa v ∧ (59 : UInt8) ∉ Lib.itoa v := ⟨itoa_no v 32 (by decide) (by decide), itoa_no v 59 (by decide) (by decide)⟩
theorem wds_2 (a b : Int) : wds 32 (mkB (w2 a b)) = [mkB (Lib.itoa a), mkB (Lib.itoa b)] := by
 show (spl 32 (w2 a b)).map mkB = _
 unfold w2
 rw [spl_app (no_i a).1, spl_no (no_i b).1]; rfl
theorem spl_3 (a b c : Int) : spl 32 (w3 a b c) = [Lib.itoa a, Lib.itoa b, Lib.itoa c] := by
 unfold w3
 rw [spl_app (no_i a).1, spl_app (no_i b).1, spl_no (no_i c).1]
theorem wds_3 (a b c : Int) : wds 32 (mkB (w3 a b c)) = [mkB (Lib.itoa a), mkB (Lib.itoa b), mkB (Lib.itoa c)] := by
 show (spl 32 (w3 a b c)).map mkB = _
 rw [spl_3]; rfl
theorem num7 {v : Int} {b : Bool} (h : -1000000 ≤ v ∧ v ≤ 1000000) (hb : b = true ∨ 0 ≤ v) : numB (mkB (Lib.itoa v)) 7 b = true ∧ numV (mkB (Lib.itoa v)) = v :=
 num_t ⟨rfl, by rw [Lib.decDigits_length]; have := ndig_le 6 v.natAbs (by omega); omega⟩ (by omega) hb
theorem name_no {s : ByteArray} (h : nameB s = true) : (32 : UInt8) ∉ s.data.toList ∧ (59 : UInt8) ∉ s.data.toList ∧ emp s = false := by
 unfold nameB at h
 simp only [Bool.and_eq_true, decide_eq_true_eq, Option.isNone_iff_eq_none] at h
 obtain ⟨⟨h1, h2⟩, h3⟩ := h
 have hb : ∀ i, i < s.size → badC i (s.data.toList.getD i 0).toNat = false := fun i hi => by
   have := scanF_none h3 i (Nat.zero_le _) (by omega)
   cases hd : badC i (s.data.toList.getD i 0).toNat with
   | true => rw [hd] at this; cases this
   | false => rfl
 have hl := size_l s
 refine ⟨fun hx => ?_, fun hx => ?_, ?_⟩
 · obtain ⟨i, hi, e⟩ := List.getElem_of_mem hx
   have h0 := hb i (by omega)
   rw [getD_i hi, e] at h0
   cases i <;> (simp [badC, letC] at h0)
 · obtain ⟨i, hi, e⟩ := List.getElem_of_mem hx
   have h0 := hb i (by omega)
   rw [getD_i hi, e] at h0
   cases i <;> (simp [badC, letC] at h0)
 · unfold emp
   rw [Bool.eq_false_iff]
   intro e
   have e := eq_of_beq e
   rw [Lib.toList_data] at e
   rw [e] at hl
   have : (⟨#[]⟩ : ByteArray).toList.length = 0 := by rw [Lib.toList_data]; rfl
   omega
theorem w3_no (a b c : Int) : (59 : UInt8) ∉ w3 a b c := by
 have h1 := (no_i a).2; have h2 := (no_i b).2; have h3 := (no_i c).2
 unfold w3; simp [h1, h2, h3]
theorem w2_no (a b : Int) : (59 : UInt8) ∉ w2 a b := by
 have h1 := (no_i a).2; have h2 := (no_i b).2
 unfold w2; simp [h1, h2]
theorem modeOf_b {m : Md} (hn : nameB m.1 = true) (h1 : -10000 ≤ m.2.1 ∧ m.2.1 ≤ 10000) (h2 : -10000 ≤ m.2.2.1 ∧ m.2.2.1 ≤ 10000) (h3 : 0 ≤ m.2.2.2 ∧ m.2.2.2 ≤ 10000) : modeOf (mkB (partM m)) = some m := by
 obtain ⟨n1, _, n3⟩ := name_no hn
 have hw : wds 32 (mkB (partM m)) = [m.1, mkB (Lib.itoa m.2.1), mkB (Lib.itoa m.2.2.1), mkB (Lib.itoa m.2.2.2)] := by
  show (spl 32 (partM m)).map mkB = _
  unfold partM
  rw [spl_app n1, spl_3]; rfl
 have a1 := num7 (b := true) (v := m.2.1) (by omega) (.inl rfl)
 have a2 := num7 (b := true) (v := m.2.2.1) (by omega) (.inl rfl)
 have a3 := num7 (b := true) (v := m.2.2.2) (by omega) (.inl rfl)
 have e : ∀ n : Nat, decide (0 ≤ n) = true := fun n => decide_eq_true (Nat.zero_le n)
 unfold modeOf
 rw [hw, List.drop_one, List.tail_cons, nums_3, e, e, e, a1.1, a2.1, a3.1, a1.2, a2.2, a3.2, getD0, n3]
 rfl
theorem hourOf_b {h : Hr} (h1 : -10000 ≤ h.1 ∧ h.1 ≤ 10000) (h2 : -10000 ≤ h.2.1 ∧ h.2.1 ≤ 10000) (h3 : -10000 ≤ h.2.2 ∧ h.2.2 ≤ 10000) : hourOf (mkB (partH h)) = some h := by
 have a1 := num7 (b := true) (v := h.1) (by omega) (.inl rfl)
 have a2 := num7 (b := true) (v := h.2.1) (by omega) (.inl rfl)
 have a3 := num7 (b := true) (v := h.2.2) (by omega) (.inl rfl)
 have e : ∀ n : Nat, decide (0 ≤ n) = true := fun n => decide_eq_true (Nat.zero_le n)
 unfold hourOf partH
 rw [wds_3, nums_3, e, e, e, a1.1, a2.1, a3.1, a1.2, a2.2, a3.2]
 rfl
theorem allO_map {α β : Type} {f : β → Option α} {g : α → β} : ∀ (l : List α), (∀ x, x ∈ l → f (g x) = some x) → allO ((l.map g).map f) = some l
  | [], _ => rfl
  | x :: l, h => by
    simp only [List.map_cons]
    rw [h x (by simp)]
    simp only [allO, allO_map l (fun y hy => h y (by simp [hy]))]
    rfl
theorem modE_n {M : List Md} {i : Nat} (h : modE M i = 0) : nameB (gm M i).1 = true := by
 unfold modE at h
 cases hb : nameB (gm M i).1 with
 | true => rfl
 | false => rw [hb] at h; cases h
theorem plant_back {lo hi : Int} {M : List Md} (h : (ckP lo hi M).2 = 0) : plantOf (mkB (fmtP lo hi M)) = some (lo, hi, M) := by
 obtain ⟨_, h1, h2⟩ := ckP_0 h
 obtain ⟨h3, _, _⟩ := pltE_0 h1
 have hm : ∀ p, p ∈ M → nameB p.1 = true ∧ (-10000 ≤ p.2.1 ∧ p.2.1 ≤ 10000) ∧ (-10000 ≤ p.2.2.1 ∧ p.2.2.1 ≤ 10000) ∧ (0 ≤ p.2.2.2 ∧ p.2.2.2 ≤ 10000) := fun p hp => by
  obtain ⟨i, hi, rfl⟩ := List.getElem_of_mem hp
  have h4 := h2 i hi
  have h5 := modE_n h4
  have h6 := modE_0 h4
  have e : gm M i = M[i] := getD_i hi
  rw [e] at h5 h6
  exact ⟨h5, h6⟩
 have hw : wds 59 (mkB (fmtP lo hi M)) = mkB (w2 lo hi) :: (M.map fun m => mkB (partM m)) := by
  show (spl 59 (fmtP lo hi M)).map mkB = _
  unfold fmtP
  rw [spl_tl rfl _ _ (w2_no lo hi) (fun x hx => by
   obtain ⟨p, hp, rfl⟩ := List.mem_map.1 hx
   have h5 := (name_no (hm p hp).1).2.1
   have h6 := w3_no p.2.1 p.2.2.1 p.2.2.2
   unfold partM; simp [h5, h6])]
  simp only [List.map_cons, List.map_map]
  rfl
 have a1 := num7 (b := false) (v := lo) (by omega) (.inr (by omega))
 have a2 := num7 (b := false) (v := hi) (by omega) (.inr (by omega))
 unfold plantOf
 rw [hw, getD0, List.drop_one, List.tail_cons, wds_2, nums_2, decide_eq_false (show ¬ 2 ≤ 0 by omega), decide_eq_false (show ¬ 2 ≤ 1 by omega), a1.1, a2.1, a1.2, a2.2,
  allO_map M fun p hp => modeOf_b (hm p hp).1 (hm p hp).2.1 (hm p hp).2.2.1 (hm p hp).2.2.2]
 rfl
theorem task_back {lo hi v m w : Int} {M : List Md} {H : List Hr} (h : (ckT lo hi M v m w H).2 = 0) : taskOf (mkB (fmtT v m w H)) = some (v, m, w, H) := by
 obtain ⟨_, k⟩ := ckT_0 h
 have k0 := k.lo0
 have k1 := k.hi1
 have k2 := k.vlo
 have k3 := k.vhi
 have k4 := k.m0
 have k5 := k.m1
 have k6 := k.mfew
 have k7 := k.w4
 have hh : ∀ p, p ∈ H → (-10000 ≤ p.1 ∧ p.1 ≤ 10000) ∧ (-10000 ≤ p.2.1 ∧ p.2.1 ≤ 10000) ∧ (-10000 ≤ p.2.2 ∧ p.2.2 ≤ 10000) := fun p hp => by
  obtain ⟨i, hi, rfl⟩ := List.getElem_of_mem hp
  have h4 := k.hour i hi
  have e : gh H i = H[i] := getD_i hi
  rw [e] at h4
  exact h4
 have hw : wds 59 (mkB (fmtT v m w H)) = mkB (w3 v m w) :: (H.map fun m => mkB (partH m)) := by
  show (spl 59 (fmtT v m w H)).map mkB = _
  unfold fmtT
  rw [spl_tl rfl _ _ (w3_no v m w) (fun x hx => by
   obtain ⟨p, hp, rfl⟩ := List.mem_map.1 hx
   exact w3_no _ _ _)]
  simp only [List.map_cons, List.map_map]
  rfl
 have a1 := num7 (b := false) (v := v) (by omega) (.inr (by omega))
 have a2 := num7 (b := false) (v := m) (by omega) (.inr (by omega))
 have a3 := num7 (b := true) (v := w) (by omega) (.inl rfl)
 unfold taskOf
 rw [hw, getD0, List.drop_one, List.tail_cons, wds_3, nums_3, decide_eq_false (show ¬ 2 ≤ 0 by omega), decide_eq_false (show ¬ 2 ≤ 1 by omega), decide_eq_true (show 2 ≤ 2 by omega), a1.1, a2.1, a3.1, a1.2, a2.2, a3.2,
  allO_map H fun p hp => hourOf_b (hh p hp).1 (hh p hp).2.1 (hh p hp).2.2]
 rfl
theorem ba_beq (x : ByteArray) : (x == x) = true := by
 obtain ⟨d⟩ := x
 first | (show (d == d) = true; exact beq_self_eq_true d) | (show decide ((⟨d⟩ : ByteArray) = ⟨d⟩) = true; simp)
theorem f468_r {lo hi : Int} {M : List Md} (h : M.length ≤ 10000) : f468 lo hi M lo hi M = some true := by
 unfold f468
 simp only [ieq_eq, decide_true, Bool.not_true, oite_f, obnd_s]
 rw [oloop_all (fun i => (i : Int)) M.length (r := .inl ()) (e0 := 0) rfl ?_ ?_]
 · rfl
 · intro i hi2
   have h1 : ilt (i : Int) ((M.map e_SIII).length : Int) = true := ilt_t (by simp; omega)
   have h2 : ile 0 (i : Int) = true := ile_t (by omega)
   have hx : M[((i : Int)).toNat]? = some M[i] := by rw [Int.toNat_natCast]; exact List.getElem?_eq_getElem hi2
   simp only [h1, h2, hx, oite_t, oite_f, ogrd_t, obnd_s, ba_beq, decide_true, Bool.and_self, Bool.not_true]
   rw [wr (by omega) (by omega)]; rfl
 · simp only [ilt_f (show ((M.map e_SIII).length : Int) ≤ (M.length : Int) by simp), oite_f]
theorem f469_r {v m w : Int} {H : List Hr} (h : H.length ≤ 10000) : f469 v m w H v m w H = some true := by
 unfold f469
 simp only [ieq_eq, decide_true, Bool.not_true, oite_f, obnd_s]
 rw [oloop_all (fun i => (i : Int)) H.length (r := .inl ()) (e0 := 0) rfl ?_ ?_]
 · rfl
 · intro i hi2
   have h1 : ilt (i : Int) ((H.map e_III).length : Int) = true := ilt_t (by simp; omega)
   have h2 : ile 0 (i : Int) = true := ile_t (by omega)
   have hx : H[((i : Int)).toNat]? = some H[i] := by rw [Int.toNat_natCast]; exact List.getElem?_eq_getElem hi2
   simp only [h1, h2, hx, oite_t, oite_f, ogrd_t, obnd_s, decide_true, Bool.and_self, Bool.not_true]
   rw [wr (by omega) (by omega)]; rfl
 · simp only [ilt_f (show ((H.map e_III).length : Int) ≤ (H.length : Int) by simp), oite_f]
theorem outP_len {s : ByteArray} (hs : s.size ≤ 999) : (outP (plantOf s)).2.2.1.length ≤ 10000 := by
  cases h : plantOf s with
  | none => simp [outP]
  | some x =>
    obtain ⟨a, b, M⟩ := x
    have hM : M.length ≤ 1000 := by
      unfold plantOf at h
      split at h
      · rename_i hM
        simp only [Option.some.injEq, Prod.mk.injEq] at h
        obtain ⟨_, _, rfl⟩ := h
        have h1 := allO_len hM
        have h2 := wds_cnt (c := 59) (s := s)
        rw [List.length_map, List.length_drop] at h1
        omega
      · cases h
    simp only [outP]
    cases decide ((ckP a b M).2 = 0) <;> simp <;> omega
theorem outT_len {s : ByteArray} (hs : s.size ≤ 999) : (outT (taskOf s)).2.2.2.1.length ≤ 10000 := by
  cases h : taskOf s with
  | none => simp [outT]
  | some x =>
    obtain ⟨a, b, c, M⟩ := x
    have hM : M.length ≤ 1000 := by
      unfold taskOf at h
      split at h
      · rename_i hM
        simp only [Option.some.injEq, Prod.mk.injEq] at h
        obtain ⟨_, _, _, rfl⟩ := h
        have h1 := allO_len hM
        have h2 := wds_cnt (c := 59) (s := s)
        rw [List.length_map, List.length_drop] at h1
        omega
      · cases h
    simp only [outT]; omega
theorem law458 {lo hi v m w : Int} {M : List Md} {H : List Hr} {s : ByteArray} (i1 : is64 lo) (i2 : is64 hi) (i3 : ∀ p, p ∈ M → is64 p.2.1 ∧ is64 p.2.2.1 ∧ is64 p.2.2.2) (i4 : is64 v) (i5 : is64 m) (i6 : is64 w) (i7 : ∀ p, p ∈ H → is64 p.1 ∧ is64 p.2.1 ∧ is64 p.2.2) :
    f458 lo hi M v m w H s = some true := by
  unfold f458 f198
  obtain ⟨b, hb, hsm⟩ := @f307_e lo hi M
  rw [hb, f308_e]
  cases b with
  | false => rfl
  | true =>
    obtain ⟨hM1, hM2⟩ := hsm rfl
    by_cases hH : ¬ H.length ≤ 12
    · rw [decide_eq_false hH]; rfl
    have hH := Decidable.of_not_not hH
    rw [decide_eq_true hH]
    by_cases h0 : (300 : Int) < (s.size : Int)
    · simp (disch := omega) only [obnd_s, obnd_n, oite_ss, oite_t, oite_f, ogrd_t, ogrd_f, obndS_l, obndS_r, ilt_eq, ile_eq, ieq_eq, imax_e, imin_e, k0, k1, k2, k3, k4, k5, k6, k7, k8, k9, reduceIte, k10, k11, k12, k13, k14, k15, k16, k17, k18, k19, k20, k21, k22, k23, k24, k25, k26, k27, k28, h0]
    have hs : s.size ≤ 999 := by omega
    have FP : fitP lo hi M := ⟨i1, i2, hM1, hM2, i3⟩
    have FT : fitT v m w H := ⟨i4, i5, i6, hH, i7⟩
    have q1 := f468_r (lo := (outP (plantOf s)).1) (hi := (outP (plantOf s)).2.1) (outP_len hs)
    have q2 := f469_r (v := (outT (taskOf s)).1) (m := (outT (taskOf s)).2.1) (w := (outT (taskOf s)).2.2.1) (outT_len hs)
    have h347 : f347 lo hi M = some (ckP lo hi M).2 := by
      unfold f347
      rw [f325_e (by omega) (fun p hp => by have := hM2 p hp; omega)]; rfl
    have h311 : f311 lo hi M v m w H = some (ckT lo hi M v m w H).2 := f311_e (by omega) (fun p hp => by have := hM2 p hp; omega) (by omega)
    have sP : (mkB (fmtP lo hi M)).size ≤ 999 := by rw [size_mk]; have := fmtP_len FP; omega
    have sT : (mkB (fmtT v m w H)).size ≤ 999 := by rw [size_mk]; have := fmtT_len FT; omega
    simp (disch := omega) only [obnd_s, obnd_n, oite_ss, oite_t, oite_f, ogrd_t, ogrd_f, obndS_l, obndS_r, ilt_eq, ile_eq, ieq_eq, imax_e, imin_e, k0, k1, k2, k3, k4, k5, k6, k7, k8, k9, reduceIte, k10, k11, k12, k13, k14, k15, k16, k17, k18, k19, k20, k21, k22, k23, k24, k25, k26, k27, k28, h0, f309_e (lo := lo) (up := hi) (M := M) (by omega), f310_e (v := v) (m := m) (w := w) (H := H) (by omega), f460_e FP, f461_e FT, f462_e hs, f463_e hs, f464_e hs, f465_e hs, f466_e FP, f467_e FT]
    simp only [beq_self_eq_true, Bool.not_true, decide_true]
    simp (disch := omega) only [obnd_s, obnd_n, oite_ss, oite_t, oite_f, ogrd_t, ogrd_f, obndS_l, obndS_r, ilt_eq, ile_eq, ieq_eq, imax_e, imin_e, k0, k1, k2, k3, k4, k5, k6, k7, k8, k9, reduceIte, k10, k11, k12, k13, k14, k15, k16, k17, k18, k19, k20, k21, k22, k23, k24, k25, k26, k27, k28, q1, q2, h347, h311, f462_e sP, f463_e sT]
    have tail : (oite (!decide ((ckT lo hi M v m w H).2 = 0)) (some true) (obnd (oite (decide ((outT (taskOf (mkB (fmtT v m w H)))).2.2.2.2 = 0)) (obnd (f469 (outT (taskOf (mkB (fmtT v m w H)))).1 (outT (taskOf (mkB (fmtT v m w H)))).2.1 (outT (taskOf (mkB (fmtT v m w H)))).2.2.1 (outT (taskOf (mkB (fmtT v m w H)))).2.2.2.1 v m w H) fun y85 => some y85) (some false)) fun y85 => some y85)) = some true := by
      by_cases hT : (ckT lo hi M v m w H).2 = 0
      · rw [task_back hT]
        have e := f469_r (v := v) (m := m) (w := w) (H := H) (by omega)
        simp only [outT, hT, decide_true, Bool.not_true, oite_f, oite_t, e, obnd_s]
      · rw [decide_eq_false hT]; rfl
    rw [tail]
    by_cases hP : (ckP lo hi M).2 = 0
    · rw [plant_back hP]
      have e := f468_r (lo := lo) (hi := hi) (M := M) (by omega)
      simp only [outP, hP, decide_true, cond_true, Bool.not_true, oite_f, oite_t, e, obnd_s]
      rfl
    · rw [decide_eq_false hP]; rfl
end
end Go.Proofs.YtolapannkcdeeaaGreatDoor.AM
