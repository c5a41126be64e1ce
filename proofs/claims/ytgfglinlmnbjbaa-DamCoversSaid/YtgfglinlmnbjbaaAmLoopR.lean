/- Rules for loops and tests; lists of numbers. Conditions: none. -/
import Derived.Test.YtgfglinlmnbjbaaAmCast
import Derived.Lib.QuoteBits
namespace Go.Proofs.Ytgfglinlmnbjbaa.AM
set_option linter.unusedSimpArgs false
set_option linter.unusedVariables false
open Go Go.RowKit

theorem pbr_t {b : Bool} {p q : Prop} (h : b = true) (hp : p) : pbr b p q := by rw [h]; exact hp
theorem pbr_f {b : Bool} {p q : Prop} (h : b = false) (hq : q) : pbr b p q := by rw [h]; exact hq
theorem pbr_i {b : Bool} {p q : Prop} (ht : b = true → p) (hf : b = false → q) : pbr b p q := by cases b; exact hf rfl; exact ht rfl

/-- A loop that counts up, with early exits. -/
theorem ploop_up {E : Env} {a : ICode} {Q : IExit → St → Prop} {s : St} (S : Nat → St) (n : Nat) (Inv : Nat → Prop) (h0 : Recast s.h.next s (S 0)) (i0 : Inv 0)
    (step : ∀ i, i < n → Inv i → pstmt E a (fun e s' => match e with
      | .normal => Inv (i + 1) ∧ Recast s.h.next s' (S (i + 1))
      | .exit id => Q (.exit id) s'
      | .ret => Q .ret s') (S i))
    (last : Inv n → pstmt E a (fun e s' => match e with
      | .normal => False
      | .exit id => Q (.exit id) s'
      | .ret => Q .ret s') (S n)) : ploop E a Q s := by
  refine ⟨fun m s1 => ∃ i, i + m = n ∧ Inv i ∧ s1 = S i, n, S 0, h0, ⟨0, by omega, i0, rfl⟩, ?_⟩
  rintro m s1 ⟨i, hi, hI, rfl⟩
  rcases Nat.lt_or_ge i n with h | h
  · refine pstmt_sound (fun e s' h2 => ?_) (step i h hI)
    cases e with
    | normal => exact ⟨m - 1, S (i + 1), by omega, h2.2, i + 1, by omega, h2.1, rfl⟩
    | exit => exact h2
    | ret => exact h2
  · obtain rfl : i = n := by omega
    refine pstmt_sound (fun e s' h2 => ?_) (last hI)
    cases e with
    | normal => exact h2.elim
    | exit => exact h2
    | ret => exact h2

/-- Slots, some of them with other values. -/
def putsl : List (Nat × Value) → List (Nat × Value) → List (Nat × Value)
  | [], _ => []
  | (k, v) :: r, l => match look l k with
    | some v' => (k, v') :: putsl r l
    | none => (k, v) :: putsl r l
/-- The same, where only some slots turn. -/
theorem ploop_cnt {E : Env} {a : ICode} {Q : IExit → St → Prop} {t : List (Nat × Value)} {h : AHeap} (n : Nat) (f : Nat → List (Nat × Value)) (Inv : Nat → Prop) (h0 : Recast h.next ⟨t, h⟩ ⟨putsl t (f 0), h⟩) (i0 : Inv 0)
    (step : ∀ i, i < n → Inv i → pstmt E a (fun e s' => match e with
      | .normal => Inv (i + 1) ∧ Recast h.next s' ⟨putsl t (f (i + 1)), h⟩
      | .exit id => Q (.exit id) s'
      | .ret => Q .ret s') ⟨putsl t (f i), h⟩)
    (last : Inv n → pstmt E a (fun e s' => match e with
      | .normal => False
      | .exit id => Q (.exit id) s'
      | .ret => Q .ret s') ⟨putsl t (f n), h⟩) : ploop E a Q ⟨t, h⟩ :=
  ploop_up (fun i => ⟨putsl t (f i), h⟩) n Inv h0 i0 step last
/-- The same, where the memory turns too. -/
theorem ploop_cntH {E : Env} {a : ICode} {Q : IExit → St → Prop} {t : List (Nat × Value)} {h : AHeap} (n : Nat) (f : Nat → List (Nat × Value)) (H : Nat → AHeap) (Inv : Nat → Prop) (h0 : Recast h.next ⟨t, h⟩ ⟨putsl t (f 0), H 0⟩) (i0 : Inv 0)
    (step : ∀ i, i < n → Inv i → pstmt E a (fun e s' => match e with
      | .normal => Inv (i + 1) ∧ Recast h.next s' ⟨putsl t (f (i + 1)), H (i + 1)⟩
      | .exit id => Q (.exit id) s'
      | .ret => Q .ret s') ⟨putsl t (f i), H i⟩)
    (last : Inv n → pstmt E a (fun e s' => match e with
      | .normal => False
      | .exit id => Q (.exit id) s'
      | .ret => Q .ret s') ⟨putsl t (f n), H n⟩) : ploop E a Q ⟨t, h⟩ :=
  ploop_up (fun i => ⟨putsl t (f i), H i⟩) n Inv h0 i0 step last

theorem Recast.keep {K : Nat} {t : List (Nat × Value)} {h : AHeap} (l : List Nat) (hK : K ≤ h.next) : Recast K ⟨t, h⟩ ⟨akeep t l, h⟩ := .inr ⟨hK, fun ι w rt R T => ⟨ι, R, fun k v hv => T k v (look_akeep _ _ _ _ hv), .refl, fun _ h => h, fun _ _ _ => rfl⟩⟩
/-- The same, from the slots of a list on. -/
theorem ploop_cntK {E : Env} {a : ICode} {Q : IExit → St → Prop} {t : List (Nat × Value)} {h : AHeap} (l : List Nat) (n : Nat) (f : Nat → List (Nat × Value)) (Inv : Nat → Prop) (h0 : Recast h.next ⟨akeep t l, h⟩ ⟨putsl (akeep t l) (f 0), h⟩) (i0 : Inv 0)
    (step : ∀ i, i < n → Inv i → pstmt E a (fun e s' => match e with
      | .normal => Inv (i + 1) ∧ Recast h.next s' ⟨putsl (akeep t l) (f (i + 1)), h⟩
      | .exit id => Q (.exit id) s'
      | .ret => Q .ret s') ⟨putsl (akeep t l) (f i), h⟩)
    (last : Inv n → pstmt E a (fun e s' => match e with
      | .normal => False
      | .exit id => Q (.exit id) s'
      | .ret => Q .ret s') ⟨putsl (akeep t l) (f n), h⟩) : ploop E a Q ⟨t, h⟩ :=
  ploop_up (fun i => ⟨putsl (akeep t l) (f i), h⟩) n Inv ((Recast.keep l (Nat.le_refl _)).trans h0) i0 step last
theorem ploop_cntKH {E : Env} {a : ICode} {Q : IExit → St → Prop} {t : List (Nat × Value)} {h : AHeap} (l : List Nat) (n : Nat) (f : Nat → List (Nat × Value)) (H : Nat → AHeap) (Inv : Nat → Prop) (h0 : Recast h.next ⟨akeep t l, h⟩ ⟨putsl (akeep t l) (f 0), H 0⟩) (i0 : Inv 0)
    (step : ∀ i, i < n → Inv i → pstmt E a (fun e s' => match e with
      | .normal => Inv (i + 1) ∧ Recast h.next s' ⟨putsl (akeep t l) (f (i + 1)), H (i + 1)⟩
      | .exit id => Q (.exit id) s'
      | .ret => Q .ret s') ⟨putsl (akeep t l) (f i), H i⟩)
    (last : Inv n → pstmt E a (fun e s' => match e with
      | .normal => False
      | .exit id => Q (.exit id) s'
      | .ret => Q .ret s') ⟨putsl (akeep t l) (f n), H n⟩) : ploop E a Q ⟨t, h⟩ :=
  ploop_up (fun i => ⟨putsl (akeep t l) (f i), H i⟩) n Inv ((Recast.keep l (Nat.le_refl _)).trans h0) i0 step last

theorem wrap_nat {i : Nat} (h : i < 9223372036854775808) : IntKind.i64.wrap (i : Int) = (i : Int) := Go.Lib.wrap_i64_small i h
theorem wrap_in {n : Int} (h1 : -9223372036854775808 ≤ n) (h2 : n < 9223372036854775808) : IntKind.i64.wrap n = n := IntWalk.i64_in n ⟨h1, by omega⟩
theorem wrap_succ {i : Nat} (h : i < 4611686018427387904) : IntKind.i64.wrap ((i : Int) + 1) = ((i + 1 : Nat) : Int) := by
  rw [show ((i : Int) + 1) = ((i + 1 : Nat) : Int) by simp]; exact wrap_nat (by omega)
theorem ilt_t {a b : Int} (h : a < b) : ilt a b = true := by rw [ilt_eq]; simpa using h
theorem ilt_f {a b : Int} (h : b ≤ a) : ilt a b = false := by rw [ilt_eq]; simpa using h
theorem ile_t {a b : Int} (h : a ≤ b) : ile a b = true := by rw [ile_eq]; simpa using h
theorem ile_f {a b : Int} (h : b < a) : ile a b = false := by rw [ile_eq]; simpa using h
theorem ieq_t {a b : Int} (h : a = b) : ieq a b = true := by rw [ieq_eq]; simpa using h
theorem ieq_f {a b : Int} (h : a ≠ b) : ieq a b = false := by rw [ieq_eq]; simpa using h
theorem not_t {b : Bool} (h : b = true) : (!b) = false := by rw [h]; rfl
theorem not_f {b : Bool} (h : b = false) : (!b) = true := by rw [h]; rfl
theorem ilt_n {i n : Nat} (h : i < n) : ilt (i : Int) (n : Int) = true := ilt_t (by omega)
theorem ilt_nf {i n : Nat} (h : n ≤ i) : ilt (i : Int) (n : Int) = false := ilt_f (by omega)

def ints (L : List Int) : List Value := L.map fun x => .int .i64 x
instance {L : List Int} : ClL (ints L) := inferInstanceAs (ClL (L.map _))
theorem len_ints {L : List Int} : (ints L).length = L.length := by simp [ints]
theorem nthv_map {α : Type} {f : α → Value} {L : List α} {i : Nat} {x : α} (h : L[i]? = some x) : nthv (L.map f) i = some (f x) := by rw [nthv_eq]; simp [h]
theorem nth_ints {L : List Int} {i : Nat} {x : Int} (h : L[i]? = some x) : nthv (ints L) ((i : Int).toNat) = some (.int .i64 x) := nthv_map h
theorem ints_one {L : List Int} : ∀ v, v ∈ ints L → v.oneCell' = true := by
  intro v hv
  simp only [ints, List.mem_map] at hv
  obtain ⟨x, _, rfl⟩ := hv
  rfl
/-- A slice of numbers. -/
abbrev vints (L : List Int) : Value := VS 1 (ints L)
/-- A contract that yields a fresh slice, used anywhere. -/
theorem ICalls.goF {E : Env} {k z : Nat} {us es : List Value} (H : ICalls E k us AHeap.none fun v h' => ∃ b n, v = VT z es b ∧ n = es.length ∧ h'.get b = some (.tail n z)) [hus : ClL us] [hes : ClL es] {h : AHeap} {Q : Value → AHeap → Prop}
    (hq : Q (VT z es h.next) (h.alloc (.tail es.length z))) : PCalls E k us h Q :=
  ⟨(ICalls.fresh hus.out (Cl.out (v := VS z es)) H h).use2 hq⟩
end Go.Proofs.Ytgfglinlmnbjbaa.AM
