/- The string of a number, as the reference prints it. Conditions: none. -/
import Derived.Test.YtolapannkcdeeaaGreatDoorAmShf
import Derived.WalkKit
import Derived.WalkSpells
import Derived.WalkLawsBesides
namespace Go.Proofs.YtolapannkcdeeaaGreatDoor.AM
set_option linter.unusedSimpArgs false
set_option linter.unusedVariables false
open Go Go.RowKit Go.Sort
def dg (m : Nat) : List UInt8 := if m = 0 then [] else Lib.decDigits m
theorem dg_step {m : Nat} (h : m ≠ 0) : dg m = dg (m / 10) ++ [UInt8.ofNat (48 + m % 10)] := by
 unfold dg
 rw [if_neg h]
 by_cases h1 : m / 10 = 0
 · have h2 : m < 10 := by omega
   rw [if_pos h1, Lib.decDigits, dif_pos h2, show m % 10 = m by omega]; rfl
 · have h2 : ¬ m < 10 := by omega
   rw [if_neg h1]
   conv => lhs; rw [Lib.decDigits]
   rw [dif_neg h2]
set_option maxHeartbeats 1000000 in
set_option maxRecDepth 100000 in
theorem size_c (d : Int) (hd : -10 < d ∧ d < 10) (w : World) : Calls Tryz.prog 93 #[.int .i64 d] w fun e w' => e = .returned (.int .i64 d.natAbs) ∧ w' = w := by
 go_enter Tryz.func93, Tryz.ntmps93
 go_wp2
 go_ret
 refine ⟨?_, rfl⟩
 show Ending.returned (.int .i64 (max d (-d))) = _
 have : max d (-d) = (d.natAbs : Int) := by omega
 rw [this]
theorem conv1 (x : Int) (w1 : World) : (convert 137 9 (.slice (some ⟨w1.heap.size, 0, none⟩) 1 1)).run Tryz.prog (w1.alloc (.cells #[.int .u8 x] 5)) = .ok (.string (strOfNums [x])) (w1.alloc (.cells #[.int .u8 x] 5)) :=
 run_convert_bytes_arg (w1.alloc (.cells #[.int .u8 x] 5)) 137 5 Tryz.underlying137 Tryz.underlying5 w1.heap.size 0 1 1 [x] rfl (fun i hi => by
  obtain rfl : i = 0 := by omega
  simp) 9 Tryz.underlying9
theorem str1 (m : Nat) (t : List UInt8) : strOfNums [48 + (m : Int)] ++ ⟨t.toArray⟩ = ⟨((48 + UInt8.ofNat m) :: t).toArray⟩ := by
 have h1 : (48 + (m : Int)).toNat = 48 + m := by omega
 unfold strOfNums
 rw [ByteArray.mk_append_mk]
 simp only [List.map_cons, List.map_nil, h1]
 simp
theorem tmod_abs (c : Int) : (c.tmod 10).natAbs = c.natAbs % 10 := by rw [Int.natAbs_tmod]; rfl
theorem tdiv_abs (c : Int) : (c.tdiv 10).natAbs = c.natAbs / 10 := by rw [Int.natAbs_tdiv]; rfl
theorem dec_next {c : Int} {N : Nat} {t : List UInt8} (hc : c ≠ 0) (h : dg c.natAbs ++ t = Lib.decDigits N) : dg (c.tdiv 10).natAbs ++ (48 + UInt8.ofNat (c.natAbs % 10)) :: t = Lib.decDigits N := by
 rw [← h, dg_step (m := c.natAbs) (by omega), tdiv_abs]; simp [UInt8.ofNat_add]
theorem ndig_le : ∀ (k u : Nat), u < 10 ^ (k + 1) → Lib.nDigits u ≤ k + 1
  | 0, u, h => by rw [Lib.nDigits_small (by simpa using h)]; omega
  | k + 1, u, h => by
    by_cases h1 : u < 10
    · rw [Lib.nDigits_small h1]; omega
    · rw [Lib.nDigits_big h1]
      have := ndig_le k (u / 10) (by rw [Nat.pow_succ] at h; omega)
      omega
theorem digs_le {m : Nat} (h : m ≤ 9223372036854775808) : (Lib.decDigits m).length ≤ 20 := by
 rw [Lib.decDigits_length]
 exact ndig_le 19 m (by omega)
theorem size_str (t : List UInt8) : (⟨t.toArray⟩ : ByteArray).size = t.length := by
 show t.toArray.size = _; simp
set_option maxHeartbeats 1000000 in
set_option maxRecDepth 100000 in
theorem decimal_ok (n : Int) (h0 : n ≠ 0) (hn : -9223372036854775808 ≤ n) (hn2 : n ≤ 9223372036854775807) (w : World) :
    Calls Tryz.prog 47 #[.int .i64 n] w fun e w' => e = .returned (.string ⟨(Lib.itoa n).toArray⟩) ∧ Below w.heap.size w w' := by
  have hdl := digs_le (m := n.natAbs) (by omega)
  go_enter Tryz.func47, Tryz.ntmps47
  go_wp2
  · have hneg : n < 0 := by assumption
    have hb7 : (n == 0) = false := by simpa using h0
    have hb9 : decide (n < 0) = true := by simpa using hneg
    rw [hb7, hb9]
    clear hb7 hb9
    go_loopw [0, 3] (fun a b wr => ∃ (c : Int) (t : List UInt8), a = .int .i64 c ∧ b = .string ⟨t.toArray⟩ ∧ dg c.natAbs ++ t = Lib.decDigits n.natAbs ∧ c.natAbs ≤ n.natAbs ∧ Below w.heap.size w wr) (fun a _ _ => (intOf a).natAbs)
    case atStart => exact ⟨n, [], rfl, rfl, by simp [dg, h0], Nat.le_refl _, Below.refl _ _⟩
    case round =>
      obtain ⟨c, t, rfl, rfl, ht, hle, hB⟩ := hrel
      have hl : t.length ≤ 20 := by
        have := congrArg List.length ht
        rw [List.length_append] at this
        have := digs_le (m := n.natAbs) (by omega)
        omega
      obtain ⟨m, hm, hmc⟩ : ∃ m : Nat, m < 10 ∧ m = c.natAbs % 10 := ⟨c.natAbs % 10, by omega, rfl⟩
      have hsz : ∀ w', Calls Tryz.prog 93 #[.int .i64 (c.tmod 10)] w' fun e w2 => e = .returned (.int .i64 (m : Int)) ∧ w2 = w' := fun w' => by
        have h1 := tmod_abs c
        have := size_c (c.tmod 10) (by omega) w'
        rw [h1, ← hmc] at this; exact this
      have hadd : ∀ w', (Op.stringOp .add (strOfNums [48 + (m : Int)]) ⟨t.toArray⟩).run Tryz.prog w' = .ok (.string ⟨((48 + UInt8.ofNat m) :: t).toArray⟩) w' := fun w' => by
        rw [run_string_add_sum w' _ _ (by have e1 := size_str t; have e2 := strOfNums_size [48 + (m : Int)]; rw [e1, e2]; simp; omega), str1]
      have hadd2 : ∀ w', (Op.stringOp .add ⟨#[45]⟩ ⟨t.toArray⟩).run Tryz.prog w' = .ok (.string (⟨#[45]⟩ ++ ⟨t.toArray⟩)) w' := fun w' => by
        rw [run_string_add_sum w' _ _ (by have e1 := size_str t; have e2 : (⟨#[45]⟩ : ByteArray).size = 1 := rfl; rw [e1, e2]; omega)]
      have hnext : (c != 0) = true → dg (c.tdiv 10).natAbs ++ (48 + UInt8.ofNat m) :: t = Lib.decDigits n.natAbs := fun hc => by rw [hmc]; exact dec_next (by simpa using hc) ht
      have hend : ¬ (c != 0) = true → t = Lib.decDigits n.natAbs := fun hc => by
        have hc : c = 0 := by simpa using hc
        subst hc; simpa [dg] using ht
      have hq : wrap64 (c.tdiv 10) = c.tdiv 10 := by have := tdiv_abs c; unfold wrap64; omega
      have hle2 : (c.tdiv 10).natAbs ≤ n.natAbs := by rw [tdiv_abs]; omega
      have hms : (c != 0) = true → (c.tdiv 10).natAbs < c.natAbs := fun hc => by
        have hc : c ≠ 0 := by simpa using hc
        rw [tdiv_abs]; omega
      have hconv := fun x => conv1 x wr
      clear ht hmc
      go_wp2_with (go_at_call 93; refine (hsz _).mono ?_; rintro e w1 ⟨rfl, rfl⟩)
      · go_roundw
        case rel =>
          refine ⟨_, (48 + UInt8.ofNat m) :: t, rfl, rfl, ?_, ?_, ?_⟩
          · first | exact hnext (by assumption) | (rw [hq]; exact hnext (by assumption))
          · first | exact hle2 | (rw [hq]; exact hle2)
          · exact hB.alloc hB.size _
        case measure =>
          first
            | exact hms (by assumption)
            | (show (wrap64 (c.tdiv 10)).natAbs < c.natAbs
               rw [hq]; exact hms (by assumption))
      · go_ret
        refine ⟨?_, hB⟩
        show Ending.returned (.string (⟨#[45]⟩ ++ ⟨(Lib.decDigits n.natAbs).toArray⟩)) = _
        rw [ByteArray.mk_append_mk]
        have hna : ¬ n < 0 → n.natAbs = n.toNat := by omega
        simp [Lib.itoa, hneg, hna]
  · have hneg : ¬ n < 0 := by first | assumption | omega
    have hb7 : (n == 0) = false := by simpa using h0
    have hb9 : decide (n < 0) = false := by simpa using hneg
    rw [hb7, hb9]
    clear hb7 hb9
    go_loopw [0, 3] (fun a b wr => ∃ (c : Int) (t : List UInt8), a = .int .i64 c ∧ b = .string ⟨t.toArray⟩ ∧ dg c.natAbs ++ t = Lib.decDigits n.natAbs ∧ c.natAbs ≤ n.natAbs ∧ Below w.heap.size w wr) (fun a _ _ => (intOf a).natAbs)
    case atStart => exact ⟨n, [], rfl, rfl, by simp [dg, h0], Nat.le_refl _, Below.refl _ _⟩
    case round =>
      obtain ⟨c, t, rfl, rfl, ht, hle, hB⟩ := hrel
      have hl : t.length ≤ 20 := by
        have := congrArg List.length ht
        rw [List.length_append] at this
        have := digs_le (m := n.natAbs) (by omega)
        omega
      obtain ⟨m, hm, hmc⟩ : ∃ m : Nat, m < 10 ∧ m = c.natAbs % 10 := ⟨c.natAbs % 10, by omega, rfl⟩
      have hsz : ∀ w', Calls Tryz.prog 93 #[.int .i64 (c.tmod 10)] w' fun e w2 => e = .returned (.int .i64 (m : Int)) ∧ w2 = w' := fun w' => by
        have h1 := tmod_abs c
        have := size_c (c.tmod 10) (by omega) w'
        rw [h1, ← hmc] at this; exact this
      have hadd : ∀ w', (Op.stringOp .add (strOfNums [48 + (m : Int)]) ⟨t.toArray⟩).run Tryz.prog w' = .ok (.string ⟨((48 + UInt8.ofNat m) :: t).toArray⟩) w' := fun w' => by
        rw [run_string_add_sum w' _ _ (by have e1 := size_str t; have e2 := strOfNums_size [48 + (m : Int)]; rw [e1, e2]; simp; omega), str1]
      have hadd2 : ∀ w', (Op.stringOp .add ⟨#[]⟩ ⟨t.toArray⟩).run Tryz.prog w' = .ok (.string (⟨#[]⟩ ++ ⟨t.toArray⟩)) w' := fun w' => by
        rw [run_string_add_sum w' _ _ (by have e1 := size_str t; have e2 : (⟨#[]⟩ : ByteArray).size = 0 := rfl; rw [e1, e2]; omega)]
      have hnext : (c != 0) = true → dg (c.tdiv 10).natAbs ++ (48 + UInt8.ofNat m) :: t = Lib.decDigits n.natAbs := fun hc => by rw [hmc]; exact dec_next (by simpa using hc) ht
      have hend : ¬ (c != 0) = true → t = Lib.decDigits n.natAbs := fun hc => by
        have hc : c = 0 := by simpa using hc
        subst hc; simpa [dg] using ht
      have hq : wrap64 (c.tdiv 10) = c.tdiv 10 := by have := tdiv_abs c; unfold wrap64; omega
      have hle2 : (c.tdiv 10).natAbs ≤ n.natAbs := by rw [tdiv_abs]; omega
      have hms : (c != 0) = true → (c.tdiv 10).natAbs < c.natAbs := fun hc => by
        have hc : c ≠ 0 := by simpa using hc
        rw [tdiv_abs]; omega
      have hconv := fun x => conv1 x wr
      clear ht hmc
      go_wp2_with (go_at_call 93; refine (hsz _).mono ?_; rintro e w1 ⟨rfl, rfl⟩)
      · go_roundw
        case rel =>
          refine ⟨_, (48 + UInt8.ofNat m) :: t, rfl, rfl, ?_, ?_, ?_⟩
          · first | exact hnext (by assumption) | (rw [hq]; exact hnext (by assumption))
          · first | exact hle2 | (rw [hq]; exact hle2)
          · exact hB.alloc hB.size _
        case measure =>
          first
            | exact hms (by assumption)
            | (show (wrap64 (c.tdiv 10)).natAbs < c.natAbs
               rw [hq]; exact hms (by assumption))
      · go_ret
        refine ⟨?_, hB⟩
        show Ending.returned (.string (⟨#[]⟩ ++ ⟨(Lib.decDigits n.natAbs).toArray⟩)) = _
        rw [ByteArray.mk_append_mk]
        have hna : ¬ n < 0 → n.natAbs = n.toNat := by omega
        simp [Lib.itoa, hneg, hna]
set_option maxHeartbeats 1000000 in
set_option maxRecDepth 100000 in
theorem decimal_0 (w : World) : Calls Tryz.prog 47 #[.int .i64 0] w fun e w' => e = .returned (.string ⟨(Lib.itoa 0).toArray⟩) ∧ Below w.heap.size w w' := by
 have h : (⟨(Lib.itoa 0).toArray⟩ : ByteArray) = ⟨#[48]⟩ := by
  unfold Lib.itoa
  rw [if_neg (by omega), Lib.decDigits, dif_pos (by decide)]; rfl
 rw [h]
 go_enter Tryz.func47, Tryz.ntmps47
 go_wp2
 go_ret
 exact ⟨rfl, Below.refl _ _⟩
theorem decimal_all (n : Int) (hn : -9223372036854775808 ≤ n) (hn2 : n ≤ 9223372036854775807) (w : World) :
   Calls Tryz.prog 47 #[.int .i64 n] w fun e w' => e = .returned (.string ⟨(Lib.itoa n).toArray⟩) ∧ Below w.heap.size w w' := by
 by_cases h : n = 0
 · subst h; exact decimal_0 w
 · exact decimal_ok n h hn hn2 w
end Go.Proofs.YtolapannkcdeeaaGreatDoor.AM
