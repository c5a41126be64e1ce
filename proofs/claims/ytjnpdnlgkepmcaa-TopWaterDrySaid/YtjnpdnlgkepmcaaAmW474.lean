/- Plain law: nobody inside gets wet. Conditions: numbers of 64 bits. -/
import Derived.Test.YtjnpdnlgkepmcaaAmD0
import Derived.Test.YtjnpdnlgkepmcaaAmLf
namespace Go.Proofs.Ytjnpdnlgkepmcaa.AM
section
set_option linter.unusedSimpArgs false
set_option linter.unusedVariables false
open Go Go.RowKit
theorem f15_e (n lo hi : Int) : f15 n lo hi = some (decide (lo ≤ n) && decide (n ≤ hi)) := by unfold f15; simp (disch := omega) only [obnd_s, obnd_n, oite_ss, oite_t, oite_f, ogrd_t, ogrd_f, obndS_l, obndS_r, ilt_eq, ile_eq, ieq_eq, imax_e, imin_e, k0, k1, k2, k3, k4, k5, k6, k7, k8, k9, reduceIte, k10, k11, k12, k13, k14, k15, k16, k17, k18, k19, k20, k21, k22, k23, k24, k25, k26, k27, k28]
theorem f493_e (n lo hi : Int) : f493 n lo hi = some (decide (lo ≤ n) && decide (n ≤ hi)) := by unfold f493; simp (disch := omega) only [obnd_s, obnd_n, oite_ss, oite_t, oite_f, ogrd_t, ogrd_f, obndS_l, obndS_r, ilt_eq, ile_eq, ieq_eq, imax_e, imin_e, k0, k1, k2, k3, k4, k5, k6, k7, k8, k9, reduceIte, k10, k11, k12, k13, k14, k15, k16, k17, k18, k19, k20, k21, k22, k23, k24, k25, k26, k27, k28]
theorem f492_e (b : Bool) (e : Int) : f492 b e = some (if b = true then 0 else e) := by unfold f492; cases b <;> rfl
theorem getD_i {α : Type} {l : List α} {i : Nat} {d : α} (h : i < l.length) : l.getD i d = l[i] := by rw [List.getD_eq_getElem?_getD, List.getElem?_eq_getElem h]; rfl
theorem f491_0 {l : List Int} (hl : l.length ≤ 1000) (h : ∀ x, x ∈ l → x = 0) : f491 l = some 0 := by
 unfold f491
 rw [oloop_all (fun i => (i : Int)) l.length (r := (.inl () : Unit ⊕ Int)) (e0 := (0 : Int)) rfl ?_ ?_]
 · rfl
 · intro i hi
   simp (disch := omega) only [obnd_s, obnd_n, oite_ss, oite_t, oite_f, ogrd_t, ogrd_f, obndS_l, obndS_r, ilt_eq, ile_eq, ieq_eq, imax_e, imin_e, k0, k1, k2, k3, k4, k5, k6, k7, k8, k9, reduceIte, k10, k11, k12, k13, k14, k15, k16, k17, k18, k19, k20, k21, k22, k23, k24, k25, k26, k27, k28, hi, get_i hi, h _ (List.getElem_mem hi), wr]
   rfl
 · simp (disch := omega) only [obnd_s, obnd_n, oite_ss, oite_t, oite_f, ogrd_t, ogrd_f, obndS_l, obndS_r, ilt_eq, ile_eq, ieq_eq, imax_e, imin_e, k0, k1, k2, k3, k4, k5, k6, k7, k8, k9, reduceIte, k10, k11, k12, k13, k14, k15, k16, k17, k18, k19, k20, k21, k22, k23, k24, k25, k26, k27, k28, Int.lt_irrefl]
def letC (c : Nat) : Bool := (decide (97 ≤ c) && decide (c ≤ 122)) || (decide (65 ≤ c) && decide (c ≤ 90))
def badC (i c : Nat) : Bool := !letC c && (decide (i = 0) || (!decide (c = 45) && !(decide (48 ≤ c) && decide (c ≤ 57))))
def nameO (s : ByteArray) : Option Unit := scanF (fun i => bif badC i (s.data.toList.getD i 0).toNat then some () else none) s.size 0
def nameB (s : ByteArray) : Bool := decide (1 ≤ s.size) && decide (s.size ≤ 12) && (nameO s).isNone
theorem size_l (s : ByteArray) : s.data.toList.length = s.size := ba_size
theorem cle (k c : Nat) : decide ((k : Int) ≤ (c : Int)) = decide (k ≤ c) := by rw [Bool.eq_iff_iff]; simp
theorem name_scan (s : ByteArray) : scanF (fun i => bif badC i (s.data.toList.getD i 0).toNat then some (.inr false : Unit ⊕ Bool) else none) s.size 0 = (nameO s).map fun _ => .inr false := by
 unfold nameO
 rw [← scanF_map]
 refine scanF_congr fun k _ _ => ?_
 cases badC k (s.data.toList.getD k 0).toNat <;> rfl
theorem f516_w {s : ByteArray} (hs : s.size ≤ 9223372036854775807) : f516 s = some (nameB s) := by
  unfold f516
  rw [oloop_scanB (fun i => (i : Int)) s.size (fun i => badC i (s.data.toList.getD i 0).toNat) (fun _ => .inr false) (d := .inl ()) (e0 := 0) rfl ?_ ?_, name_scan]
  · unfold nameB
    cases nameO s with
    | none =>
      simp (disch := omega) only [obnd_s, obnd_n, oite_ss, oite_t, oite_f, ogrd_t, ogrd_f, obndS_l, obndS_r, ilt_eq, ile_eq, ieq_eq, imax_e, imin_e, k0, k1, k2, k3, k4, k5, k6, k7, k8, k9, reduceIte, k10, k11, k12, k13, k14, k15, k16, k17, k18, k19, k20, k21, k22, k23, k24, k25, k26, k27, k28, f493_e, Option.map_none, Option.getD_none, Option.isNone_none]
      rw [show decide ((1 : Int) ≤ s.size) = decide (1 ≤ s.size) from cle 1 _, show decide ((s.size : Int) ≤ 12) = decide (s.size ≤ 12) from cle _ 12]
    | some _ => simp (disch := omega) only [obnd_s, obnd_n, oite_ss, oite_t, oite_f, ogrd_t, ogrd_f, obndS_l, obndS_r, ilt_eq, ile_eq, ieq_eq, imax_e, imin_e, k0, k1, k2, k3, k4, k5, k6, k7, k8, k9, reduceIte, k10, k11, k12, k13, k14, k15, k16, k17, k18, k19, k20, k21, k22, k23, k24, k25, k26, k27, k28, Option.map_some, Option.getD_some, Option.isNone_some]
  · intro i hi
    have hi' : i < s.data.toList.length := by rw [size_l]; exact hi
    rw [getD_i hi']
    have hc := (s.data.toList[i]).toNat_lt
    simp (disch := omega) only [obnd_s, obnd_n, oite_ss, oite_t, oite_f, ogrd_t, ogrd_f, obndS_l, obndS_r, ilt_eq, ile_eq, ieq_eq, imax_e, imin_e, k0, k1, k2, k3, k4, k5, k6, k7, k8, k9, reduceIte, k10, k11, k12, k13, k14, k15, k16, k17, k18, k19, k20, k21, k22, k23, k24, k25, k26, k27, k28, hi', get_i hi', f493_e, wr]
    generalize (s.data.toList[i]).toNat = c at *
    have e : (!((decide ((97 : Int) ≤ c) && decide ((c : Int) ≤ 122)) || (decide ((65 : Int) ≤ c) && decide ((c : Int) ≤ 90))) && (decide ((i : Int) = 0) || (!decide ((c : Int) = 45) && !(decide ((48 : Int) ≤ c) && decide ((c : Int) ≤ 57))))) = badC i c := by
      unfold badC letC; rw [Bool.eq_iff_iff]; simp; omega
    rw [e]; rfl
  · simp (disch := omega) only [obnd_s, obnd_n, oite_ss, oite_t, oite_f, ogrd_t, ogrd_f, obndS_l, obndS_r, ilt_eq, ile_eq, ieq_eq, imax_e, imin_e, k0, k1, k2, k3, k4, k5, k6, k7, k8, k9, reduceIte, k10, k11, k12, k13, k14, k15, k16, k17, k18, k19, k20, k21, k22, k23, k24, k25, k26, k27, k28, Int.lt_irrefl, size_l]
theorem f91_w {s : ByteArray} (hs : s.size ≤ 9223372036854775807) : f91 s = some (nameB s) := by
  unfold f91
  rw [oloop_scanB (fun i => (i : Int)) s.size (fun i => badC i (s.data.toList.getD i 0).toNat) (fun _ => .inr false) (d := .inl ()) (e0 := 0) rfl ?_ ?_, name_scan]
  · have hsz : (decide ((s.size : Int) < 1) || decide (12 < (s.size : Int))) = !(decide (1 ≤ s.size) && decide (s.size ≤ 12)) := by
      rw [show decide ((s.size : Int) < 1) = !decide (1 ≤ s.size) by rw [← decide_not]; congr 1; exact propext (by omega), show decide (12 < (s.size : Int)) = !decide (s.size ≤ 12) by rw [← decide_not]; congr 1; exact propext (by omega)]
      cases decide (1 ≤ s.size) <;> cases decide (s.size ≤ 12) <;> rfl
    unfold nameB
    cases nameO s with
    | none =>
      simp (disch := omega) only [obnd_s, obnd_n, oite_ss, oite_t, oite_f, ogrd_t, ogrd_f, obndS_l, obndS_r, ilt_eq, ile_eq, ieq_eq, imax_e, imin_e, k0, k1, k2, k3, k4, k5, k6, k7, k8, k9, reduceIte, k10, k11, k12, k13, k14, k15, k16, k17, k18, k19, k20, k21, k22, k23, k24, k25, k26, k27, k28, Option.map_none, Option.getD_none, Option.isNone_none, hsz]
      first | done | (cases (decide (1 ≤ s.size) && decide (s.size ≤ 12)) <;> rfl)
    | some _ =>
      simp (disch := omega) only [obnd_s, obnd_n, oite_ss, oite_t, oite_f, ogrd_t, ogrd_f, obndS_l, obndS_r, ilt_eq, ile_eq, ieq_eq, imax_e, imin_e, k0, k1, k2, k3, k4, k5, k6, k7, k8, k9, reduceIte, k10, k11, k12, k13, k14, k15, k16, k17, k18, k19, k20, k21, k22, k23, k24, k25, k26, k27, k28, Option.map_some, Option.getD_some, Option.isNone_some, hsz]
  · intro i hi
    have hi' : i < s.data.toList.length := by rw [size_l]; exact hi
    rw [getD_i hi']
    simp (disch := omega) only [obnd_s, obnd_n, oite_ss, oite_t, oite_f, ogrd_t, ogrd_f, obndS_l, obndS_r, ilt_eq, ile_eq, ieq_eq, imax_e, imin_e, k0, k1, k2, k3, k4, k5, k6, k7, k8, k9, reduceIte, k10, k11, k12, k13, k14, k15, k16, k17, k18, k19, k20, k21, k22, k23, k24, k25, k26, k27, k28, hi', hi, get_i hi', wr]
    generalize (s.data.toList[i]).toNat = c at *
    have e : (!((decide ((97 : Int) ≤ c) && decide ((c : Int) ≤ 122)) || (decide ((65 : Int) ≤ c) && decide ((c : Int) ≤ 90))) && (decide ((i : Int) = 0) || (!decide ((c : Int) = 45) && (decide ((c : Int) < 48) || decide (57 < (c : Int)))))) = badC i c := by
      unfold badC letC; rw [Bool.eq_iff_iff]; simp; omega
    rw [e]; rfl
  · simp (disch := omega) only [obnd_s, obnd_n, oite_ss, oite_t, oite_f, ogrd_t, ogrd_f, obndS_l, obndS_r, ilt_eq, ile_eq, ieq_eq, imax_e, imin_e, k0, k1, k2, k3, k4, k5, k6, k7, k8, k9, reduceIte, k10, k11, k12, k13, k14, k15, k16, k17, k18, k19, k20, k21, k22, k23, k24, k25, k26, k27, k28, Int.lt_irrefl]
theorem nameB_12 {s : ByteArray} (h : nameB s = true) : s.size ≤ 12 := by
 simp only [nameB, Bool.and_eq_true, decide_eq_true_eq] at h; exact h.1.2
abbrev Nd := ByteArray × Bool × Int × Int
abbrev Cd := ByteArray × Int × Int × Int × Bool × Bool
def rS (l : List ByteArray) (s : ByteArray) : Unit ⊕ Bool → Prop
 | .inl _ => s ∉ l
 | .inr b => b = true
theorem f364_k {l : List ByteArray} {s : ByteArray} (hl : l.length ≤ 1000) : ∃ b, f364 l s = some b ∧ (b = false → s ∉ l) := by
  unfold f364
  refine obndS_ex (R := rS l s) (Q := fun b => b = false → s ∉ l) (oloop_ex (R := rS l s) (fun i e => e = (i : Int) ∧ s ∉ l.take i) l.length ⟨rfl, by simp⟩ ?_ ?_) (fun _ h => ⟨false, rfl, fun _ => h⟩) (fun b h => fun hb => by rw [show b = true from h] at hb; cases hb)
  · rintro i _ hi ⟨rfl, hn⟩
    have t1 : ilt (i : Int) ((l.length : Nat) : Int) = true := ilt_t (by omega)
    have t2 : ile 0 (i : Int) = true := ile_t (by omega)
    simp only [List.length_map, t1, t2, oite_t, ogrd_t, Int.toNat_natCast, get_i hi, obnd_s, w_succ (show i < 1000000 by omega)]
    cases hb : l[i].toList == s.toList with
    | true => exact .inr ⟨_, rfl, rfl⟩
    | false =>
      refine .inl ⟨_, rfl, rfl, ?_⟩
      rw [List.take_succ_eq_append_getElem hi, List.mem_append]
      rintro (h | h)
      · exact hn h
      · simp at h; subst h; simp at hb
  · rintro _ ⟨rfl, hn⟩
    have t1 : ilt ((l.length : Nat) : Int) ((l.length : Nat) : Int) = false := ilt_f (by omega)
    simp only [List.length_map, t1, oite_f]
    exact ⟨_, rfl, by rw [List.take_length] at hn; exact hn⟩
def nmN (N : List Nd) (i : Nat) : List ByteArray := (N.take i).map (·.1)
def nmC (C : List Cd) (i : Nat) : List ByteArray := (C.take i).map (·.1)
structure NOK (N : List Nd) (i : Nat) (x : Nd) : Prop where
 nm : nameB x.1 = true
 nw : x.1 ∉ nmN N i
 rg : if x.2.1 = true then (0 ≤ x.2.2.1 ∧ x.2.2.1 ≤ 1000000) ∧ x.2.2.2 = 0 else (-10000 ≤ x.2.2.2 ∧ x.2.2.2 ≤ 10000) ∧ x.2.2.1 = 0
structure COK (n : Nat) (C : List Cd) (i : Nat) (x : Cd) : Prop where
 nm : nameB x.1 = true
 nw : x.1 ∉ nmC C i
 fr : 0 ≤ x.2.1 ∧ x.2.1 < n
 to : 0 ≤ x.2.2.1 ∧ x.2.2.1 < n
 ne : x.2.1 ≠ x.2.2.1
 rs : 0 ≤ x.2.2.2.1 ∧ x.2.2.2.1 ≤ 1000
 vo : x.2.2.2.2.1 = true ∨ x.2.2.2.2.2 = true
structure Val (N : List Nd) (C : List Cd) : Prop where
 n0 : 0 < N.length
 n1 : N.length ≤ 10
 c0 : 0 < C.length
 c1 : C.length ≤ 14
 nd : ∀ i (h : i < N.length), NOK N i N[i]
 cd : ∀ i (h : i < C.length), COK N.length C i C[i]
theorem f497_k {a : ByteArray} {b : Bool} {c d : Int} {l : List ByteArray} (ha : a.size ≤ 1000) (hl : l.length ≤ 1000) : ∃ e, f497 a b c d l = some e ∧ (e = 0 → nameB a = true ∧ a ∉ l ∧ if b = true then (0 ≤ c ∧ c ≤ 1000000) ∧ d = 0 else (-10000 ≤ d ∧ d ≤ 10000) ∧ c = 0) := by
  unfold f497
  obtain ⟨k, h1, h2⟩ := f364_k (s := a) hl
  rw [f91_w (by omega), obnd_s]
  cases nameB a with
  | false => exact ⟨4, rfl, fun h => by cases h⟩
  | true =>
    simp only [k4, oite_f, h1, obnd_s]
    cases k with
    | true => exact ⟨5, rfl, fun h => by cases h⟩
    | false =>
      cases b with
      | true =>
        simp only [oite_f, oite_t, f15_e, obnd_s, ieq_eq]
        by_cases h3 : 0 ≤ c <;> by_cases h4 : c ≤ 1000000 <;> by_cases h5 : d = 0 <;> simp [h3, h4, h5, oite, h2]
      | false =>
        simp only [oite_f, f15_e, obnd_s, ieq_eq]
        by_cases h3 : -10000 ≤ d <;> by_cases h4 : d ≤ 10000 <;> by_cases h5 : c = 0 <;> simp [h3, h4, h5, oite, h2]
theorem f498_k {N : List Nd} {C : List Cd} {a : ByteArray} {f t r : Int} {v o : Bool} {l : List ByteArray} (ha : a.size ≤ 1000) (hl : l.length ≤ 1000) (hN : N.length ≤ 1000) :
    ∃ e, f498 N C a f t r v o l = some e ∧ (e = 0 → nameB a = true ∧ a ∉ l ∧ (0 ≤ f ∧ f < N.length) ∧ (0 ≤ t ∧ t < N.length) ∧ f ≠ t ∧ (0 ≤ r ∧ r ≤ 1000) ∧ (v = true ∨ o = true)) := by
  unfold f498
  obtain ⟨k, h1, h2⟩ := f364_k (s := a) hl
  rw [f91_w (by omega), obnd_s]
  cases nameB a with
  | false => exact ⟨4, rfl, fun h => by cases h⟩
  | true =>
    simp only [k4, oite_f, h1, obnd_s]
    cases k with
    | true => exact ⟨5, rfl, fun h => by cases h⟩
    | false =>
      have hw : IntKind.i64.wrap ((N.length : Int) - 1) = (N.length : Int) - 1 := wr (by omega) (by omega)
      simp only [oite_f, f15_e, obnd_s, ieq_eq, k0, hw]
      by_cases h3 : 0 ≤ f ∧ f ≤ (N.length : Int) - 1
      · by_cases h4 : 0 ≤ t ∧ t ≤ (N.length : Int) - 1
        · by_cases h5 : f = t
          · simp [h3, h4, h5, oite, obnd]
          · by_cases h6 : 0 ≤ r ∧ r ≤ 1000
            · cases v <;> cases o <;> simp [h3, h4, h5, h6, oite, obnd, h2] <;> omega
            · refine ⟨2, ?_, fun h => by cases h⟩
              have : (decide (0 ≤ r) && decide (r ≤ 1000)) = false := by rw [Bool.and_eq_false_iff]; simp only [decide_eq_false_iff_not]; omega
              simp [h3, h4, h5, this, oite, obnd]
        · refine ⟨6, ?_, fun h => by cases h⟩
          have : (decide (0 ≤ t) && decide (t ≤ (N.length : Int) - 1)) = false := by rw [Bool.and_eq_false_iff]; simp only [decide_eq_false_iff_not]; omega
          simp [h3, this, oite, obnd]
      · refine ⟨6, ?_, fun h => by cases h⟩
        have : (decide (0 ≤ f) && decide (f ≤ (N.length : Int) - 1)) = false := by rw [Bool.and_eq_false_iff]; simp only [decide_eq_false_iff_not]; omega
        simp [this, oite, obnd]
def rV (N : List Nd) : Unit ⊕ (Int × Int) → Prop
 | .inl _ => ∀ i (h : i < N.length), NOK N i N[i]
 | .inr x => x.2 ≠ 0
def rW (n : Nat) (C : List Cd) : Unit ⊕ (Int × Int) → Prop
 | .inl _ => ∀ i (h : i < C.length), COK n C i C[i]
 | .inr x => x.2 ≠ 0
theorem nmN_s {N : List Nd} {i : Nat} (h : i < N.length) : nmN N i ++ [N[i].1] = nmN N (i + 1) := by
 unfold nmN; rw [List.take_succ_eq_append_getElem h, List.map_append]; rfl
theorem nmC_s {C : List Cd} {i : Nat} (h : i < C.length) : nmC C i ++ [C[i].1] = nmC C (i + 1) := by
 unfold nmC; rw [List.take_succ_eq_append_getElem h, List.map_append]; rfl
theorem nmN_l {N : List Nd} {i : Nat} : (nmN N i).length ≤ i := by unfold nmN; simp; omega
theorem nmC_l {C : List Cd} {i : Nat} : (nmC C i).length ≤ i := by unfold nmC; simp; omega
theorem f485_k {N : List Nd} {C : List Cd} (hsN : ∀ x, x ∈ N → x.1.size ≤ 1000) (hsC : ∀ x, x ∈ C → x.1.size ≤ 1000) : ∃ x, f485 N C = some x ∧ (x.2 = 0 → Val N C) := by
 unfold f485
 simp only [k0, ieq_eq, ilt_eq, oite_ss, obnd_s]
 by_cases hz : N.length = 0 ∨ C.length = 0
 · refine ⟨(0, 10), ?_, fun h => by cases h⟩
   have : (bif decide ((N.length : Int) = 0) then true else decide ((C.length : Int) = 0)) = true := by
     rcases hz with h | h <;> simp [h]
   rw [this]; rfl
 have e1 : (bif decide ((N.length : Int) = 0) then true else decide ((C.length : Int) = 0)) = false := by
   rw [decide_eq_false (by omega), decide_eq_false (by omega)]; rfl
 rw [e1, oite_f]
 by_cases hb : 10 < N.length ∨ 14 < C.length
 · refine ⟨(0, 8), ?_, fun h => by cases h⟩
   have : (bif decide ((10 : Int) < N.length) then true else decide ((14 : Int) < C.length)) = true := by
     rcases hb with h | h
     · rw [decide_eq_true (by omega)]; rfl
     · rw [decide_eq_true (show (14 : Int) < C.length by omega)]; cases decide ((10 : Int) < N.length) <;> rfl
   rw [this]; rfl
 have e2 : (bif decide ((10 : Int) < N.length) then true else decide ((14 : Int) < C.length)) = false := by
   rw [decide_eq_false (by omega), decide_eq_false (by omega)]; rfl
 rw [e2, oite_f]
 refine obndS_ex (R := rV N) (oloop_ex (R := rV N) (fun i e => e = (nmN N i, (i : Int)) ∧ ∀ k (h : k < N.length), k < i → NOK N k N[k]) N.length ⟨by simp [nmN], fun k _ h => absurd h (Nat.not_lt_zero _)⟩ ?_ ?_) ?_ (fun x h => fun h0 => absurd h0 h)
 · rintro i _ hi ⟨rfl, hn⟩
   have t1 : decide ((i : Int) < ((N.length : Nat) : Int)) = true := decide_eq_true (by omega)
   have t2 : ile 0 (i : Int) = true := ile_t (by omega)
   have hl := nmN_l (N := N) (i := i)
   simp only [t1, t2, oite_t, ogrd_t, Int.toNat_natCast, get_i hi, obnd_s, w_succ (show i < 1000000 by omega)]
   obtain ⟨e, h1, h2⟩ := f497_k (a := N[i].1) (b := N[i].2.1) (c := N[i].2.2.1) (d := N[i].2.2.2) (l := nmN N i) (hsN _ (List.getElem_mem hi)) (by omega)
   rw [h1, obnd_s]
   by_cases h0 : e = 0
   · obtain ⟨h3, h4, h5⟩ := h2 h0
     rw [decide_eq_true h0, k4, oite_f, ogrd_fits (by simp; omega) (by simp; omega)]
     refine .inl ⟨_, rfl, by rw [nmN_s hi], fun k h hk => ?_⟩
     rcases Nat.lt_or_ge k i with h6 | h6
     · exact hn k h h6
     · obtain rfl : k = i := by omega
       exact ⟨h3, h4, h5⟩
   · rw [decide_eq_false h0, k5, oite_t]
     exact .inr ⟨_, rfl, h0⟩
 · rintro _ ⟨rfl, hn⟩
   have t1 : decide (((N.length : Nat) : Int) < ((N.length : Nat) : Int)) = false := decide_eq_false (by omega)
   simp only [t1, oite_f]
   exact ⟨_, rfl, fun i h => hn i h h⟩
 · intro _ hV
   refine obndS_ex (R := rW N.length C) (oloop_ex (R := rW N.length C) (fun i e => e = (nmC C i, (i : Int)) ∧ ∀ k (h : k < C.length), k < i → COK N.length C k C[k]) C.length ⟨by simp [nmC], fun k _ h => absurd h (Nat.not_lt_zero _)⟩ ?_ ?_) ?_ (fun x h => fun h0 => absurd h0 h)
   · rintro i _ hi ⟨rfl, hn⟩
     have t1 : decide ((i : Int) < ((C.length : Nat) : Int)) = true := decide_eq_true (by omega)
     have t2 : ile 0 (i : Int) = true := ile_t (by omega)
     have hl := nmC_l (C := C) (i := i)
     simp only [t1, t2, oite_t, ogrd_t, Int.toNat_natCast, get_i hi, obnd_s, w_succ (show i < 1000000 by omega)]
     obtain ⟨e, h1, h2⟩ := f498_k (N := N) (C := C) (a := C[i].1) (f := C[i].2.1) (t := C[i].2.2.1) (r := C[i].2.2.2.1) (v := C[i].2.2.2.2.1) (o := C[i].2.2.2.2.2) (l := nmC C i) (hsC _ (List.getElem_mem hi)) (by omega) (by omega)
     rw [h1, obnd_s]
     by_cases h0 : e = 0
     · obtain ⟨h3, h4, h5, h6, h7, h8, h9⟩ := h2 h0
       rw [decide_eq_true h0, k4, oite_f, ogrd_fits (by simp; omega) (by simp; omega)]
       refine .inl ⟨_, rfl, by rw [nmC_s hi], fun k h hk => ?_⟩
       rcases Nat.lt_or_ge k i with hk6 | hk6
       · exact hn k h hk6
       · obtain rfl : k = i := by omega
         exact ⟨h3, h4, h5, h6, h7, h8, h9⟩
     · rw [decide_eq_false h0, k5, oite_t]
       exact .inr ⟨_, rfl, h0⟩
   · rintro _ ⟨rfl, hn⟩
     have t1 : decide (((C.length : Nat) : Int) < ((C.length : Nat) : Int)) = false := decide_eq_false (by omega)
     simp only [t1, oite_f]
     exact ⟨_, rfl, fun i h => hn i h h⟩
   · exact fun _ hW => ⟨_, rfl, fun _ => ⟨by omega, by omega, by omega, by omega, hV, hW⟩⟩
theorem hasK_f {ks : List ByteArray} {k : ByteArray} (h : k ∉ ks) : hasK ks k = false := by
 cases hb : hasK ks k with
 | false => rfl
 | true => exact absurd (hasK_iff.1 hb) h
theorem in2 {lo n hi : Int} (h : lo ≤ n ∧ n ≤ hi) : (decide (lo ≤ n) && decide (n ≤ hi)) = true := by simp [h.1, h.2]
theorem f505_e {N : List Nd} {C : List Cd} (hV : Val N C) : f505 N C = some (0, 0) := by
  have := hV.n0; have := hV.n1; have := hV.c0; have := hV.c1
  unfold f505
  simp only [k0, ile_eq, ilt_eq, oite_ss, obnd_s]
  have e1 : (bif decide ((0 : Int) < N.length) then decide ((0 : Int) < C.length) else false) = true := by rw [decide_eq_true (by omega), decide_eq_true (by omega)]; rfl
  have e2 : (bif decide ((N.length : Int) ≤ 10) then decide ((C.length : Int) ≤ 14) else false) = true := by rw [decide_eq_true (by omega), decide_eq_true (by omega)]; rfl
  rw [e1, e2]
  simp only [f492_e, if_true, obnd_s]
  rw [f491_0 (by simp) (by simp), obnd_s]
  rw [show (!ieq 0 0) = false from rfl, oite_f]
  rw [oloop_all (fun i => ((i : Int), nmN N i)) N.length (r := (.inl (nmN N N.length) : List ByteArray ⊕ (Int × Int))) (e0 := ((0 : Int), [])) (by simp [nmN]) ?_ ?_, obndS_l]
  · rw [oloop_all (fun i => ((i : Int), nmC C i)) C.length (r := (.inl (nmC C C.length) : List ByteArray ⊕ (Int × Int))) (e0 := ((0 : Int), [])) (by simp [nmC]) ?_ ?_, obndS_l]
    · intro i hi
      have h := hV.cd i hi
      have t1 : decide ((i : Int) < ((C.length : Nat) : Int)) = true := decide_eq_true (by omega)
      have t2 : decide ((0 : Int) ≤ (i : Int)) = true := decide_eq_true (by omega)
      have hw : IntKind.i64.wrap ((N.length : Int) - 1) = (N.length : Int) - 1 := wr (by omega) (by omega)
      have hs := nameB_12 h.nm
      simp only [t1, t2, oite_t, ogrd_t, Int.toNat_natCast, get_i hi, obnd_s, w_succ (show i < 1000000 by omega), f516_w (show C[i].1.size ≤ 9223372036854775807 by omega), h.nm, f492_e, if_true, kd_kc, hasK_f h.nw, k5, f517, f493_e, k0, hw, in2 (show (0 : Int) ≤ C[i].2.1 ∧ C[i].2.1 ≤ (N.length : Int) - 1 from ⟨h.fr.1, by have := h.fr.2; omega⟩), in2 (show (0 : Int) ≤ C[i].2.2.1 ∧ C[i].2.2.1 ≤ (N.length : Int) - 1 from ⟨h.to.1, by have := h.to.2; omega⟩), ieq_eq, decide_eq_false h.ne, in2 h.rs]
      have hm : mset (nmC C i) C[i].1 = nmC C (i + 1) := by unfold mset; rw [hasK_f h.nw, cond_false, nmC_s hi]
      rcases h.vo with hv | hv
      · rw [hv]; simp only [oite_t, f491_0 (l := [0, 0, 0, 0, 0, 0]) (by simp) (by simp), obnd_s]; rw [hm]; rfl
      · rw [hv]; cases C[i].2.2.2.2.1 <;> (simp only [oite_t, oite_f, if_true, f491_0 (l := [0, 0, 0, 0, 0, 0]) (by simp) (by simp), obnd_s]; rw [hm]; rfl)
    · have t1 : decide (((C.length : Nat) : Int) < ((C.length : Nat) : Int)) = false := decide_eq_false (by omega)
      simp only [t1, oite_f]
  · intro i hi
    have h := hV.nd i hi
    have t1 : decide ((i : Int) < ((N.length : Nat) : Int)) = true := decide_eq_true (by omega)
    have t2 : decide ((0 : Int) ≤ (i : Int)) = true := decide_eq_true (by omega)
    have hs := nameB_12 h.nm
    have hm : mset (nmN N i) N[i].1 = nmN N (i + 1) := by unfold mset; rw [hasK_f h.nw, cond_false, nmN_s hi]
    have hr := h.rg
    simp only [t1, t2, oite_t, ogrd_t, Int.toNat_natCast, get_i hi, obnd_s, w_succ (show i < 1000000 by omega), f516_w (show N[i].1.size ≤ 9223372036854775807 by omega), h.nm, f492_e, if_true, kd_kc, hasK_f h.nw, k5, f515, f493_e, wr (show (-9223372036854775808 : Int) ≤ 0 - 10000 by omega) (by omega), ieq_eq]
    cases hb : N[i].2.1 with
    | true =>
      rw [hb, if_pos rfl] at hr
      simp only [oite_t, obnd_s, in2 hr.1, hr.2, decide_true, if_true]
      rw [f491_0 (by simp) (by simp), obnd_s, hm]; rfl
    | false =>
      rw [hb, if_neg (by simp)] at hr
      simp only [oite_f, obnd_s, show ((0 : Int) - 10000) = -10000 from rfl, in2 hr.1, hr.2, decide_true, if_true]
      rw [f491_0 (by simp) (by simp), obnd_s, hm]; rfl
  · have t1 : decide (((N.length : Nat) : Int) < ((N.length : Nat) : Int)) = false := decide_eq_false (by omega)
    simp only [t1, oite_f]
theorem f488_e {N : List Nd} {C : List Cd} (hV : Val N C) : f488 N C = some (N, C, 0) := by unfold f488; rw [f505_e hV]; rfl
end
section
set_option linter.unusedSimpArgs false
set_option linter.unusedVariables false
open Go Go.RowKit
def gC (C : List Cd) (j : Nat) : Cd := C.getD j (⟨#[]⟩, 0, 0, 0, false, false)
theorem gC_i {C : List Cd} {j : Nat} (h : j < C.length) : gC C j = C[j] := getD_i h
def opC (C : List Cd) (j : Nat) : Bool := (gC C j).2.2.2.2.2
def vlC (C : List Cd) (j : Nat) : Bool := (gC C j).2.2.2.2.1
def frC (C : List Cd) (j : Nat) : Nat := (gC C j).2.1.toNat
def toC (C : List Cd) (j : Nat) : Nat := (gC C j).2.2.1.toNat
def upx (C : List Cd) (o : Nat → Bool) (j : Nat) : Cd := ((gC C j).1, (gC C j).2.1, (gC C j).2.2.1, (gC C j).2.2.2.1, (gC C j).2.2.2.2.1, o j)
def up (C : List Cd) (o : Nat → Bool) : List Cd := tab C.length (upx C o)
theorem up_len {C : List Cd} {o : Nat → Bool} : (up C o).length = C.length := tab_len
theorem up_get {C : List Cd} {o : Nat → Bool} {j : Nat} (h : j < C.length) : (up C o)[j]? = some (upx C o j) := tab_get h
theorem up_self (C : List Cd) : up C (opC C) = C := by
 unfold up
 exact (tab_of (l := C) (d := (⟨#[]⟩, 0, 0, 0, false, false))).symm
theorem up_set {C : List Cd} {o : Nat → Bool} {k : Nat} {b : Bool} : (up C o).set k ((gC C k).1, (gC C k).2.1, (gC C k).2.2.1, (gC C k).2.2.2.1, (gC C k).2.2.2.2.1, b) = up C (fun j => if j = k then b else o j) := by
 unfold up
 rw [tab_set]
 refine tab_congr fun i _ => ?_
 by_cases h : i = k
 · subst h; simp [upx]
 · simp [upx, h]
def Keep (C : List Cd) (o : Nat → Bool) : Prop := ∀ j, j < C.length → vlC C j = false → o j = true
theorem up_val {N : List Nd} {C : List Cd} {o : Nat → Bool} (hV : Val N C) (hK : Keep C o) : Val N (up C o) := by
 have hn : ∀ i, nmC (up C o) i = nmC C i := by
  intro i
  unfold nmC
  refine List.ext_getElem (by simp [up_len]) fun k h1 h2 => ?_
  have hk : k < C.length := by
   have : k < ((C.take i).map (·.1)).length := h2
   simp at this; omega
  have h3 := up_get (o := o) hk
  simp only [List.getElem_map, List.getElem_take]
  rw [List.getElem?_eq_getElem (by rw [up_len]; exact hk)] at h3
  injection h3 with h3
  rw [h3]; simp [upx, gC_i hk]
 refine ⟨hV.n0, hV.n1, by rw [up_len]; exact hV.c0, by rw [up_len]; exact hV.c1, hV.nd, fun i h => ?_⟩
 rw [up_len] at h
 have h3 := up_get (o := o) h
 rw [List.getElem?_eq_getElem (by rw [up_len]; exact h)] at h3
 injection h3 with h3
 rw [h3]
 have hc := hV.cd i h
 have hg := gC_i h
 refine ⟨by simp only [upx, hg]; exact hc.nm, by rw [hn]; simp only [upx, hg]; exact hc.nw, by simp only [upx, hg]; exact hc.fr, by simp only [upx, hg]; exact hc.to, by simp only [upx, hg]; exact hc.ne, by simp only [upx, hg]; exact hc.rs, ?_⟩
 cases hv : vlC C i with
 | true => left; exact hv
 | false => right; exact hK i h hv
theorem fr_lt {N : List Nd} {C : List Cd} (hV : Val N C) {j : Nat} (h : j < C.length) : frC C j < N.length ∧ (gC C j).2.1 = (frC C j : Int) := by
 have := (hV.cd j h).fr
 unfold frC; rw [gC_i h]; omega
theorem to_lt {N : List Nd} {C : List Cd} (hV : Val N C) {j : Nat} (h : j < C.length) : toC C j < N.length ∧ (gC C j).2.2.1 = (toC C j : Int) := by
 have := (hV.cd j h).to
 unfold toC; rw [gC_i h]; omega
inductive Rc (C : List Cd) (E : Nat → Bool) (S : Nat → Prop) : Nat → Prop
 | base {k : Nat} (h : S k) : Rc C E S k
 | fwd {j : Nat} (hj : j < C.length) (he : E j = true) (h : Rc C E S (frC C j)) : Rc C E S (toC C j)
 | bwd {j : Nat} (hj : j < C.length) (he : E j = true) (h : Rc C E S (toC C j)) : Rc C E S (frC C j)
theorem Rc.mono {C : List Cd} {E E' : Nat → Bool} {S S' : Nat → Prop} (hE : ∀ j, j < C.length → E j = true → E' j = true) (hS : ∀ k, S k → S' k) {k : Nat} (h : Rc C E S k) : Rc C E' S' k := by
 induction h with
 | base h => exact .base (hS _ h)
 | fwd hj he _ ih => exact .fwd hj (hE _ hj he) ih
 | bwd hj he _ ih => exact .bwd hj (hE _ hj he) ih
theorem Rc.one {C : List Cd} {E : Nat → Bool} {S : Nat → Prop} {k : Nat} (h : Rc C E S k) : ∃ i, S i ∧ Rc C E (fun q => q = i) k := by
 induction h with
 | base h => exact ⟨_, h, .base rfl⟩
 | fwd hj he _ ih => obtain ⟨i, h1, h2⟩ := ih; exact ⟨i, h1, .fwd hj he h2⟩
 | bwd hj he _ ih => obtain ⟨i, h1, h2⟩ := ih; exact ⟨i, h1, .bwd hj he h2⟩
def cnt : List Bool → Nat
 | [] => 0
 | b :: r => (if b = true then 1 else 0) + cnt r
theorem cnt_le : ∀ l : List Bool, cnt l ≤ l.length
 | [] => Nat.le_refl _
 | b :: r => by have := cnt_le r; simp only [cnt, List.length_cons]; split <;> omega
theorem cnt_set : ∀ {l : List Bool} {i : Nat}, l[i]? = some false → cnt (l.set i true) = cnt l + 1
  | [], i, h => by simp at h
  | b :: r, 0, h => by simp at h; subst h; simp [cnt]; omega
  | b :: r, i + 1, h => by
    simp only [List.set_cons_succ, cnt]
    rw [cnt_set (l := r) (i := i) (by simpa using h)]; omega
theorem set_same {l : List Bool} {i : Nat} (h : l[i]? = some true) : l.set i true = l := by
 obtain ⟨hi, he⟩ := List.getElem?_eq_some_iff.1 h
 refine List.ext_getElem (by simp) fun k h1 h2 => ?_
 rw [List.getElem_set]
 split
 · rename_i e; subst e; exact he.symm
 · rfl
theorem set_iff {l : List Bool} {i k : Nat} (hi : i < l.length) : ((l.set i true)[k]? = some true ↔ k = i ∨ l[k]? = some true) := by
 rw [List.getElem?_set]
 by_cases h : i = k
 · subst h; simp [hi]
 · rw [if_neg h]; exact ⟨.inr, fun h2 => h2.resolve_left fun e => h e.symm⟩
theorem get_b {l : List Bool} {i : Nat} (h : i < l.length) : ∃ b, l[i]? = some b := ⟨_, List.getElem?_eq_getElem h⟩
theorem mfits_t {b : Nat} {l c : Int} (h0 : 0 ≤ l) (h1 : l ≤ c) (h2 : c * b ≤ 1099511627776) (h3 : c ≤ 1099511627776) : mfits b l c = true := by
 unfold mfits
 rw [ile_eq, ile_eq, ile_eq, ile_eq, decide_eq_true h0, decide_eq_true h1, decide_eq_true h2, decide_eq_true h3]; rfl
structure RI (n : Nat) (C : List Cd) (E : Nat → Bool) (S : Nat → Prop) (L : List Bool) : Prop where
 len : L.length = n
 snd : ∀ k, L[k]? = some true → Rc C E S k
 bas : ∀ k, k < n → S k → L[k]? = some true
def Cld (C : List Cd) (E : Nat → Bool) (L : List Bool) (m : Nat) : Prop := ∀ j, j < C.length → j < m → E j = true → (L[frC C j]? = some true ↔ L[toC C j]? = some true)
theorem f506_k {p : Int → Option Bool} {N : List Nd} {C : List Cd} {o E : Nat → Bool} {F : List Int} (hV : Val N C) (hp : ∀ j, j < C.length → p (j : Int) = some (E j)) (hF : ∀ x, x ∈ F → 0 ≤ x ∧ x < N.length) (hl : F.length ≤ 1000) :
    ∃ R, f506 p N (up C o) F = some R ∧ R.length = N.length ∧ ∀ k, k < N.length → (R[k]? = some true ↔ Rc C E (fun k => (k : Int) ∈ F) k) := by
  have hn1 := hV.n1
  have hc1 := hV.c1
  unfold f506
  simp only [k0, up_len, Int.toNat_natCast]
  have hm : mfits 1 (N.length : Int) (N.length : Int) = true := mfits_t (by omega) (by omega) (by omega) (by omega)
  rw [hm, ogrd_t]
  refine obnd_ex (R := fun L : List Bool => RI N.length C E (fun k => (k : Int) ∈ F) L) (oloop_ex (R := fun L : List Bool => RI N.length C E (fun k => (k : Int) ∈ F) L) (fun i e => e.1 = (i : Int) ∧ RI N.length C E (fun k => (k : Int) ∈ F.take i) e.2) F.length ⟨rfl, by simp, fun k h => (by rw [List.getElem?_replicate] at h; split at h <;> cases h), fun k _ h => by simp at h⟩ ?_ ?_) ?_
  · rintro i ⟨_, L⟩ hi ⟨rfl, hL⟩
    have t1 : ilt (i : Int) ((F.length : Nat) : Int) = true := ilt_t (by omega)
    have t2 : ile 0 (i : Int) = true := ile_t (by omega)
    have hx := hF _ (List.getElem_mem hi)
    obtain ⟨x, hx2⟩ : ∃ x : Nat, F[i] = (x : Int) := ⟨F[i].toNat, by omega⟩
    have hxn : x < N.length := by omega
    simp only [t1, t2, oite_t, ogrd_t, Int.toNat_natCast, get_i hi, obnd_s, w_succ (show i < 1000000 by omega), hx2, ile_t (show (0 : Int) ≤ (x : Int) by omega), ilt_t (show (x : Int) < (N.length : Int) by omega), hL.len, Nat.blt_eq.mpr hxn]
    have hmem : ∀ k : Nat, (k : Int) ∈ F.take (i + 1) ↔ k = x ∨ (k : Int) ∈ F.take i := fun k => by
      rw [List.take_succ_eq_append_getElem hi, List.mem_append, List.mem_singleton, hx2]
      constructor
      · rintro (h | h)
        · exact .inr h
        · exact .inl (by omega)
      · rintro (h | h)
        · exact .inr (by omega)
        · exact .inl h
    refine .inl ⟨_, rfl, rfl, by simp [hL.len], fun k h => ?_, fun k hk h => ?_⟩
    · rcases (set_iff (by rw [hL.len]; exact hxn)).1 h with rfl | h
      · exact .base ((hmem _).2 (.inl rfl))
      · exact (hL.snd k h).mono (fun _ _ h => h) fun q hq => (hmem q).2 (.inr hq)
    · rcases (hmem k).1 h with rfl | h
      · exact (set_iff (by rw [hL.len]; exact hxn)).2 (.inl rfl)
      · exact (set_iff (by rw [hL.len]; exact hxn)).2 (.inr (hL.bas k hk h))
  · rintro ⟨_, L⟩ ⟨rfl, hL⟩
    have t1 : ilt ((F.length : Nat) : Int) ((F.length : Nat) : Int) = false := ilt_f (by omega)
    simp only [t1, oite_f]
    rw [List.take_length] at hL
    exact ⟨_, rfl, hL⟩
  intro L0 hL0
  refine obnd_ex (R := fun L : List Bool => RI N.length C E (fun k => (k : Int) ∈ F) L ∧ Cld C E L C.length) (oloop_ex (R := fun L : List Bool => RI N.length C E (fun k => (k : Int) ∈ F) L ∧ Cld C E L C.length)
    (fun r e => RI N.length C E (fun k => (k : Int) ∈ F) e.2 ∧ (e.1 = true → r ≤ cnt e.2) ∧ (e.1 = false → Cld C E e.2 C.length)) (N.length + 1) ⟨hL0, fun _ => Nat.zero_le _, fun h => (by cases h)⟩ ?_ ?_) ?_
  · rintro r ⟨ch, L⟩ hr ⟨hL, hc, hcl⟩
    cases ch with
    | false => exact .inr ⟨L, rfl, hL, hcl rfl⟩
    | true =>
      left
      have hc := hc rfl
      simp only [oite_t]
      refine inl_ex (oloop_ex (R := fun y : (Bool × List Bool) ⊕ List Bool => ∃ e : Bool × List Bool, y = .inl e ∧ RI N.length C E (fun k => (k : Int) ∈ F) e.2 ∧ (e.1 = true → r + 1 ≤ cnt e.2) ∧ (e.1 = false → Cld C E e.2 C.length))
        (fun i (e : Bool × Int × List Bool) => e.2.1 = (i : Int) ∧ RI N.length C E (fun k => (k : Int) ∈ F) e.2.2 ∧ (e.1 = true → r + 1 ≤ cnt e.2.2) ∧ (e.1 = false → r ≤ cnt e.2.2 ∧ Cld C E e.2.2 i)) C.length ⟨rfl, hL, fun h => (by cases h), fun _ => ⟨hc, fun j _ h => absurd h (Nat.not_lt_zero _)⟩⟩ ?_ ?_)
      · rintro i ⟨c2, _, L2⟩ hi ⟨rfl, hL2, hc2, hn2⟩
        have t1 : ilt (i : Int) ((C.length : Nat) : Int) = true := ilt_t (by omega)
        have t2 : ile 0 (i : Int) = true := ile_t (by omega)
        obtain ⟨hf1, hf2⟩ := fr_lt hV hi
        obtain ⟨ht1, ht2⟩ := to_lt hV hi
        left
        simp only [t1, t2, oite_t, ogrd_t, Int.toNat_natCast, up_get hi, obnd_s, w_succ (show i < 1000000 by omega), hp i hi, upx, hf2, ht2, ile_t (show (0 : Int) ≤ (frC C i : Int) by omega), ile_t (show (0 : Int) ≤ (toC C i : Int) by omega), ilt_t (show (frC C i : Int) < (N.length : Int) by omega), ilt_t (show (toC C i : Int) < (N.length : Int) by omega)]
        obtain ⟨bf, hbf⟩ := get_b (l := L2) (i := frC C i) (by rw [hL2.len]; exact hf1)
        obtain ⟨bt, hbt⟩ := get_b (l := L2) (i := toC C i) (by rw [hL2.len]; exact ht1)
        cases hE : E i with
        | false =>
          simp only [oite_f, obnd_s]
          refine ⟨_, rfl, rfl, hL2, hc2, fun h => ⟨(hn2 h).1, fun j hj hji he => ?_⟩⟩
          rcases Nat.lt_or_ge j i with h5 | h5
          · exact (hn2 h).2 j hj h5 he
          · obtain rfl : j = i := by omega
            rw [hE] at he; cases he
        | true =>
          simp only [oite_t, hbf, hbt, obnd_s]
          by_cases hb : bf = bt
          · subst hb
            rw [show (!(bf == bf)) = false by cases bf <;> rfl, oite_f]
            refine ⟨_, rfl, rfl, hL2, hc2, fun h => ⟨(hn2 h).1, fun j hj hji he => ?_⟩⟩
            rcases Nat.lt_or_ge j i with h5 | h5
            · exact (hn2 h).2 j hj h5 he
            · obtain rfl : j = i := by omega
              rw [hbf, hbt]
          · rw [show (!(bf == bt)) = true by cases bf <;> cases bt <;> first | rfl | exact absurd rfl hb, oite_t]
            have hlf : frC C i < L2.length := by rw [hL2.len]; exact hf1
            have hlt : toC C i < (L2.set (frC C i) true).length := by simp [hL2.len]; exact ht1
            rw [Nat.blt_eq.mpr hlf, Nat.blt_eq.mpr hlt]
            simp only [ogrd_t]
            have hlow : r ≤ cnt L2 := by
              cases c2 with
              | true => exact Nat.le_of_succ_le (hc2 rfl)
              | false => exact (hn2 rfl).1
            have hone : cnt ((L2.set (frC C i) true).set (toC C i) true) = cnt L2 + 1 := by
              cases bf with
              | true =>
                rw [set_same hbf]
                have : bt = false := by cases bt <;> first | rfl | exact absurd rfl hb
                exact cnt_set (by rw [hbt, this])
              | false =>
                have hbt' : bt = true := by cases bt <;> first | rfl | exact absurd rfl hb
                rw [set_same (l := L2.set (frC C i) true) ((set_iff hlf).2 (.inr (by rw [hbt, hbt'])))]
                exact cnt_set hbf
            refine ⟨_, rfl, rfl, ⟨by simp [hL2.len], fun k h => ?_, fun k hk h => ?_⟩, fun _ => by simp only; omega, fun h => by cases h⟩
            · have hboth : Rc C E (fun k => (k : Int) ∈ F) (frC C i) ∧ Rc C E (fun k => (k : Int) ∈ F) (toC C i) := by
                cases bf with
                | true => exact ⟨hL2.snd _ hbf, .fwd hi hE (hL2.snd _ hbf)⟩
                | false =>
                  have hbt' : bt = true := by cases bt <;> first | rfl | exact absurd rfl hb
                  have := hL2.snd _ (hbt.trans (by rw [hbt']))
                  exact ⟨.bwd hi hE this, this⟩
              rcases (set_iff hlt).1 h with rfl | h
              · exact hboth.2
              · rcases (set_iff hlf).1 h with rfl | h
                · exact hboth.1
                · exact hL2.snd k h
            · exact (set_iff hlt).2 (.inr ((set_iff hlf).2 (.inr (hL2.bas k hk h))))
      · rintro ⟨c2, _, L2⟩ ⟨rfl, hL2, hc2, hn2⟩
        have t1 : ilt ((C.length : Nat) : Int) ((C.length : Nat) : Int) = false := ilt_f (by omega)
        simp only [t1, oite_f]
        exact ⟨_, rfl, _, rfl, hL2, hc2, fun h => (hn2 h).2⟩
  · rintro ⟨ch, L⟩ ⟨hL, hc, hcl⟩
    cases ch with
    | false => exact ⟨L, rfl, hL, hcl rfl⟩
    | true =>
      have h1 := hc rfl
      have h2 := cnt_le L
      have h3 := hL.len
      simp only at h1 h3
      omega
  · rintro L ⟨hL, hcl⟩
    refine ⟨L, by rw [hL.len, Nat.beq_refl, ogrd_t], hL.len, fun k hk => ⟨hL.snd k, fun h => ?_⟩⟩
    clear hk
    induction h with
    | base h =>
      have := hF _ h
      exact hL.bas _ (by omega) h
    | fwd hj he _ ih => exact (hcl _ hj hj he).1 ih
    | bwd hj he _ ih => exact (hcl _ hj hj he).2 ih
end
section
set_option linter.unusedSimpArgs false
set_option linter.unusedVariables false
open Go Go.RowKit
def lkN (N : List Nd) (k : Nat) : Prop := k < N.length ∧ (N.getD k (⟨#[]⟩, false, 0, 0)).2.1 = true
theorem f507_k {N : List Nd} {C : List Cd} (hn : N.length ≤ 1000) : ∃ l, f507 N C = some l ∧ l.length ≤ N.length ∧ ∀ x : Int, x ∈ l ↔ ∃ k : Nat, x = k ∧ lkN N k := by
  unfold f507
  simp only [k0]
  refine obnd_ex (R := fun l : List Int => l.length ≤ N.length ∧ ∀ x : Int, x ∈ l ↔ ∃ k : Nat, x = k ∧ lkN N k) (oloop_ex (R := fun l : List Int => l.length ≤ N.length ∧ ∀ x : Int, x ∈ l ↔ ∃ k : Nat, x = k ∧ lkN N k)
    (fun i (e : List Int × Int) => e.2 = (i : Int) ∧ e.1.length ≤ i ∧ ∀ x : Int, x ∈ e.1 ↔ ∃ k : Nat, k < i ∧ x = k ∧ lkN N k) N.length ⟨rfl, Nat.le_refl _, fun x => ⟨fun h => (by cases h), fun ⟨k, h, _⟩ => absurd h (Nat.not_lt_zero _)⟩⟩ ?_ ?_) (fun l hl => ⟨l, rfl, hl⟩)
  · rintro i ⟨L, _⟩ hi ⟨rfl, h1, h2⟩
    simp only at h1 h2
    have t1 : ilt (i : Int) ((N.length : Nat) : Int) = true := ilt_t (by omega)
    have t2 : ile 0 (i : Int) = true := ile_t (by omega)
    simp only [t1, t2, oite_t, ogrd_t, Int.toNat_natCast, get_i hi, obnd_s, w_succ (show i < 1000000 by omega)]
    have hg : N.getD i (⟨#[]⟩, false, 0, 0) = N[i] := getD_i hi
    left
    cases hb : N[i].2.1 with
    | false =>
      rw [oite_f]
      refine ⟨_, rfl, rfl, by simp only; omega, fun x => ?_⟩
      rw [h2]
      constructor
      · rintro ⟨k, h3, h4⟩; exact ⟨k, by omega, h4⟩
      · rintro ⟨k, h3, h4, h5⟩
        refine ⟨k, ?_, h4, h5⟩
        rcases Nat.lt_or_ge k i with h6 | h6
        · exact h6
        · obtain rfl : k = i := by omega
          rw [lkN, hg, hb] at h5; cases h5.2
    | true =>
      rw [oite_t, ogrd_fits (by simp; omega) (by simp; omega)]
      refine ⟨_, rfl, rfl, by simp; omega, fun x => ?_⟩
      rw [List.mem_append, h2, List.mem_singleton]
      constructor
      · rintro (⟨k, h3, h4⟩ | rfl)
        · exact ⟨k, by omega, h4⟩
        · exact ⟨i, by omega, rfl, hi, by rw [hg, hb]⟩
      · rintro ⟨k, h3, h4, h5⟩
        rcases Nat.lt_or_ge k i with h6 | h6
        · exact .inl ⟨k, h6, h4, h5⟩
        · obtain rfl : k = i := by omega
          exact .inr h4
  · rintro ⟨L, _⟩ ⟨rfl, h1, h2⟩
    have t1 : ilt ((N.length : Nat) : Int) ((N.length : Nat) : Int) = false := ilt_f (by omega)
    simp only [t1, oite_f]
    refine ⟨_, rfl, h1, fun x => ?_⟩
    rw [h2]
    exact ⟨fun ⟨k, _, h⟩ => ⟨k, h⟩, fun ⟨k, h⟩ => ⟨k, h.2.1, h⟩⟩
def Wt (N : List Nd) (C : List Cd) (o : Nat → Bool) (j : Nat) : Prop := Rc C o (lkN N) (toC C j) ∨ (o j = true ∧ Rc C o (lkN N) (frC C j))
theorem Wt.mono {N : List Nd} {C : List Cd} {o o' : Nat → Bool} {j : Nat} (hj : j < C.length) (h : ∀ i, i < C.length → o i = true → o' i = true) (hw : Wt N C o j) : Wt N C o' j :=
 hw.imp (fun h1 => h1.mono h fun _ h => h) fun h1 => ⟨h j hj h1.1, h1.2.mono h fun _ h => h⟩
theorem f503_e {N : List Nd} {C : List Cd} {o : Nat → Bool} {j : Nat} (h : j < C.length) : f503 N (up C o) (j : Int) = some (o j) := by
 unfold f503
 rw [ile_t (by omega), ogrd_t, Int.toNat_natCast, up_get h, obnd_s]; rfl
theorem app_get {l : List Bool} {b : Bool} {i : Nat} (h : l.length = i) (k : Nat) : ((l ++ [b])[k]? = some true ↔ (k < i ∧ l[k]? = some true) ∨ (k = i ∧ b = true)) := by
 subst h
 rcases Nat.lt_trichotomy k l.length with h | h | h
 · rw [List.getElem?_append_left h]
   exact ⟨fun h2 => .inl ⟨h, h2⟩, fun h2 => h2.elim (·.2) fun h3 => by omega⟩
 · subst h; simp
 · rw [List.getElem?_eq_none (by simp; omega)]
   exact ⟨fun h => (by cases h), fun h2 => by omega⟩
theorem f490_k {N : List Nd} {C : List Cd} {o : Nat → Bool} (hV : Val N C) : ∃ W, f490 N (up C o) = some W ∧ W.length = C.length ∧ ∀ j, j < C.length → (W[j]? = some true ↔ Wt N C o j) := by
 have hn1 := hV.n1
 have hc1 := hV.c1
 unfold f490
 obtain ⟨l, h1, h2, h3⟩ := f507_k (N := N) (C := up C o) (by omega)
 rw [h1, obnd_s]
 obtain ⟨R, h4, h5, h6⟩ := f506_k (p := fun z0 => f503 N (up C o) z0) (o := o) (E := o) (F := l) hV (fun j hj => f503_e hj) (fun x hx => by
   obtain ⟨k, rfl, hk⟩ := (h3 x).1 hx
   have := hk.1; omega) (by omega)
 rw [h4, obnd_s]
 have hS : ∀ k, Rc C o (fun k => (k : Int) ∈ l) k ↔ Rc C o (lkN N) k := fun k => ⟨fun h => h.mono (fun _ _ h => h) fun q hq => by
   obtain ⟨k, h7, h8⟩ := (h3 _).1 hq
   rwa [show q = k by omega], fun h => h.mono (fun _ _ h => h) fun q hq => (h3 _).2 ⟨q, rfl, hq⟩⟩
 refine obnd_ex (R := fun W : List Bool => W.length = C.length ∧ ∀ j, j < C.length → (W[j]? = some true ↔ Wt N C o j)) (oloop_ex (R := fun W : List Bool => W.length = C.length ∧ ∀ j, j < C.length → (W[j]? = some true ↔ Wt N C o j))
   (fun i (e : List Bool × Int) => e.2 = (i : Int) ∧ e.1.length = i ∧ ∀ j, j < i → (e.1[j]? = some true ↔ Wt N C o j)) C.length ⟨rfl, rfl, fun j h => absurd h (Nat.not_lt_zero _)⟩ ?_ ?_) (fun W hW => ⟨W, rfl, hW⟩)
 · rintro i ⟨W, _⟩ hi ⟨rfl, hl, hw⟩
   simp only at hl hw
   have t1 : ilt (i : Int) ((C.length : Nat) : Int) = true := ilt_t (by omega)
   have t2 : ile 0 (i : Int) = true := ile_t (by omega)
   obtain ⟨hf1, hf2⟩ := fr_lt hV hi
   obtain ⟨ht1, ht2⟩ := to_lt hV hi
   obtain ⟨bf, hbf⟩ := get_b (l := R) (i := frC C i) (by rw [h5]; exact hf1)
   obtain ⟨bt, hbt⟩ := get_b (l := R) (i := toC C i) (by rw [h5]; exact ht1)
   have ef : bf = true ↔ Rc C o (lkN N) (frC C i) := by rw [← hS, ← h6 _ hf1, hbf]; simp
   have et : bt = true ↔ Rc C o (lkN N) (toC C i) := by rw [← hS, ← h6 _ ht1, hbt]; simp
   left
   simp only [k0, up_len, t1, t2, oite_t, ogrd_t, Int.toNat_natCast, up_get hi, obnd_s, w_succ (show i < 1000000 by omega), upx, hf2, ht2, ile_t (show (0 : Int) ≤ (frC C i : Int) by omega), ile_t (show (0 : Int) ≤ (toC C i : Int) by omega), hbt, hbf]
   have hr : ∃ b, (oite bt (some true) (oite (o i) (some bf) (some false))) = some b ∧ (b = true ↔ Wt N C o i) := by
     unfold Wt
     rw [← ef, ← et]
     cases bt <;> cases o i <;> cases bf <;> exact ⟨_, rfl, by simp⟩
   obtain ⟨b, hb1, hb2⟩ := hr
   rw [hb1, obnd_s, ogrd_fits (by simp; omega) (by simp; omega)]
   refine ⟨_, rfl, rfl, by simp [hl], fun j hj => ?_⟩
   rw [app_get hl]
   rcases Nat.lt_or_ge j i with h8 | h8
   · rw [hw j h8]; exact ⟨fun h => h.elim (·.2) fun h => by omega, fun h => .inl ⟨h8, h⟩⟩
   · obtain rfl : j = i := by omega
     rw [hb2]; exact ⟨fun h => h.elim (fun h => by omega) (·.2), fun h => .inr ⟨rfl, h⟩⟩
 · rintro ⟨W, _⟩ ⟨rfl, hl, hw⟩
   have t1 : ilt ((C.length : Nat) : Int) ((C.length : Nat) : Int) = false := ilt_f (by omega)
   simp only [k0, up_len, t1, oite_f]
   exact ⟨_, rfl, hl, hw⟩
theorem f489_k {W : List Bool} (hW : W.length ≤ 1000) : ∃ l, f489 W = some l ∧ l.length ≤ W.length ∧ ∀ x : Int, x ∈ l ↔ ∃ k : Nat, x = k ∧ W[k]? = some true := by
  unfold f489
  simp only [k0]
  refine obnd_ex (R := fun l : List Int => l.length ≤ W.length ∧ ∀ x : Int, x ∈ l ↔ ∃ k : Nat, x = k ∧ W[k]? = some true) (oloop_ex (R := fun l : List Int => l.length ≤ W.length ∧ ∀ x : Int, x ∈ l ↔ ∃ k : Nat, x = k ∧ W[k]? = some true)
    (fun i (e : List Int × Int) => e.2 = (i : Int) ∧ e.1.length ≤ i ∧ ∀ x : Int, x ∈ e.1 ↔ ∃ k : Nat, k < i ∧ x = k ∧ W[k]? = some true) W.length ⟨rfl, Nat.le_refl _, fun x => ⟨fun h => (by cases h), fun ⟨k, h, _⟩ => absurd h (Nat.not_lt_zero _)⟩⟩ ?_ ?_) (fun l hl => ⟨l, rfl, hl⟩)
  · rintro i ⟨L, _⟩ hi ⟨rfl, h1, h2⟩
    simp only at h1 h2
    have t1 : ilt (i : Int) ((W.length : Nat) : Int) = true := ilt_t (by omega)
    have t2 : ile 0 (i : Int) = true := ile_t (by omega)
    simp only [t1, t2, oite_t, ogrd_t, Int.toNat_natCast, get_i hi, obnd_s, w_succ (show i < 1000000 by omega)]
    have hg : W[i]? = some W[i] := List.getElem?_eq_getElem hi
    left
    cases hb : W[i] with
    | false =>
      rw [oite_f]
      refine ⟨_, rfl, rfl, by simp only; omega, fun x => ?_⟩
      rw [h2]
      constructor
      · rintro ⟨k, h3, h4⟩; exact ⟨k, by omega, h4⟩
      · rintro ⟨k, h3, h4, h5⟩
        refine ⟨k, ?_, h4, h5⟩
        rcases Nat.lt_or_ge k i with h6 | h6
        · exact h6
        · obtain rfl : k = i := by omega
          rw [hg, hb] at h5; cases h5
    | true =>
      rw [oite_t, ogrd_fits (by simp; omega) (by simp; omega)]
      refine ⟨_, rfl, rfl, by simp; omega, fun x => ?_⟩
      rw [List.mem_append, h2, List.mem_singleton]
      constructor
      · rintro (⟨k, h3, h4⟩ | rfl)
        · exact ⟨k, by omega, h4⟩
        · exact ⟨i, by omega, rfl, by rw [hg, hb]⟩
      · rintro ⟨k, h3, h4, h5⟩
        rcases Nat.lt_or_ge k i with h6 | h6
        · exact .inl ⟨k, h6, h4, h5⟩
        · obtain rfl : k = i := by omega
          exact .inr h4
  · rintro ⟨L, _⟩ ⟨rfl, h1, h2⟩
    have t1 : ilt ((W.length : Nat) : Int) ((W.length : Nat) : Int) = false := ilt_f (by omega)
    simp only [t1, oite_f]
    refine ⟨_, rfl, h1, fun x => ?_⟩
    rw [h2]
    exact ⟨fun ⟨k, _, h⟩ => ⟨k, h⟩, fun ⟨k, h⟩ => ⟨k, (List.getElem?_eq_some_iff.1 h.2).1, h⟩⟩
theorem f480_k {N : List Nd} {C : List Cd} {o : Nat → Bool} (hV : Val N C) (hK : Keep C o) : ∃ l, f480 N (up C o) = some (l, 0) ∧ l.length ≤ 14 ∧ ∀ x : Int, x ∈ l ↔ ∃ k : Nat, k < C.length ∧ x = k ∧ Wt N C o k := by
 have hc1 := hV.c1
 unfold f480
 rw [f488_e (up_val hV hK), obnd_s]
 obtain ⟨W, h1, h2, h3⟩ := f490_k (o := o) hV
 obtain ⟨l, h4, h5, h6⟩ := f489_k (W := W) (by omega)
 refine ⟨l, ?_, by omega, fun x => ?_⟩
 · simp only [show (!ieq 0 0) = false from rfl, oite_f, h1, obnd_s, h4]
 · rw [h6]
   constructor
   · rintro ⟨k, h7, h8⟩
     have hk : k < C.length := by rw [← h2]; exact (List.getElem?_eq_some_iff.1 h8).1
     exact ⟨k, hk, h7, (h3 k hk).1 h8⟩
   · rintro ⟨k, hk, h7, h8⟩
     exact ⟨k, h7, (h3 k hk).2 h8⟩
def rB (l : List Int) (x : Int) : Unit ⊕ Bool → Prop
 | .inl _ => x ∉ l
 | .inr b => b = true ∧ x ∈ l
theorem f344_e {l : List Int} {x : Int} (hl : l.length ≤ 1000) : f344 l x = some (decide (x ∈ l)) := by
 refine ex_eq ?_
 unfold f344
 refine obndS_ex (R := rB l x) (oloop_ex (R := rB l x) (fun i e => e = (i : Int) ∧ x ∉ l.take i) l.length ⟨rfl, by simp⟩ ?_ ?_) (fun _ h => ⟨false, rfl, (decide_eq_false h).symm⟩) (fun b h => h.1.trans (decide_eq_true h.2).symm)
 · rintro i _ hi ⟨rfl, hn⟩
   have t1 : ilt (i : Int) ((l.length : Nat) : Int) = true := ilt_t (by omega)
   have t2 : ile 0 (i : Int) = true := ile_t (by omega)
   simp only [k0, t1, t2, oite_t, ogrd_t, Int.toNat_natCast, get_i hi, obnd_s, w_succ (show i < 1000000 by omega), ieq_eq]
   by_cases hb : l[i] = x
   · rw [decide_eq_true hb]
     exact .inr ⟨_, rfl, rfl, hb ▸ List.getElem_mem hi⟩
   · rw [decide_eq_false hb]
     refine .inl ⟨_, rfl, rfl, ?_⟩
     rw [List.take_succ_eq_append_getElem hi, List.mem_append]
     rintro (h | h)
     · exact hn h
     · simp at h; exact hb h.symm
 · rintro _ ⟨rfl, hn⟩
   have t1 : ilt ((l.length : Nat) : Int) ((l.length : Nat) : Int) = false := ilt_f (by omega)
   simp only [k0, t1, oite_f]
   exact ⟨_, rfl, by rw [List.take_length] at hn; exact hn⟩
def tn (o : Nat → Bool) (k : Nat) (b : Bool) : Nat → Bool := fun j => if j = k then b else o j
theorem f494_e {N : List Nd} {C : List Cd} {o : Nat → Bool} {k : Nat} {b : Bool} (hV : Val N C) (hk : k < C.length) : f494 N (up C o) (k : Int) b = some (N, up C (tn o k b)) := by
 have hc0 := hV.c0
 have hc1 := hV.c1
 have hne : (!(up C o).isEmpty) = true := by
  have : (up C o).length ≠ 0 := by rw [up_len]; omega
  cases h : up C o with
  | nil => rw [h] at this; exact absurd rfl this
  | cons _ _ => rfl
 unfold f494 f508
 rw [hne, ogrd_t, ogrd_fits (by simp [up_len]; omega) (by simp [up_len]; omega), List.nil_append]
 simp only [obnd_s, hne, ogrd_t, up_len, ile_t (show (0 : Int) ≤ (k : Int) by omega), ilt_t (show (k : Int) < (C.length : Int) by omega), Int.toNat_natCast, up_get hk, List.length_set, Nat.beq_refl]
 congr 2
 exact up_set
theorem f481_k {N : List Nd} {C : List Cd} {o : Nat → Bool} {k : Nat} (hV : Val N C) (hK : Keep C o) (hk : k < C.length) (hv : vlC C k = true) : ∃ l, f481 N (up C o) (k : Int) = some (l, 0) ∧ l.length ≤ 14 ∧ ∀ x : Int, x ∈ l ↔ ∃ j : Nat, j < C.length ∧ x = j ∧ Wt N C (tn o k true) j ∧ ¬ Wt N C (tn o k false) j := by
 have hc0 := hV.c0
 have hc1 := hV.c1
 unfold f481
 rw [f488_e (up_val hV hK), obnd_s]
 obtain ⟨B, h1, h2, h3⟩ := f490_k (o := tn o k false) hV
 obtain ⟨A, h4, h5, h6⟩ := f490_k (o := tn o k true) hV
 have hw : IntKind.i64.wrap ((C.length : Int) - 1) = (C.length : Int) - 1 := wr (by omega) (by omega)
 have hne : (!A.isEmpty) = true := by
   cases A with
   | nil => simp at h5; omega
   | cons _ _ => rfl
 simp only [k0, up_len, hw, f493_e, in2 (show (0 : Int) ≤ (k : Int) ∧ (k : Int) ≤ (C.length : Int) - 1 by omega), f492_e, if_true, obnd_s, f491_0 (l := [0, 0]) (by simp) (by simp), show (!ieq 0 0) = false from rfl, oite_f, ile_t (show (0 : Int) ≤ (k : Int) by omega), ogrd_t, Int.toNat_natCast, up_get hk,
   show (!(upx C o k).2.2.2.2.1) = false by show (!vlC C k) = false; rw [hv]; rfl, f494_e hV hk, h1, h4, hne]
 have key : ∃ R : List Bool, oloop (τ := Int × List Bool) (ρ := List Bool) (fun e26 => oite (ilt e26.1 (A.length : Int)) (ogrd (ile 0 e26.1) (obnd (e26.2[e26.1.toNat]?) fun (x31 : Bool) => obnd (oite x31 (obnd (B[e26.1.toNat]?) fun (x37 : Bool) => some (!x37)) (some false)) fun (r34 : Bool) => ogrd (Nat.blt e26.1.toNat e26.2.length) (some (.inl ((IntKind.i64.wrap (e26.1 + (1 : Int))), (e26.2.set e26.1.toNat r34)))))) (oinr (ogrd (Nat.beq A.length e26.2.length) (some e26.2)))) ((0 : Int), A) = some R ∧
     R.length = C.length ∧ ∀ j, j < C.length → (R[j]? = some true ↔ Wt N C (tn o k true) j ∧ ¬ Wt N C (tn o k false) j) := by
   refine oloop_ex (R := fun R : List Bool => R.length = C.length ∧ ∀ j, j < C.length → (R[j]? = some true ↔ Wt N C (tn o k true) j ∧ ¬ Wt N C (tn o k false) j))
     (fun i (e : Int × List Bool) => e.1 = (i : Int) ∧ e.2.length = C.length ∧ ∀ j, j < C.length → (e.2[j]? = some true ↔ Wt N C (tn o k true) j ∧ (j < i → ¬ Wt N C (tn o k false) j))) C.length ⟨rfl, h5, fun j hj => by rw [h6 j hj]; exact ⟨fun h => ⟨h, fun h => absurd h (Nat.not_lt_zero _)⟩, (·.1)⟩⟩ ?_ ?_
   · rintro i ⟨_, L⟩ hi ⟨rfl, hl, hw⟩
     simp only at hl hw
     have t1 : ilt (i : Int) ((A.length : Nat) : Int) = true := ilt_t (by omega)
     have t2 : ile 0 (i : Int) = true := ile_t (by omega)
     obtain ⟨b, hb⟩ := get_b (l := L) (i := i) (by omega)
     obtain ⟨c, hc⟩ := get_b (l := B) (i := i) (by omega)
     have e1 : b = true ↔ Wt N C (tn o k true) i := by
       have := hw i hi
       rw [hb] at this
       simpa using this
     have e2 : c = true ↔ Wt N C (tn o k false) i := by rw [← h3 i hi, hc]; simp
     left
     simp only [t1, t2, oite_t, ogrd_t, Int.toNat_natCast, hb, hc, obnd_s, w_succ (show i < 1000000 by omega), Nat.blt_eq.mpr (show i < L.length by omega)]
     have hr : ∃ r, (oite b (some (!c)) (some false)) = some r ∧ (r = true ↔ Wt N C (tn o k true) i ∧ ¬ Wt N C (tn o k false) i) := by
       rw [← e1, ← e2]
       cases b <;> cases c <;> exact ⟨_, rfl, by simp⟩
     obtain ⟨r, hr1, hr2⟩ := hr
     rw [hr1, obnd_s]
     refine ⟨_, rfl, rfl, by simp [hl], fun j hj => ?_⟩
     rw [List.getElem?_set]
     by_cases hji : i = j
     · subst hji
       rw [if_pos rfl, if_pos (by omega)]
       simp only [Option.some.injEq, hr2]
       exact ⟨fun h => ⟨h.1, fun _ => h.2⟩, fun h => ⟨h.1, h.2 (by omega)⟩⟩
     · rw [if_neg hji, hw j hj]
       exact ⟨fun h => ⟨h.1, fun h8 => h.2 (by omega)⟩, fun h => ⟨h.1, fun h8 => h.2 (by omega)⟩⟩
   · rintro ⟨_, L⟩ ⟨rfl, hl, hw⟩
     simp only at hl hw
     have t1 : ilt ((C.length : Nat) : Int) ((A.length : Nat) : Int) = false := ilt_f (by omega)
     simp only [t1, oite_f]
     refine ⟨L, by rw [show Nat.beq A.length L.length = true by rw [h5, hl]; exact Nat.beq_refl _]; rfl, hl, fun j hj => ?_⟩
     rw [hw j hj]
     exact ⟨fun h => ⟨h.1, h.2 hj⟩, fun h => ⟨h.1, fun _ => h.2⟩⟩
 obtain ⟨R, h7, h8, h9⟩ := key
 rw [h7, obnd_s]
 obtain ⟨l, h10, h11, h12⟩ := f489_k (W := R) (by omega)
 rw [h10, obnd_s]
 refine ⟨l, rfl, by omega, fun x => ?_⟩
 rw [h12]
 constructor
 · rintro ⟨j, h13, h14⟩
   have hj : j < C.length := by rw [← h8]; exact (List.getElem?_eq_some_iff.1 h14).1
   exact ⟨j, hj, h13, (h9 j hj).1 h14⟩
 · rintro ⟨j, hj, h13, h14⟩
   exact ⟨j, h13, (h9 j hj).2 h14⟩
end
section
set_option linter.unusedSimpArgs false
set_option linter.unusedVariables false
open Go Go.RowKit
def rI (b : List Int) (e : Int) : Unit ⊕ Int → Prop
 | .inl _ => e ∉ b
 | .inr y => 0 ≤ y ∧ e ∈ b
theorem f145_e {b : List Int} {e : Int} (hl : b.length ≤ 1000) : ∃ y, f145 b e = some y ∧ (0 ≤ y ↔ e ∈ b) := by
 unfold f145
 refine obndS_ex (R := rI b e) (Q := fun y => 0 ≤ y ↔ e ∈ b) (oloop_ex (R := rI b e) (fun i j => j = (i : Int) ∧ e ∉ b.take i) b.length ⟨rfl, by simp⟩ ?_ ?_) ?_ (fun y h => ⟨fun _ => h.2, fun _ => h.1⟩)
 · rintro i _ hi ⟨rfl, hn⟩
   have t1 : ilt (i : Int) ((b.length : Nat) : Int) = true := ilt_t (by omega)
   have t2 : ile 0 (i : Int) = true := ile_t (by omega)
   simp only [List.length_map, t1, t2, oite_t, ogrd_t, Int.toNat_natCast, get_i hi, obnd_s, w_succ (show i < 1000000 by omega), ieq_eq]
   by_cases he : e = b[i]
   · rw [decide_eq_true he]
     exact .inr ⟨_, rfl, by omega, he ▸ List.getElem_mem hi⟩
   · rw [decide_eq_false he]
     refine .inl ⟨_, rfl, rfl, ?_⟩
     rw [List.take_succ_eq_append_getElem hi, List.mem_append]
     rintro (h | h)
     · exact hn h
     · simp at h; exact he h
 · rintro _ ⟨rfl, hn⟩
   have t1 : ilt ((b.length : Nat) : Int) ((b.length : Nat) : Int) = false := ilt_f (by omega)
   simp only [List.length_map, t1, oite_f]
   exact ⟨_, rfl, by rw [List.take_length] at hn; exact hn⟩
 · intro _ h
   exact ⟨-1, rfl, ⟨fun h0 => absurd h0 (by omega), fun h2 => absurd h2 h⟩⟩
theorem f138_e {b : List Int} {e : Int} (hl : b.length ≤ 1000) : f138 b e = some (decide (e ∈ b)) := by
 unfold f138
 obtain ⟨y, h1, h2⟩ := f145_e (e := e) hl
 rw [h1, obnd_s]
 by_cases h : e ∈ b
 · rw [ile_t (h2.2 h), decide_eq_true h]
 · rw [ile_f (by have := mt h2.1 h; omega), decide_eq_false h]
def eX (C : List Cd) (S : List Int) (j : Nat) : Bool := opC C j && !decide ((j : Int) ∈ S)
theorem f502_e {N : List Nd} {C : List Cd} {S : List Int} {j : Nat} (hS : S.length ≤ 1000) (hj : j < C.length) : f502 (j : Int) N C S = some (eX C S j) := by
 unfold f502 eX
 have h := f503_e (N := N) (C := C) (o := opC C) hj
 rw [up_self] at h
 rw [h, obnd_s, f138_e hS]
 cases opC C j <;> rfl
def Sep (C : List Cd) (S : List Int) (i t : Nat) : Prop := ¬ Rc C (eX C S) (fun q => q = i) t
theorem f500_k {N : List Nd} {C : List Cd} {S : List Int} {i t : Nat} (hV : Val N C) (hS : S.length ≤ 1000) (hi : i < N.length) (ht : t < N.length) : ∃ b, f500 S N C (i : Int) (t : Int) = some b ∧ (b = true ↔ Sep C S i t) := by
 unfold f500 f501
 obtain ⟨R, h1, h2, h3⟩ := f506_k (p := fun z0 => f502 z0 N C S) (o := opC C) (E := eX C S) (F := [(i : Int)]) hV (fun j hj => f502_e hS hj) (fun x hx => by simp at hx; omega) (by simp)
 rw [up_self] at h1
 obtain ⟨b, hb⟩ := get_b (l := R) (i := t) (by omega)
 refine ⟨!b, ?_, ?_⟩
 · rw [h1, obnd_s, ile_t (show (0 : Int) ≤ (t : Int) by omega), ogrd_t, Int.toNat_natCast, hb]; rfl
 · have h4 := h3 t ht
   rw [hb] at h4
   have h5 : Rc C (eX C S) (fun k => (k : Int) ∈ [(i : Int)]) t ↔ Rc C (eX C S) (fun q => q = i) t := ⟨fun h => h.mono (fun _ _ h => h) fun q hq => by simp at hq; omega, fun h => h.mono (fun _ _ h => h) fun q hq => by simp [hq]⟩
   rw [h5] at h4
   unfold Sep
   rw [← h4]
   cases b <;> simp
def rT (q : List Int → Prop) (a b : List Int) : Unit ⊕ (List Int × Bool) → Prop
 | .inl _ => True
 | .inr r => r.2 = true → q r.1 ∧ r.1.length ≤ a.length + b.length ∧ ∀ x, x ∈ r.1 → x ∈ a ∨ x ∈ b
theorem f504n_k {p0 : List Int → Option Bool} {q : List Int → Prop} {D : Int → Prop} (hp : ∀ S, S.length ≤ 1000 → (∀ x, x ∈ S → D x) → ∃ b, p0 S = some b ∧ (b = true → q S)) : ∀ (n : Nat) (a b : List Int) (c : Nat), c < n → c ≤ 1000 → a.length + b.length ≤ 1000 → (∀ x, x ∈ a → D x) → (∀ x, x ∈ b → D x) →
    ∃ r, f504n p0 n a b (c : Int) = some r ∧ (r.2 = true → q r.1 ∧ r.1.length ≤ a.length + b.length ∧ ∀ x, x ∈ r.1 → x ∈ a ∨ x ∈ b)
  | 0, _, _, _, h, _, _, _, _ => absurd h (Nat.not_lt_zero _)
  | n + 1, a, b, c, hc, hc2, hl, ha, hb => by
    simp only [f504n]
    unfold r504
    by_cases h0 : c = 0
    · subst h0
      rw [show ieq ((0 : Nat) : Int) 0 = true from rfl, oite_t]
      obtain ⟨y, h1, h2⟩ := hp a (by omega) ha
      rw [h1]
      exact ⟨_, rfl, fun h => ⟨h2 h, by simp, fun x hx => .inl hx⟩⟩
    · rw [ieq_f (by omega), oite_f]
      refine obndS_ex (R := rT q a b) (oloop_ex (R := rT q a b) (fun i e => e = (i : Int)) b.length rfl ?_ ?_) (fun _ _ => ⟨_, rfl, fun h => by cases h⟩) (fun r h => h)
      · rintro i _ hi rfl
        have t1 : ilt (i : Int) ((b.length : Nat) : Int) = true := ilt_t (by omega)
        have t2 : ile 0 (i : Int) = true := ile_t (by omega)
        have t3 : oslL b ((i + 1 : Nat) : Int) = some (b.drop (i + 1)) := by unfold oslL; rw [if_pos (by omega)]; rfl
        have w1 : IntKind.i64.wrap ((c : Int) - 1) = ((c - 1 : Nat) : Int) := by rw [wr (by omega) (by omega)]; omega
        obtain ⟨r, h1, h2⟩ := f504n_k hp n (a ++ [b[i]]) (b.drop (i + 1)) (c - 1) (by omega) (by omega) (by simp; omega) (fun x hx => by
          rcases List.mem_append.1 hx with h | h
          · exact ha x h
          · simp at h; subst h; exact hb _ (List.getElem_mem hi)) (fun x hx => hb x (List.mem_of_mem_drop hx))
        simp only [k0, t1, t2, oite_t, ogrd_t, Int.toNat_natCast, get_i hi, obnd_s, w_succ (show i < 1000000 by omega), t3, f514, w1, ogrd_fits (show (a.length + [b[i]].length) * 8 ≤ 1099511627776 by simp; omega) (show a.length + [b[i]].length ≤ 1099511627776 by simp; omega), h1]
        cases hr : r.2 with
        | false => exact .inl ⟨_, rfl, rfl⟩
        | true =>
          obtain ⟨h3, h4, h5⟩ := h2 hr
          refine .inr ⟨_, rfl, fun _ => ⟨h3, by simp at h4 ⊢; omega, fun x hx => ?_⟩⟩
          rcases h5 x hx with h | h
          · rcases List.mem_append.1 h with h | h
            · exact .inl h
            · simp at h; subst h; exact .inr (List.getElem_mem hi)
          · exact .inr (List.mem_of_mem_drop h)
      · rintro _ rfl
        have t1 : ilt ((b.length : Nat) : Int) ((b.length : Nat) : Int) = false := ilt_f (by omega)
        simp only [k0, t1, oite_f]
        exact ⟨_, rfl, trivial⟩
def isV (C : List Cd) (x : Int) : Prop := ∃ j : Nat, j < C.length ∧ x = j ∧ vlC C j = true ∧ opC C j = true
def rU (C : List Cd) (i t : Nat) : Unit ⊕ (List Int × Bool) → Prop
 | .inl _ => True
 | .inr r => r.2 = true → Sep C r.1 i t ∧ r.1.length ≤ 14 ∧ ∀ x, x ∈ r.1 → isV C x
theorem f487_k {N : List Nd} {C : List Cd} {i t : Nat} (hV : Val N C) (hi : i < N.length) (ht : t < N.length) : ∃ r, f487 N C (i : Int) (t : Int) = some r ∧ (r.2 = true → Sep C r.1 i t ∧ r.1.length ≤ 14 ∧ ∀ x, x ∈ r.1 → isV C x) := by
  have hc1 := hV.c1
  unfold f487
  refine obnd_ex (R := fun V : List Int => V.length ≤ C.length ∧ ∀ x, x ∈ V → isV C x) (oloop_ex (R := fun V : List Int => V.length ≤ C.length ∧ ∀ x, x ∈ V → isV C x)
    (fun k (e : List Int × Int) => e.2 = (k : Int) ∧ e.1.length ≤ k ∧ ∀ x, x ∈ e.1 → isV C x) C.length ⟨rfl, Nat.le_refl _, fun x h => (by cases h)⟩ ?_ ?_) ?_
  · rintro k ⟨L, _⟩ hk ⟨rfl, h1, h2⟩
    simp only at h1 h2
    have t1 : ilt (k : Int) ((C.length : Nat) : Int) = true := ilt_t (by omega)
    have t2 : ile 0 (k : Int) = true := ile_t (by omega)
    have e1 : C[k].2.2.2.2.1 = vlC C k := by unfold vlC; rw [gC_i hk]
    have e2 : C[k].2.2.2.2.2 = opC C k := by unfold opC; rw [gC_i hk]
    simp only [k0, t1, t2, oite_t, ogrd_t, Int.toNat_natCast, get_i hk, obnd_s, w_succ (show k < 1000000 by omega), e1, e2]
    left
    cases hv : vlC C k with
    | false => exact ⟨_, rfl, rfl, by simp only; omega, h2⟩
    | true =>
      cases ho : opC C k with
      | false => exact ⟨_, rfl, rfl, by simp only; omega, h2⟩
      | true =>
        simp only [oite_t, obnd_s, ogrd_fits (show (L.length + [(k : Int)].length) * 8 ≤ 1099511627776 by simp; omega) (show L.length + [(k : Int)].length ≤ 1099511627776 by simp; omega)]
        refine ⟨_, rfl, rfl, by simp; omega, fun x hx => ?_⟩
        rcases List.mem_append.1 hx with h | h
        · exact h2 x h
        · simp at h; exact ⟨k, hk, h, hv, ho⟩
  · rintro ⟨L, _⟩ ⟨rfl, h1, h2⟩
    have t1 : ilt ((C.length : Nat) : Int) ((C.length : Nat) : Int) = false := ilt_f (by omega)
    simp only [k0, t1, oite_f]
    exact ⟨_, rfl, h1, h2⟩
  rintro V ⟨hl, hV2⟩
  have hw : IntKind.i64.wrap ((V.length : Int) + 1) = ((V.length + 1 : Nat) : Int) := w_succ (by omega)
  refine obndS_ex (R := rU C i t) (oloop_ex (R := rU C i t) (fun c e => e = (c : Int)) (V.length + 1) rfl ?_ ?_) (fun _ _ => ⟨_, rfl, fun h => by cases h⟩) (fun r h => h)
  · rintro c _ hc rfl
    have t1 : ilt (c : Int) ((V.length + 1 : Nat) : Int) = true := ilt_t (by omega)
    obtain ⟨r, h1, h2⟩ := f504n_k (p0 := fun z0 => f500 z0 N C (i : Int) (t : Int)) (q := fun S => Sep C S i t) (D := isV C) (fun S hS _ => by
      obtain ⟨b, h3, h4⟩ := f500_k (S := S) hV hS hi ht
      exact ⟨b, h3, h4.1⟩) ((c : Int).toNat + 1) [] V c (by simp) (by omega) (by simp; omega) (fun x hx => by cases hx) hV2
    simp only [k0, hw, t1, oite_t, f504, h1, obnd_s, w_succ (show c < 1000000 by omega)]
    cases hr : r.2 with
    | false => exact .inl ⟨_, rfl, rfl⟩
    | true =>
      obtain ⟨h3, h4, h5⟩ := h2 hr
      refine .inr ⟨_, rfl, fun _ => ⟨h3, by simp at h4 ⊢; omega, fun x hx => ?_⟩⟩
      rcases h5 x hx with h | h
      · cases h
      · exact hV2 x h
  · rintro _ rfl
    have t1 : ilt ((V.length + 1 : Nat) : Int) ((V.length + 1 : Nat) : Int) = false := ilt_f (by omega)
    simp only [k0, hw, t1, oite_f]
    exact ⟨_, rfl, trivial⟩
theorem f479_k {N : List Nd} {C : List Cd} {i t : Nat} (hV : Val N C) (hi : i < N.length) (ht : t < N.length) (hne : i ≠ t) :
    ∃ r, f479 N C (i : Int) (t : Int) = some r ∧ (r.2 = 12 ∨ r.2 = 0 ∧ Sep C r.1 i t ∧ r.1.length ≤ 14 ∧ ∀ x, x ∈ r.1 → isV C x) := by
  have hn1 := hV.n1
  have hw : IntKind.i64.wrap ((N.length : Int) - 1) = (N.length : Int) - 1 := wr (by omega) (by omega)
  unfold f479 f486 f499
  rw [f488_e hV]
  simp only [obnd_s, k0, hw, f493_e, in2 (show (0 : Int) ≤ (i : Int) ∧ (i : Int) ≤ (N.length : Int) - 1 by omega), in2 (show (0 : Int) ≤ (t : Int) ∧ (t : Int) ≤ (N.length : Int) - 1 by omega), f492_e, if_true, ieq_f (show (i : Int) ≠ (t : Int) by omega), k5, f491_0 (l := [0, 0, 0, 0]) (by simp) (by simp), show (!ieq 0 0) = false from rfl, oite_f]
  obtain ⟨r, h1, h2⟩ := f487_k hV hi ht
  rw [h1, obnd_s]
  cases hr : r.2 with
  | false => exact ⟨_, rfl, .inl rfl⟩
  | true =>
    obtain ⟨h3, h4, h5⟩ := h2 hr
    simp only [k4, oite_f]
    unfold f73
    rw [ogrd_fits (by simp; omega) (by simp; omega), List.nil_append]
    exact ⟨_, rfl, .inr ⟨rfl, h3, h4, h5⟩⟩
end
section
set_option linter.unusedSimpArgs false
set_option linter.unusedVariables false
open Go Go.RowKit
def sm {α β : Type} (A : α → Prop) (B : β → Prop) : α ⊕ β → Prop
 | .inl a => A a
 | .inr b => B b
theorem f476_k {N : List Nd} {C : List Cd} : ∃ b, f476 N C = some b ∧ (b = true → N.length ≤ 12 ∧ C.length ≤ 16 ∧ (∀ x, x ∈ N → x.1.size ≤ 1000) ∧ ∀ x, x ∈ C → x.1.size ≤ 1000) := by
 unfold f476
 simp only [k0, ilt_eq, oite_ss, obnd_s]
 by_cases hb : 12 < N.length ∨ 16 < C.length
 · refine ⟨false, ?_, fun h => by cases h⟩
   have : (bif decide ((12 : Int) < N.length) then true else decide ((16 : Int) < C.length)) = true := by
     rcases hb with h | h
     · rw [decide_eq_true (by omega)]; rfl
     · rw [decide_eq_true (show (16 : Int) < C.length by omega)]; cases decide ((12 : Int) < N.length) <;> rfl
   rw [this]; rfl
 have e2 : (bif decide ((12 : Int) < N.length) then true else decide ((16 : Int) < C.length)) = false := by
   rw [decide_eq_false (by omega), decide_eq_false (by omega)]; rfl
 rw [e2, oite_f]
 refine obndS_ex (R := sm (fun _ : Unit => ∀ x, x ∈ N → x.1.size ≤ 1000) (fun b : Bool => b = false)) (oloop_ex (R := sm (fun _ : Unit => ∀ x, x ∈ N → x.1.size ≤ 1000) (fun b : Bool => b = false)) (fun i e => e = (i : Int) ∧ ∀ x, x ∈ N.take i → x.1.size ≤ 1000) N.length ⟨rfl, by simp⟩ ?_ ?_) ?_ (fun b h => fun hb => by rw [show b = false from h] at hb; cases hb)
 · rintro i _ hi ⟨rfl, hn⟩
   have t1 : decide ((i : Int) < ((N.length : Nat) : Int)) = true := decide_eq_true (by omega)
   have t2 : ile 0 (i : Int) = true := ile_t (by omega)
   simp only [t1, t2, oite_t, ogrd_t, Int.toNat_natCast, get_i hi, obnd_s, w_succ (show i < 1000000 by omega)]
   by_cases h : (20 : Int) < N[i].1.size
   · rw [decide_eq_true h]; exact .inr ⟨_, rfl, rfl⟩
   · rw [decide_eq_false h]
     refine .inl ⟨_, rfl, rfl, fun x hx => ?_⟩
     rw [List.take_succ_eq_append_getElem hi, List.mem_append] at hx
     rcases hx with hx | hx
     · exact hn x hx
     · simp at hx; subst hx; omega
 · rintro _ ⟨rfl, hn⟩
   have t1 : decide (((N.length : Nat) : Int) < ((N.length : Nat) : Int)) = false := decide_eq_false (by omega)
   simp only [t1, oite_f]
   exact ⟨_, rfl, by rw [List.take_length] at hn; exact hn⟩
 intro _ hN
 refine obndS_ex (R := sm (fun _ : Unit => ∀ x, x ∈ C → x.1.size ≤ 1000) (fun b : Bool => b = false)) (oloop_ex (R := sm (fun _ : Unit => ∀ x, x ∈ C → x.1.size ≤ 1000) (fun b : Bool => b = false)) (fun i e => e = (i : Int) ∧ ∀ x, x ∈ C.take i → x.1.size ≤ 1000) C.length ⟨rfl, by simp⟩ ?_ ?_) (fun _ hC => ⟨true, rfl, fun _ => ⟨by omega, by omega, hN, hC⟩⟩) (fun b h => fun hb => by rw [show b = false from h] at hb; cases hb)
 · rintro i _ hi ⟨rfl, hn⟩
   have t1 : decide ((i : Int) < ((C.length : Nat) : Int)) = true := decide_eq_true (by omega)
   have t2 : ile 0 (i : Int) = true := ile_t (by omega)
   simp only [t1, t2, oite_t, ogrd_t, Int.toNat_natCast, get_i hi, obnd_s, w_succ (show i < 1000000 by omega)]
   by_cases h : (20 : Int) < C[i].1.size
   · rw [decide_eq_true h]; exact .inr ⟨_, rfl, rfl⟩
   · rw [decide_eq_false h]
     refine .inl ⟨_, rfl, rfl, fun x hx => ?_⟩
     rw [List.take_succ_eq_append_getElem hi, List.mem_append] at hx
     rcases hx with hx | hx
     · exact hn x hx
     · simp at hx; subst hx; omega
 · rintro _ ⟨rfl, hn⟩
   have t1 : decide (((C.length : Nat) : Int) < ((C.length : Nat) : Int)) = false := decide_eq_false (by omega)
   simp only [t1, oite_f]
   exact ⟨_, rfl, by rw [List.take_length] at hn; exact hn⟩
theorem f346_k {x : Int} {n : Nat} (h0 : 0 < n) (h1 : n ≤ 1000) : ∃ u : Nat, f346 x (n : Int) = some (u : Int) ∧ u < n := by
 unfold f346
 rw [ieq_f (by omega), k5, ogrd_t]
 have h2 : x.tmod n < n := Int.tmod_lt_of_pos x (by omega)
 have h3 : -(n : Int) < x.tmod n := by
   have h := Int.natAbs_tmod x n
   have h3 := Nat.mod_lt x.natAbs (show n > 0 by omega)
   have h4 : (x.tmod n).natAbs < n := by rw [h]; simpa using h3
   omega
 by_cases h : x.tmod n < 0
 · rw [ilt_t h, oite_t, wr (by omega) (by omega)]
   exact ⟨(x.tmod n + n).toNat, by rw [Int.toNat_of_nonneg (by omega)], by omega⟩
 · rw [ilt_f (by omega), oite_f]
   exact ⟨(x.tmod n).toNat, by rw [Int.toNat_of_nonneg (by omega)], by omega⟩
theorem oloop_ex2 {τ ρ : Type} {g : τ → Option (τ ⊕ ρ)} {R : ρ → Prop} (P : Nat → τ → Prop) (n : Nat) {e0 : τ} (h0 : P 0 e0) (hs : ∀ i e, i < n → P i e → ∃ y, g e = some y ∧ sm (P (i + 1)) R y) (hend : ∀ e, P n e → ∃ r, g e = some (.inr r) ∧ R r) : ∃ r, oloop g e0 = some r ∧ R r :=
 oloop_ex P n h0 (fun i e hi hp => by
  obtain ⟨y, h1, h2⟩ := hs i e hi hp
  cases y with
  | inl a => exact .inl ⟨a, h1, h2⟩
  | inr b => exact .inr ⟨b, h1, h2⟩) hend
abbrev SX := List Cd ⊕ (List Cd ⊕ ((Int × List Cd) ⊕ (List Cd ⊕ Bool)))
noncomputable def cutX (a0 : List Nd) (a1 : List Cd) (i t : Int) (L : List Cd) : Option SX :=
           obnd (
            ogrd (fits 40 (([] : List (ByteArray × Bool × Int × Int)).length + a0.length)) (
            ogrd (fits 48 (([] : List (ByteArray × Int × Int × Int × Bool × Bool)).length + a1.length)) (
            obnd (f479 (([] : List (ByteArray × Bool × Int × Int)) ++ a0) (([] : List (ByteArray × Int × Int × Int × Bool × Bool)) ++ a1) i t) fun (y65 : (List Int) × Int) =>
            some (y65.1, y65.2)
            )
            )
             ) fun (r58 : (List Int) × Int) =>
           oite ((!(ieq r58.2 (0 : Int)))) (
            some (.inr (.inr (.inr (.inr ((ieq r58.2 (12 : Int)))))))
             ) (
            oloop (τ := Int × (List (ByteArray × Int × Int × Int × Bool × Bool))) (ρ := ((List (ByteArray × Int × Int × Int × Bool × Bool))) ⊕ (((List (ByteArray × Int × Int × Int × Bool × Bool))) ⊕ ((Int × (List (ByteArray × Int × Int × Int × Bool × Bool))) ⊕ (((List (ByteArray × Int × Int × Int × Bool × Bool))) ⊕ Bool)))) (fun e73 =>
             oite ((ilt e73.1 ((r58.1.map eI).length : Int))) (
              obnd (
               ogrd ((ile 0 e73.1)) (
               obnd (r58.1[e73.1.toNat]?) fun (x82 : Int) =>
               obnd (f15 x82 (0 : Int) ((IntKind.i64.wrap (((a1.map e_SIIIBB).length : Int) - (1 : Int))))) fun (y83 : Bool) =>
               oite (!y83) (
                some true
                 ) (
                obnd (r58.1[e73.1.toNat]?) fun (x86 : Int) =>
                ogrd ((ile 0 x86)) (
                obnd (a1[x86.toNat]?) fun (x88 : ByteArray × Int × Int × Int × Bool × Bool) =>
                oite (!x88.2.2.2.2.1) (
                 some true
                  ) (
                 obnd (r58.1[e73.1.toNat]?) fun (x90 : Int) =>
                 ogrd ((ile 0 x90)) (
                 obnd (a1[x90.toNat]?) fun (x92 : ByteArray × Int × Int × Int × Bool × Bool) =>
                 some (!x92.2.2.2.2.2)
                 )
                  )
                )
                 )
               )
                ) fun (r77 : Bool) =>
              oite r77 (
               some (.inr (.inr (.inr (.inr (.inr (false))))))
                ) (
               ogrd ((ile 0 e73.1)) (
               obnd (r58.1[e73.1.toNat]?) fun (x97 : Int) =>
               ogrd ((ile 0 x97)) (
               ogrd ((ilt x97 (a1.length : Int))) (
               obnd (e73.2[x97.toNat]?) fun (x100 : ByteArray × Int × Int × Int × Bool × Bool) =>
               some (.inl (((IntKind.i64.wrap (e73.1 + (1 : Int))), (e73.2.set x97.toNat (x100.1, x100.2.1, x100.2.2.1, x100.2.2.2.1, x100.2.2.2.2.1, false)))))
               )
               )
               )
                )
               ) (
              some (.inr (.inl e73.2))
               )
              ) ((0 : Int), L)
             )
theorem ex_use {β γ : Type} {x : Option β} {F : γ → β} {P : γ → Prop} {R : β → Prop} (h : ∃ y, x = some y ∧ R y) (k : ∀ y, R y → ∃ c, y = F c ∧ P c) : ∃ c, x = some (F c) ∧ P c := by
 obtain ⟨y, h1, h2⟩ := h
 obtain ⟨c, rfl, h3⟩ := k y h2
 exact ⟨c, h1, h3⟩
theorem useS {α γ : Type} {x x' : Option (α ⊕ γ)} {a : α} {f : α → Option γ} {P : γ → Prop} (hx : x' = some (.inl a)) (e : x = x') (h : ∃ r, f a = some r ∧ P r) : ∃ r, obndS x f = some r ∧ P r := by subst e; rw [hx]; exact h
theorem useR {α γ : Type} {x x' : Option (α ⊕ γ)} {y : γ} {f : α → Option γ} {P : γ → Prop} (hx : x' = some (.inr y)) (e : x = x') (h : P y) : ∃ r, obndS x f = some r ∧ P r := by subst e; rw [hx]; exact ⟨y, rfl, h⟩
theorem useB {α β : Type} {x x' : Option α} {a : α} {f : α → Option β} {P : β → Prop} (hx : x' = some a) (e : x = x') (h : ∃ r, f a = some r ∧ P r) : ∃ r, obnd x f = some r ∧ P r := by subst e; rw [hx]; exact h
structure Les (C : List Cd) (o o' : Nat → Bool) : Prop where
 le : ∀ j, j < C.length → o' j = true → o j = true
 keep : Keep C o'
def rX (C : List Cd) (o : Nat → Bool) (S : List Int) : SX → Prop
 | .inl L => ∃ o', L = up C o' ∧ Les C o o' ∧ ∀ j : Nat, j < C.length → (j : Int) ∈ S → o' j = false
 | _ => False
theorem cutX_k {N : List Nd} {C : List Cd} {i t : Nat} {o : Nat → Bool} (hV : Val N C) (hi : i < N.length) (ht : t < N.length) (hne : i ≠ t) (hle : ∀ j, j < C.length → o j = true → opC C j = true) (hK : Keep C o) :
   (∃ o', cutX N C (i : Int) (t : Int) (up C o) = some (.inl (up C o')) ∧ Les C o o' ∧ ¬ Rc C o' (fun q => q = i) t) ∨ cutX N C (i : Int) (t : Int) (up C o) = some (.inr (.inr (.inr (.inr true)))) := by
 have hn1 := hV.n1
 have hc1 := hV.c1
 unfold cutX
 rw [ogrd_fits (by simp; omega) (by simp; omega), ogrd_fits (by simp; omega) (by simp; omega), List.nil_append, List.nil_append]
 obtain ⟨⟨S, e⟩, h1, h2⟩ := f479_k hV hi ht hne
 rw [h1]
 simp only [obnd_s]
 rcases h2 with h2 | ⟨h2, h3, h4, h5⟩
 · obtain rfl : e = 12 := h2
   exact .inr rfl
 · obtain rfl : e = 0 := h2
   replace h5 : ∀ x, x ∈ S → isV C x := h5
   replace h3 : Sep C S i t := h3
   replace h4 : S.length ≤ 14 := h4
   left
   rw [show (!ieq 0 0) = false from rfl, oite_f]
   have hw : IntKind.i64.wrap ((C.length : Int) - 1) = (C.length : Int) - 1 := wr (by omega) (by omega)
   refine ex_use (R := rX C o S) (oloop_ex (R := rX C o S) (fun m (e : Int × List Cd) => e.1 = (m : Int) ∧ ∃ o', e.2 = up C o' ∧ Les C o o' ∧ ∀ j : Nat, j < C.length → (j : Int) ∈ S.take m → o' j = false) S.length ⟨rfl, o, rfl, ⟨fun _ _ h => h, hK⟩, fun j _ h => by simp at h⟩ ?_ ?_) ?_
   · intro m e hm hp
     obtain ⟨_, L⟩ := e
     obtain ⟨rfl, o', hL, hl, hS⟩ := hp
     replace hL : L = up C o' := hL
     subst hL
     have t1 : ilt (m : Int) ((S.length : Nat) : Int) = true := ilt_t (by omega)
     have t2 : ile 0 (m : Int) = true := ile_t (by omega)
     obtain ⟨j, hj, hx, hv, ho⟩ := h5 _ (List.getElem_mem hm)
     have e1 : C[j].2.2.2.2.1 = true := by rw [← hv]; unfold vlC; rw [gC_i hj]
     have e2 : C[j].2.2.2.2.2 = true := by rw [← ho]; unfold opC; rw [gC_i hj]
     left
     simp only [k0, t1, t2, oite_t, ogrd_t, Int.toNat_natCast, get_i hm, obnd_s, hx, f15_e, hw, in2 (show (0 : Int) ≤ (j : Int) ∧ (j : Int) ≤ (C.length : Int) - 1 by omega), k4, oite_f, ile_t (show (0 : Int) ≤ (j : Int) by omega), get_i hj, e1, e2, ilt_t (show (j : Int) < (C.length : Int) by omega), up_get hj, w_succ (show m < 1000000 by omega)]
     refine ⟨_, rfl, rfl, tn o' j false, up_set, ⟨fun q hq h => hl.le q hq ?_, fun q hq h => ?_⟩, fun q hq h => ?_⟩
     · unfold tn at h; split at h
       · cases h
       · exact h
     · unfold tn; split
       · rename_i hqj; subst hqj; rw [h] at hv; cases hv
       · exact hl.keep q hq h
     · unfold tn; split
       · rfl
       · rename_i hqj
         rw [List.take_succ_eq_append_getElem hm, List.mem_append] at h
         rcases h with h | h
         · exact hS q hq h
         · simp at h; omega
   · intro e hp
     obtain ⟨_, L⟩ := e
     obtain ⟨rfl, o', hL, hl, hS⟩ := hp
     replace hL : L = up C o' := hL
     subst hL
     have t1 : ilt ((S.length : Nat) : Int) ((S.length : Nat) : Int) = false := ilt_f (by omega)
     simp only [k0, t1, oite_f]
     exact ⟨_, rfl, o', rfl, hl, by rw [List.take_length] at hS; exact hS⟩
   · intro y h7
     match y, h7 with
     | .inl L, ⟨o', hL, hl, hS⟩ =>
     subst hL
     refine ⟨o', rfl, hl, fun h => h3 (h.mono (fun j hj hj2 => ?_) fun _ h => h)⟩
     unfold eX
     rw [hle j hj (hl.le j hj hj2)]
     cases hd : decide ((j : Int) ∈ S) with
     | false => rfl
     | true => rw [hS j hj (of_decide_eq_true hd)] at hj2; cases hj2
noncomputable def wetX (a0 : List Nd) (a1 L : List Cd) : Option (List Int × Int) :=
 ogrd (Nat.beq a0.length a0.length) (
 ogrd (fits 40 (([] : List (ByteArray × Bool × Int × Int)).length + a0.length)) (
 ogrd (Nat.beq a1.length L.length) (
 ogrd (fits 48 (([] : List (ByteArray × Int × Int × Int × Bool × Bool)).length + L.length)) (
 obnd (f480 (([] : List (ByteArray × Bool × Int × Int)) ++ a0) (([] : List (ByteArray × Int × Int × Int × Bool × Bool)) ++ L)) fun (y165 : (List Int) × Int) =>
 some (y165.1, y165.2)
 )
 )
 )
 )
theorem wetX_k {N : List Nd} {C : List Cd} {o : Nat → Bool} {c : Nat} (hV : Val N C) (hK : Keep C o) (hd : ¬ Wt N C o c) : ∃ l, wetX N C (up C o) = some (l, 0) ∧ f344 l (c : Int) = some false := by
 have hn1 := hV.n1
 have hc1 := hV.c1
 obtain ⟨l, h1, h2, h3⟩ := f480_k hV hK
 refine ⟨l, ?_, ?_⟩
 · unfold wetX
   rw [Nat.beq_refl, up_len, Nat.beq_refl, ogrd_t, ogrd_t, ogrd_fits (by simp; omega) (by simp; omega), ogrd_fits (by simp; omega) (by simp; omega), List.nil_append, List.nil_append, h1]; rfl
 · rw [f344_e (by omega), decide_eq_false fun h => ?_]
   obtain ⟨k, hk, h4, h5⟩ := (h3 _).1 h
   obtain rfl : c = k := by omega
   exact hd h5
structure BI (N : List Nd) (C : List Cd) (c i : Nat) (o : Nat → Bool) : Prop where
 le : ∀ j, j < C.length → o j = true → opC C j = true
 keep : Keep C o
 cut : ∀ k, k < i → lkN N k → ¬ Rc C o (fun q => q = k) (frC C c) ∧ ¬ Rc C o (fun q => q = k) (toC C c)
theorem BI.dry {N : List Nd} {C : List Cd} {c : Nat} {o : Nat → Bool} (h : BI N C c N.length o) : ¬ Wt N C o c := by
 rintro (hw | ⟨_, hw⟩)
 · obtain ⟨i, h1, h2⟩ := hw.one
   exact (h.cut i h1.1 h1).2 h2
 · obtain ⟨i, h1, h2⟩ := hw.one
   exact (h.cut i h1.1 h1).1 h2
theorem Les.no {C : List Cd} {o o' : Nat → Bool} (h : Les C o o') {S : Nat → Prop} {t : Nat} (hn : ¬ Rc C o S t) : ¬ Rc C o' S t := fun hr => hn (hr.mono h.le fun _ h => h)
theorem turn_k {N : List Nd} {C : List Cd} {o : Nat → Bool} {c u : Nat} (hV : Val N C) (hK : Keep C o) (hd : ¬ Wt N C o c) (hc : c < C.length) (hu : u < C.length) (hv : vlC C u = true) (b : Bool) (hb : b = true → ¬ (Wt N C (tn o u true) c ∧ ¬ Wt N C (tn o u false) c)) : Keep C (tn o u b) ∧ ¬ Wt N C (tn o u b) c := by
 refine ⟨fun j hj h => ?_, fun hw => ?_⟩
 · unfold tn; split
   · rename_i e; subst e; rw [h] at hv; cases hv
   · exact hK j hj h
 · have hf : ¬ Wt N C (tn o u false) c := fun h => hd (h.mono hc fun i _ hi => by
     unfold tn at hi; split at hi
     · cases hi
     · exact hi)
   cases b with
   | false => exact hf hw
   | true => exact hb rfl ⟨hw, hf⟩
set_option maxHeartbeats 1000000 in
theorem f474_true {N : List Nd} {C : List Cd} {a2 : Int} {O : List Int} : f474 N C a2 O = some true := by
  unfold f474
  rw [show f475 = some true from rfl]
  simp only [obnd_s, k4, oite_f]
  obtain ⟨b, h1, h2⟩ := f476_k (N := N) (C := C)
  rw [h1, obnd_s]
  cases b with
  | false => rfl
  | true =>
  obtain ⟨hn12, hc16, hsN, hsC⟩ := h2 rfl
  obtain ⟨x, h3, h4⟩ := f485_k hsN hsC
  unfold f477
  rw [h3]
  simp only [obnd_s, k4, oite_f]
  by_cases h0 : x.2 = 0
  rotate_left
  · rw [ieq_f h0, k5, oite_t]; rfl
  have hV := h4 h0
  have hn1 := hV.n1
  have hc0 := hV.c0
  have hc1 := hV.c1
  have hw : f15 a2 0 (IntKind.i64.wrap (((C.map e_SIIIBB).length : Int) - 1)) = some (decide (0 ≤ a2) && decide (a2 ≤ (C.length : Int) - 1)) := by rw [k0, wr (by omega) (by omega), f15_e]
  rw [ieq_t h0, k4, oite_f, hw, obnd_s]
  by_cases ha : 0 ≤ a2 ∧ a2 ≤ (C.length : Int) - 1
  rotate_left
  · have : (decide (0 ≤ a2) && decide (a2 ≤ (C.length : Int) - 1)) = false := by rw [Bool.and_eq_false_iff]; simp only [decide_eq_false_iff_not]; omega
    rw [this]; rfl
  rw [in2 ha, k4, obnd_s, oite_f]
  by_cases hO : 20 < O.length
  · rw [ilt_t (show (20 : Int) < ((O.map eI).length : Int) by rw [k0]; omega), obnd_s, oite_t]
  rw [ilt_f (show ((O.map eI).length : Int) ≤ (20 : Int) by rw [k0]; omega), obnd_s, oite_f]
  obtain ⟨c, rfl⟩ : ∃ c : Nat, a2 = (c : Int) := ⟨a2.toNat, by omega⟩
  have hc : c < C.length := by omega
  obtain ⟨hf1, hf2⟩ := fr_lt hV hc
  obtain ⟨ht1, ht2⟩ := to_lt hV hc
  rw [gC_i hc] at hf2 ht2
  have hneN : (!N.isEmpty) = true := by
    cases N with
    | nil => have := hV.n0; simp at this
    | cons _ _ => rfl
  have hneC : (!C.isEmpty) = true := by
    cases C with
    | nil => simp at hc0
    | cons _ _ => rfl
  rw [ile_t (show (0 : Int) ≤ (c : Int) by omega), ogrd_t, Int.toNat_natCast, get_i hc, obnd_s, hf2, ht2, ogrd_fits (show N.length * 40 ≤ 1099511627776 by omega) (show N.length ≤ 1099511627776 by omega), hneN, ogrd_t, ogrd_fits (show C.length * 48 ≤ 1099511627776 by omega) (show C.length ≤ 1099511627776 by omega), hneC, ogrd_t, obnd_s]
  refine ex_eq ?_
  refine obndS_ex (R := sm (fun L => ∃ o, L = up C o ∧ BI N C c N.length o) (fun b => b = true)) (oloop_ex2 (R := sm (fun L => ∃ o, L = up C o ∧ BI N C c N.length o) (fun b => b = true)) (fun i (e : Int × List Cd) => e.1 = (i : Int) ∧ ∃ o, e.2 = up C o ∧ BI N C c i o) N.length
    ⟨rfl, opC C, (up_self C).symm, fun _ _ h => h, fun j hj h => ?_, fun k h => absurd h (Nat.not_lt_zero _)⟩ ?_ ?_) ?_ (fun b h => h)
  · rcases (hV.cd j hj).vo with hv | hv
    · unfold vlC at h; rw [gC_i hj, hv] at h; cases h
    · unfold opC; rw [gC_i hj]; exact hv
  · rintro i ⟨_, L⟩ hi ⟨rfl, o, hL, hB⟩
    replace hL : L = up C o := hL
    subst hL
    dsimp only
    rw [ilt_t (show (i : Int) < ((N.map e_SBII).length : Int) by rw [k0]; omega), oite_t]
    refine obndS_ex (R := sm (fun L => ∃ o, L = up C o ∧ BI N C c (i + 1) o) (sm (fun e : Int × List Cd => e.1 = ((i + 1 : Nat) : Int) ∧ ∃ o, e.2 = up C o ∧ BI N C c (i + 1) o) (sm (fun L => ∃ o, L = up C o ∧ BI N C c N.length o) (fun b => b = true)))) ?_ (fun L h => ⟨_, rfl, by rw [w_succ (show i < 1000000 by omega)], h⟩) (fun y h => h)
    rw [ile_t (show (0 : Int) ≤ (i : Int) by omega), ogrd_t, Int.toNat_natCast, get_i hi, obnd_s]
    have hg : N.getD i (⟨#[]⟩, false, 0, 0) = N[i] := getD_i hi
    cases hb : N[i].2.1 with
    | false =>
      refine ⟨_, rfl, o, rfl, hB.le, hB.keep, fun k hk hl => ?_⟩
      rcases Nat.lt_or_ge k i with h6 | h6
      · exact hB.cut k h6 hl
      · obtain rfl : k = i := by omega
        rw [lkN, hg, hb] at hl; cases hl.2
    | true =>
      rw [k4, oite_f]
      by_cases e1 : i = frC C c
      · rw [ieq_t (show (i : Int) = (frC C c : Int) by omega)]
        exact ⟨_, rfl, rfl⟩
      by_cases e2 : i = toC C c
      · rw [ieq_t (show (i : Int) = (toC C c : Int) by omega), ieq_f (show (i : Int) ≠ (frC C c : Int) by omega)]
        exact ⟨_, rfl, rfl⟩
      rw [ieq_f (show (i : Int) ≠ (toC C c : Int) by omega), ieq_f (show (i : Int) ≠ (frC C c : Int) by omega), oite_f, obnd_s, oite_f]
      rcases cutX_k hV hi hf1 e1 hB.le hB.keep with ⟨o1, hx, hl1, hr1⟩ | hx
      rotate_left
      · exact useR hx rfl rfl
      refine useS hx rfl ?_
      rcases cutX_k hV hi ht1 e2 (fun j hj h => hB.le j hj (hl1.le j hj h)) hl1.keep with ⟨o2, hx, hl2, hr2⟩ | hx
      rotate_left
      · exact useR hx rfl rfl
      refine useS hx rfl ?_
      refine ⟨_, rfl, o2, rfl, fun j hj h => hB.le j hj (hl1.le j hj (hl2.le j hj h)), hl2.keep, fun k hk hl => ?_⟩
      rcases Nat.lt_or_ge k i with h6 | h6
      · obtain ⟨h7, h8⟩ := hB.cut k h6 hl
        exact ⟨hl2.no (hl1.no h7), hl2.no (hl1.no h8)⟩
      · obtain rfl : k = i := by omega
        exact ⟨hl2.no hr1, hr2⟩
  · rintro ⟨_, L⟩ ⟨rfl, o, hL, hB⟩
    replace hL : L = up C o := hL
    subst hL
    dsimp only
    rw [ilt_f (show ((N.map e_SBII).length : Int) ≤ ((N.length : Nat) : Int) by rw [k0]; omega), oite_f]
    exact ⟨_, rfl, o, rfl, hB⟩
  rintro _ ⟨o, rfl, hB⟩
  obtain ⟨l, h5, h6⟩ := wetX_k hV hB.keep hB.dry
  refine useB h5 rfl ?_
  dsimp only
  rw [show (!ieq 0 0) = false from rfl, oite_f, h6, obnd_s, obnd_s, oite_f]
  refine obndS_ex (R := sm (fun _ : List Cd => True) (fun b => b = true)) (oloop_ex2 (R := sm (fun _ : List Cd => True) (fun b => b = true)) (fun i (e : Int × List Cd) => e.1 = (i : Int) ∧ ∃ o, e.2 = up C o ∧ Keep C o ∧ ¬ Wt N C o c) O.length ⟨rfl, o, rfl, hB.keep, hB.dry⟩ ?_ ?_) (fun _ _ => ⟨true, rfl, rfl⟩) (fun b h => h)
  · rintro i ⟨_, L⟩ hi ⟨rfl, o, hL, hK, hd⟩
    replace hL : L = up C o := hL
    subst hL
    dsimp only
    obtain ⟨u, hu1, hu⟩ := f346_k (x := O[i]) (n := C.length) hc0 (by omega)
    have hu1' : f346 O[i] ((C.map e_SIIIBB).length : Int) = some (u : Int) := by rw [k0]; exact hu1
    rw [ilt_t (show (i : Int) < ((O.map eI).length : Int) by rw [k0]; omega), oite_t, ile_t (show (0 : Int) ≤ (i : Int) by omega), ogrd_t, Int.toNat_natCast, get_i hi, obnd_s, hu1', obnd_s, ile_t (show (0 : Int) ≤ (u : Int) by omega), ogrd_t, Int.toNat_natCast, get_i hu, obnd_s, w_succ (show i < 1000000 by omega)]
    have e1 : C[u].2.2.2.2.1 = vlC C u := by unfold vlC; rw [gC_i hu]
    rw [e1]
    cases hv : vlC C u with
    | false => exact ⟨_, rfl, rfl, o, rfl, hK, hd⟩
    | true =>
      rw [k4, oite_f]
      have key : ∀ b, (b = true → ¬ (Wt N C (tn o u true) c ∧ ¬ Wt N C (tn o u false) c)) → ∃ o', (up C o).set u ((upx C o u).1, (upx C o u).2.1, (upx C o u).2.2.1, (upx C o u).2.2.2.1, (upx C o u).2.2.2.2.1, b) = up C o' ∧ Keep C o' ∧ ¬ Wt N C o' c := fun b hb =>
        ⟨tn o u b, up_set, turn_k hV hK hd hc hu hv b hb⟩
      refine obndS_ex (R := sm (fun L => ∃ o, L = up C o ∧ Keep C o ∧ ¬ Wt N C o c) (fun _ => False)) ?_ ?_ (fun _ h => h.elim)
      · rw [ilt_t (show (u : Int) < (C.length : Int) by omega), ogrd_t, up_get hu, obnd_s]
        cases ho : (upx C o u).2.2.2.2.2 with
        | true =>
          rw [oite_t]
          exact ⟨_, rfl, key false (fun h => by cases h)⟩
        | false =>
          rw [oite_f]
          obtain ⟨l, h7, h8, h9⟩ := f481_k hV hK hu hv
          rw [Nat.beq_refl, up_len, Nat.beq_refl, ogrd_t, ogrd_t, ogrd_fits (show (([] : List Nd).length + N.length) * 40 ≤ 1099511627776 by simp; omega) (show ([] : List Nd).length + N.length ≤ 1099511627776 by simp; omega), ogrd_fits (show (([] : List Cd).length + C.length) * 48 ≤ 1099511627776 by simp; omega) (show ([] : List Cd).length + C.length ≤ 1099511627776 by simp; omega), List.nil_append, List.nil_append, h7, obnd_s, obnd_s]
          dsimp only
          rw [show (!ieq 0 0) = false from rfl, oite_f, f344_e (by omega), obnd_s]
          refine ⟨_, rfl, key _ fun hb hw => ?_⟩
          have : (c : Int) ∈ l := (h9 _).2 ⟨c, hc, rfl, hw⟩
          rw [decide_eq_true this] at hb; cases hb
      · rintro _ ⟨o', rfl, hK', hd'⟩
        obtain ⟨l, h5, h6⟩ := wetX_k hV hK' hd'
        refine useB h5 rfl ?_
        dsimp only
        rw [show (!ieq 0 0) = false from rfl, oite_f, h6, obnd_s, obnd_s, oite_f]
        exact ⟨_, rfl, rfl, o', rfl, hK', hd'⟩
  · rintro ⟨_, L⟩ ⟨rfl, o, hL, hK, hd⟩
    dsimp only
    rw [ilt_f (show ((O.map eI).length : Int) ≤ ((O.length : Nat) : Int) by rw [k0]; omega), oite_f]
    exact ⟨_, rfl, trivial⟩
end
end Go.Proofs.Ytjnpdnlgkepmcaa.AM
