/- Slices of structures in a block of their own: loads, stores, the block becomes known for good. Conditions: none. -/
import Derived.Test.YtjnpdnlgkepmcaaAmLift4
namespace Go.Proofs.Ytjnpdnlgkepmcaa.AM
set_option linter.unusedSimpArgs false
set_option linter.unusedVariables false
open Go Go.RowKit
section
variable {α β : Type} {v : β} {f : α → Value} {z : Nat}
class Sz (f : α → Value) (z : outParam Nat) : Prop where
 sz : ∀ x, (f x).cells.toList.length = z
 one : ∀ x u, u ∈ (f x).cells.toList → u.oneCell' = true
 agg : ∀ x, f x = .agg ⟨(f x).cells.toList⟩
 cl : ∀ x u, u ∈ (f x).cells.toList → Clo u
theorem flatS_len [h : Sz f z] : ∀ {l : List α}, (flat (l.map f)).length = l.length * z
  | [] => by simp [flat]
  | x :: r => by
    simp only [List.map_cons, flat, List.length_append, List.length_cons]
    rw [h.sz, flatS_len, Nat.succ_mul]; omega
theorem flatS_drop [h : Sz f z] : ∀ {l : List α} {n : Nat}, (flat (l.map f)).drop (n * z) = flat ((l.drop n).map f)
  | l, 0 => by simp
  | [], n + 1 => by simp [flat]
  | x :: r, n + 1 => by
    simp only [List.map_cons, flat, List.drop_succ_cons]
    rw [List.drop_append, h.sz, List.drop_of_length_le (by rw [h.sz, Nat.succ_mul]; omega), List.nil_append, show (n + 1) * z - z = n * z by rw [Nat.succ_mul]; omega, flatS_drop]
theorem flatS_take [h : Sz f z] {l : List α} {n : Nat} {x : α} (hx : l[n]? = some x) : ((flat (l.map f)).drop (n * z)).take z = (f x).cells.toList := by
 rw [flatS_drop]
 obtain ⟨hn, rfl⟩ := List.getElem?_eq_some_iff.1 hx
 rw [List.drop_eq_getElem_cons hn, List.map_cons, flat, List.take_append, h.sz, List.take_of_length_le (by rw [h.sz]; omega)]
 simp
theorem flatS_at [h : Sz f z] {l : List α} {n j : Nat} {x : α} (hx : l[n]? = some x) (hj : j < z) : (flat (l.map f))[n * z + j]? = (f x).cells.toList[j]? := by
 rw [← flatS_take hx, List.getElem?_take, if_pos hj, List.getElem?_drop]
theorem flatS_in [h : Sz f z] {l : List α} {u : Value} (hu : u ∈ flat (l.map f)) : ∃ x, u ∈ (f x).cells.toList := by
  induction l with
  | nil => cases hu
  | cons x r ih =>
    rw [List.map_cons, flat, List.mem_append] at hu
    rcases hu with hu | hu
    · exact ⟨x, hu⟩
    · exact ih hu
instance [h : Sz f z] {l : List α} : ClL (flat (l.map f)) := ⟨fun u hu => by
 obtain ⟨x, hx⟩ := flatS_in hu; exact h.cl x u hx⟩
theorem oneL_of : ∀ {l : List Value}, (∀ v, v ∈ l → v.oneCell' = true) → oneL l = true
  | [], _ => rfl
  | v :: r, h => by
    simp only [oneL, Bool.and_eq_true]
    exact ⟨h v List.mem_cons_self, oneL_of fun u hu => h u (List.mem_cons_of_mem _ hu)⟩
theorem oneL_flat [h : Sz f z] {l : List α} : oneL (flat (l.map f)) = true := oneL_of fun u hu => by
 obtain ⟨x, hx⟩ := flatS_in hu; exact h.one x u hx
theorem flatS_set [h : Sz f z] {j : Nat} {u : Value} {y : α} : ∀ {l : List α} {n : Nat} {x : α}, l[n]? = some x → j < z → (f y).cells.toList = (f x).cells.toList.set j u → (flat (l.map f)).set (n * z + j) u = flat ((l.set n y).map f)
  | [], n, x, hx, _, _ => by simp at hx
  | w :: r, 0, x, hx, hj, hy => by
    simp at hx; subst hx
    simp only [List.map_cons, flat, List.set_cons_zero, Nat.zero_mul, Nat.zero_add]
    rw [List.set_append_left _ _ (by rw [h.sz]; exact hj), hy]
  | w :: r, n + 1, x, hx, hj, hy => by
    simp only [List.map_cons, flat, List.set_cons_succ]
    rw [List.set_append_right _ _ (by rw [h.sz, Nat.succ_mul]; omega), h.sz, show (n + 1) * z + j - z = n * z + j by rw [Nat.succ_mul]; omega, flatS_set (by simpa using hx) hj hy]
theorem set_st [h : Sz f z] {l : List α} {n : Nat} {j : Nat} {x y : α} {u : Value} {K : List Value → Prop} (hx : l[n]? = some x) (hj : Nat.blt j z = true) (h1 : u.oneCell' = true) (hy : (f y).cells.toList = (f x).cells.toList.set j u) (hk : K (flat ((l.set n y).map f))) :
  pbr (Nat.ble (0 + n * z + j + 1) (flat (l.map f)).length) (pbr (oneL [u]) (fS (setCells (flat (l.map f)) (0 + n * z + j) [u]) K) False) False := by
 have hn := (List.getElem?_eq_some_iff.1 hx).1
 have hj := Nat.blt_eq.mp hj
 have hm := Nat.mul_le_mul_right z (show n + 1 ≤ l.length from hn)
 rw [Nat.succ_mul] at hm
 rw [flatS_len, show Nat.ble (0 + n * z + j + 1) (l.length * z) = true from Nat.ble_eq.mpr (by omega), show oneL [u] = true by simp [oneL, h1]]
 show fS _ K
 rw [fS_eq]
 simp only [setCells]
 rw [Nat.zero_add, flatS_set hx hj hy]; exact hk
theorem nth_st [h : Sz f z] {l : List α} {n j : Nat} {x : α} {u : Value} {K : Value → Prop} (hx : l[n]? = some x) (hj : Nat.blt j z = true) (hu : (f x).cells.toList[j]? = some u) (hk : K u) : obind (nthv (flat (l.map f)) (0 + n * z + j)) K := by
 refine obind_intro ?_ hk
 rw [nthv_eq, Nat.zero_add, flatS_at hx (Nat.blt_eq.mp hj), hu]
theorem Fz.sls [h : Sz f z] {h0 : AHeap} {D : Nat → Bool} {n b m k : Nat} {l : List α} (hz : Nat.blt 0 z = true) (hD : D b = true) (hg : h0.get b = some (.rw (flat (l.map f)))) (hm : Nat.beq m l.length = true) : Fz h0 D n (.slice (some ⟨b, 0, none⟩) m k) (VS z (l.map f)) := by
 obtain rfl := Nat.eq_of_beq_eq_true hm
 have hz := Nat.blt_eq.mp hz
 have key : ∀ (i j : Nat) (e u' : Value), (l.map f)[i]? = some e → e.cells[j]? = some u' → u'.oneCell' = true ∧ Clo u' ∧ (flat (l.map f))[0 + (i * z + j)]? = some u' := by
   intro i j e u' he hu
   rw [List.getElem?_map] at he
   obtain ⟨x, hx, rfl⟩ := Option.map_eq_some_iff.1 he
   have hu' : (f x).cells.toList[j]? = some u' := by rw [Array.getElem?_toList]; exact hu
   have hj : j < z := by rw [← h.sz x]; exact (List.getElem?_eq_some_iff.1 hu').1
   have hmem := List.mem_of_getElem? hu'
   exact ⟨h.one x u' hmem, h.cl x u' hmem, by rw [Nat.zero_add, flatS_at hx hj]; exact hu'⟩
 refine .sl b 0 l.length k z _ (l.map f) hD hg hz (by simp) (by rw [flatS_len]; omega) (fun i e he => ?_) (fun i j e u' he hu => ?_) (fun i j e u u' he hu' hu => ?_)
 · rw [List.getElem?_map] at he
   obtain ⟨x, hx, rfl⟩ := Option.map_eq_some_iff.1 he
   rw [← Array.length_toList]; exact h.sz x
 · obtain ⟨h1, _, h3⟩ := key i j e u' he hu
   exact ⟨h1, u', h3⟩
 · obtain ⟨_, h2, h3⟩ := key i j e u' he hu'
   rw [hu] at h3; injection h3 with h3; subst h3
   exact .same _ h2.bnd
end
theorem ICalls.goS {α : Type} {f : α → Value} {z : Nat} [hf : Sz f z] {E : Env} {key : Nat} {us us' : List Value} {c : Nat} {l : List α} [hus : ClL us']
  (H : ICalls E key us' AHeap.none fun v h' => ∃ b, v = .slice (some ⟨b, 0, none⟩) l.length c ∧ h'.get b = some (.rw (flat (l.map f)))) (hw : WkL us us') {h : AHeap} {Q : Value → AHeap → Prop}
  (hq : Q (.slice (some ⟨h.next, 0, none⟩) l.length c) (h.alloc (.rw (flat (l.map f))))) : PCalls E key us h Q :=
 ⟨ICalls.weak (ICalls.use2 (ICallV.new (.func _ [] [] (fun v h => by cases h) (fun v h => by cases h)) hus.out (ClL.out (l := flat (l.map f))) H h) hq) hw⟩
theorem Recast.wkrowl {K n b : Nat} {m : Bool} {t : List (Nat × Value)} {l l2 : List (Nat × AObj)} {c c2 : List Value} (hK : K ≤ n) (hb : AHeap.get ⟨n, l, m⟩ b = some (.rw c)) (he : (⟨n, l2, m⟩ : AHeap) = (AHeap.mk n l m).put b (.rw c2)) (h1 : oneL c2 = true) (hw : WkL c c2) : Recast K ⟨t, ⟨n, l, m⟩⟩ ⟨t, ⟨n, l2, m⟩⟩ :=
 Recast.wkrow hK hb he (by rw [hw.len]; exact Nat.le_refl _) fun i u' hu => ⟨oneL_at h1 hu, by
  have hi : i < c2.length := (List.getElem?_eq_some_iff.1 hu).1
  rw [← hw.len] at hi
  exact ⟨c[i], List.getElem?_eq_getElem hi, hw.at i _ _ (List.getElem?_eq_getElem hi) hu⟩⟩
end Go.Proofs.Ytjnpdnlgkepmcaa.AM
