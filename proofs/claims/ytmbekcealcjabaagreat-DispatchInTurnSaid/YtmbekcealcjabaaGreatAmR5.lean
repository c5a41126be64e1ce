/- Plain laws of chapter 8: the group that proves the best order. Conditions: none. -/
import Derived.Test.YtmbekcealcjabaaGreatAmR1
namespace Go.Proofs.YtmbekcealcjabaaGreat.AM
section
set_option linter.unusedSimpArgs false
set_option linter.unusedVariables false
open Go Go.RowKit

def dR (l : Rv) (x : Int) : Int := (gr l x.toNat).2.1
def pR (l : Rv) (x : Int) : Int := (gr l x.toNat).2.2
def inR (l : Rv) (o : List Int) : Prop := ∀ x, x ∈ o → 0 ≤ x ∧ x < l.length
theorem inR_get {l : Rv} {x : Int} (h : 0 ≤ x ∧ x < l.length) : l[x.toNat]? = some (gr l x.toNat) := get_gr (by omega)
theorem dR_le {l : Rv} (ok : okR l) {x : Int} (h : 0 ≤ x ∧ x < l.length) : 0 ≤ dR l x ∧ dR l x ≤ 100000 := (ok.row x.toNat (by omega)).1
theorem pR_le {l : Rv} (ok : okR l) {x : Int} (h : 0 ≤ x ∧ x < l.length) : 1 ≤ pR l x ∧ pR l x ≤ 100000 := (ok.row x.toNat (by omega)).2
theorem oloop_done' {τ ρ : Type} {g : τ → Option (τ ⊕ ρ)} {e : τ} {r : ρ} (h : g e = some (.inr r)) : oloop g e = some r := oloop_done h

/-- One element goes to its place among those before it (the last first). -/
def insR (D : Int → Int) : List Int → Int → List Int
  | [], a => [a]
  | b :: rp, a => if D a < D b then insR D rp a ++ [b] else rp.reverse ++ [b, a]
def sG (a0 : Rv) (n : Nat) (lo : Int) (e19 : Int × List Int) : Option ((Int × List Int) ⊕ List Int) :=
         oite ((ilt lo e19.1)) (
          ogrd ((ile 0 e19.1)) (
          ogrd ((ilt e19.1 (n : Int))) (
          obnd (e19.2[e19.1.toNat]?) fun (x25 : Int) =>
          ogrd ((ile 0 (IntKind.i64.wrap (e19.1 - (1 : Int))))) (
          ogrd ((ilt (IntKind.i64.wrap (e19.1 - (1 : Int))) (n : Int))) (
          obnd (e19.2[(IntKind.i64.wrap (e19.1 - (1 : Int))).toNat]?) fun (x30 : Int) =>
          ogrd ((ile 0 x25)) (
          obnd (a0[x25.toNat]?) fun (x34 : ByteArray × Int × Int) =>
          ogrd ((ile 0 x30)) (
          obnd (a0[x30.toNat]?) fun (x36 : ByteArray × Int × Int) =>
          oite ((ilt (IntKind.i64.wrap (x34.2.1 - x36.2.1)) (0 : Int))) (
           obnd (e19.2[(IntKind.i64.wrap (e19.1 - (1 : Int))).toNat]?) fun (x38 : Int) =>
           obnd (e19.2[e19.1.toNat]?) fun (x41 : Int) =>
           ogrd (Nat.blt e19.1.toNat e19.2.length) (
           ogrd (Nat.blt (IntKind.i64.wrap (e19.1 - (1 : Int))).toNat (e19.2.set e19.1.toNat x38).length) (
           some (.inl (((IntKind.i64.wrap (e19.1 - (1 : Int))), ((e19.2.set e19.1.toNat x38).set (IntKind.i64.wrap (e19.1 - (1 : Int))).toNat x41))))
           )
           )
            ) (
           some (.inr (e19.2))
            )
          )
          )
          )
          )
          )
          )
           ) (
          some (.inr (e19.2))
           )
theorem ins_in {l : Rv} (ok : okR l) {n : Nat} (hn : n ≤ 8) : ∀ (rp : List Int) (a : Int) (q : List Int), (rp.length + 1 + q.length = n) → inR l (a :: rp) →
    oloop (sG l n 0) ((rp.length : Int), rp.reverse ++ a :: q) = some (insR (dR l) rp a ++ q)
  | [], a, q, hl, hi => by
    refine oloop_done ?_
    unfold sG insR
    simp (disch := omega) only [obnd_s, obnd_n, oite_ss, oite_t, oite_f, ogrd_t, ogrd_f, obndS_l, obndS_r, ilt_eq, ile_eq, ieq_eq, imax_e, imin_e, k0, k1, k2, k3, k4, k5, k6, k7, k8, k9, reduceIte, k10, k11, k12, k13, k14, k15, k16, k17, k18, k19, k20, k21, k22, k23, k24, k25, k26, k27, k28, Int.lt_irrefl]; rfl
  | b :: rp, a, q, hl, hi => by
    have ha := hi a (by simp)
    have hb := hi b (by simp)
    have hda := dR_le ok ha
    have hdb := dR_le ok hb
    have hlen : (rp.length + 1 : Nat) < n := by simp at hl; omega
    have hy : (b :: rp).reverse ++ a :: q = rp.reverse ++ b :: a :: q := by simp
    have g1 : (rp.reverse ++ b :: a :: q)[rp.length + 1]? = some a := by
      rw [List.getElem?_append_right (by simp)]; simp
    have g2 : (rp.reverse ++ b :: a :: q)[rp.length]? = some b := by
      rw [List.getElem?_append_right (by simp)]; simp
    have e1 : ((rp.length + 1 : Nat) : Int) - 1 = (rp.length : Int) := by omega
    have hw : IntKind.i64.wrap (((rp.length + 1 : Nat) : Int) - 1) = (rp.length : Int) := by rw [e1]; exact wr (by omega) (by omega)
    have s1 : ((rp.reverse ++ b :: a :: q).set (rp.length + 1) b).set rp.length a = rp.reverse ++ a :: b :: q := by
      rw [List.set_append_right _ _ (by simp), List.set_append_right _ _ (by simp)]; simp
    have hwd : IntKind.i64.wrap (dR l a - dR l b) = dR l a - dR l b := wr (by omega) (by omega)
    rw [hy, show ((b :: rp).length : Int) = ((rp.length + 1 : Nat) : Int) by simp]
    have key : sG l n 0 (((rp.length + 1 : Nat) : Int), rp.reverse ++ b :: a :: q) = if dR l a < dR l b then some (.inl ((rp.length : Int), rp.reverse ++ a :: b :: q)) else some (.inr (rp.reverse ++ b :: a :: q)) := by
      unfold sG
      have t1 : ilt 0 ((rp.length + 1 : Nat) : Int) = true := ilt_t (by omega)
      have t2 : ile 0 ((rp.length + 1 : Nat) : Int) = true := ile_t (by omega)
      have t3 : ilt ((rp.length + 1 : Nat) : Int) (n : Int) = true := ilt_t (by omega)
      have t4 : ile 0 (rp.length : Int) = true := ile_t (by omega)
      have t5 : ilt (rp.length : Int) (n : Int) = true := ilt_t (by omega)
      have t6 : ile 0 a = true := ile_t ha.1
      have t7 : ile 0 b = true := ile_t hb.1
      have t8 : Nat.blt (rp.length + 1) (rp.reverse ++ b :: a :: q).length = true := by rw [Nat.blt_eq]; simp
      have t9 : Nat.blt rp.length ((rp.reverse ++ b :: a :: q).set (rp.length + 1) b).length = true := by rw [Nat.blt_eq]; simp
      simp only [hw, t1, t2, t3, t4, t5, oite_t, ogrd_t, Int.toNat_natCast, g1, g2, obnd_s, t6, t7, inR_get ha, inR_get hb, t8, t9, s1]
      rw [show (gr l a.toNat).2.1 - (gr l b.toNat).2.1 = dR l a - dR l b from rfl, hwd, ilt_eq, oite_e]
      by_cases h : dR l a < dR l b
      · rw [if_pos h, if_pos (by simp; omega)]
      · rw [if_neg h, if_neg (by simp; omega)]
    by_cases h : dR l a < dR l b
    · rw [if_pos h] at key
      rw [oloop_step key, show rp.reverse ++ a :: b :: q = rp.reverse ++ a :: (b :: q) from rfl, ins_in ok hn rp a (b :: q) (by simp at hl ⊢; omega) (fun x hx => hi x (by simp at hx ⊢; rcases hx with h | h <;> simp [h]))]
      simp [insR, h]
    · rw [if_neg h] at key
      rw [oloop_done key]
      simp [insR, h]
theorem insR_perm (D : Int → Int) : ∀ (rp : List Int) (a : Int), (insR D rp a).Perm (a :: rp)
  | [], a => .refl _
  | b :: rp, a => by
    unfold insR
    split
    · exact ((insR_perm D rp a).append_right [b]).trans (by simp)
    · refine (List.perm_append_comm (l₁ := rp.reverse) (l₂ := [b, a])).trans ?_
      refine (List.Perm.swap a b rp.reverse).trans ?_
      exact (List.Perm.cons a (List.Perm.cons b (List.reverse_perm rp)))
def srtd (D : Int → Int) (l : List Int) : Prop := l.Pairwise fun x y => D x ≤ D y
theorem insR_srt (D : Int → Int) : ∀ (rp : List Int) (a : Int), srtd D rp.reverse → srtd D (insR D rp a)
  | [], a, _ => by simp [insR, srtd]
  | b :: rp, a, h => by
    unfold srtd at h ⊢
    rw [List.reverse_cons, List.pairwise_append] at h
    obtain ⟨h1, _, h3⟩ := h
    unfold insR
    split
    · rename_i hlt
      rw [List.pairwise_append]
      refine ⟨insR_srt D rp a h1, by simp, fun x hx y hy => ?_⟩
      simp at hy; subst hy
      have := (insR_perm D rp a).mem_iff.1 hx
      simp at this
      rcases this with rfl | hm
      · omega
      · exact h3 x (by simpa using hm) y (by simp)
    · rename_i hge
      rw [List.pairwise_append]
      refine ⟨h1, by simp; omega, fun x hx y hy => ?_⟩
      have hb := h3 x hx b (by simp)
      simp at hy
      rcases hy with rfl | rfl <;> omega
/-- So many sorted, the rest to come. -/
def srtF (D : Int → Int) : List Int → List Int → List Int
  | p, [] => p
  | p, a :: q => srtF D (insR D p.reverse a) q
theorem srtF_perm (D : Int → Int) : ∀ (q p : List Int), (srtF D p q).Perm (p ++ q)
  | [], p => by simp [srtF]
  | a :: q, p => by
    unfold srtF
    refine (srtF_perm D q _).trans ?_
    refine ((insR_perm D p.reverse a).append_right q).trans ?_
    simp only [List.cons_append]
    refine (List.Perm.cons a ((List.reverse_perm p).append_right q)).trans ?_
    exact List.perm_middle.symm
theorem srtF_srt (D : Int → Int) : ∀ (q p : List Int), srtd D p → srtd D (srtF D p q)
  | [], p, h => h
  | a :: q, p, h => by
    unfold srtF
    exact srtF_srt D q _ (insR_srt D _ a (by simpa using h))
theorem insR_len (D : Int → Int) (rp : List Int) (a : Int) : (insR D rp a).length = rp.length + 1 := by rw [(insR_perm D rp a).length_eq]; rfl
/-- byDue. -/
def byD (l : Rv) (o : List Int) : List Int := match o with
  | [] => []
  | a :: q => srtF (dR l) [a] q
theorem byD_perm (l : Rv) (o : List Int) : (byD l o).Perm o := by
  cases o with
  | nil => exact .refl _
  | cons a q => exact srtF_perm _ q [a]
theorem byD_srt (l : Rv) (o : List Int) : srtd (dR l) (byD l o) := by
  cases o with
  | nil => simp [byD, srtd]
  | cons a q => exact srtF_srt _ q [a] (by simp [srtd])
theorem f73_e {o : List Int} (h : o ≠ []) (hl : o.length ≤ 1000000000) : f73 o = some o := by
  cases o with
  | nil => exact absurd rfl h
  | cons a r =>
    show (if fits 8 (a :: r).length = true then some (a :: r) else none) = _
    rw [if_pos (fits_t (by omega) (by omega))]
theorem f227_e {l : Rv} (ok : okR l) {o : List Int} (hi : inR l o) (hl : o.length ≤ 8) : f227 l o = some (byD l o) := by
  cases o with
  | nil => rfl
  | cons a q =>
    show So.f227 l (a :: q) = _
    unfold So.f227
    rw [f73_e (by simp) (by omega), obnd_s]
    refine (obnd_of (a := ((0 : Int), a :: q)) (oloop_done ?_)).trans ?_
    · have : ile 20 (((a :: q).length : Nat) : Int) = false := by rw [ile_eq]; simp at hl ⊢; omega
      simp only [this, oite_f]
    have gen : ∀ (q p : List Int), p.length + q.length = (a :: q).length → True := fun _ _ _ => trivial
    clear gen
    generalize hn : (a :: q).length = n at *
    have main : ∀ (r p : List Int), p.length + r.length = n → inR l (p ++ r) → ∀ g : Int × List Int → Option ((Int × List Int) ⊕ List Int),
        (∀ p a r, p.length + (r.length + 1) = n → inR l (p ++ a :: r) → g ((p.length : Int), p ++ a :: r) = some (.inl (((p.length + 1 : Nat) : Int), insR (dR l) p.reverse a ++ r))) → (∀ p, p.length = n → g ((n : Int), p) = some (.inr p)) → oloop g ((p.length : Int), p ++ r) = some (srtF (dR l) p r) := by
      intro r
      induction r with
      | nil =>
        intro p hp _ g h1 h2
        simp at hp; subst hp
        rw [List.append_nil, oloop_done (h2 p rfl)]; rfl
      | cons b r ih =>
        intro p hp hin g h1 h2
        rw [oloop_step (h1 p b r hp hin)]
        have hlen := insR_len (dR l) p.reverse b
        simp at hlen
        have := ih (insR (dR l) p.reverse b) (by simp at hp; omega) (fun x hx => hin x (by
          rw [List.mem_append] at hx ⊢
          rcases hx with hx | hx
          · have := (insR_perm (dR l) p.reverse b).mem_iff.1 hx
            simp at this ⊢
            rcases this with h | h <;> simp [h]
          · right; simp [hx])) g h1 h2
        rw [hlen] at this
        exact this
    have := main q [a] (by simp at hn ⊢; omega) (by simpa using hi)
    refine this _ ?_ ?_
    · intro p b r hp hin
      have t1 : ilt (p.length : Int) (n : Int) = true := ilt_t (by omega)
      simp only [t1, oite_t]
      refine (obnd_of (a := insR (dR l) p.reverse b ++ r) ?_).trans ?_
      · have := ins_in ok (n := n) (by omega) p.reverse b r (by simp; omega) (fun x hx => hin x (by simp at hx ⊢; rcases hx with h | h <;> simp [h]))
        rw [List.length_reverse, List.reverse_reverse] at this
        exact this
      · rw [wr (by omega) (by omega)]; rfl
    · intro p hp
      have t1 : ilt (n : Int) (n : Int) = false := ilt_f (by omega)
      simp only [t1, oite_f]
      have t2 : ilt 20 (n : Int) = false := ilt_f (by omega)
      rw [oloop_done (r := p)]
      · rfl
      · simp only [t2, oite_f, hp, Nat.beq_refl, ogrd_t]; rfl
end
section
set_option linter.unusedSimpArgs false
set_option linter.unusedVariables false
open Go Go.RowKit

/-! ### Plain lists -/
def late (D P : Int → Int) : List Int → Int → Int
  | [], _ => -200000
  | i :: r, d => max (d + P i - D i) (late D P r (d + P i))
def sP (P : Int → Int) : List Int → Int
  | [] => 0
  | i :: r => P i + sP P r
theorem sP_app (P : Int → Int) : ∀ (x y : List Int), sP P (x ++ y) = sP P x + sP P y
  | [], y => by simp [sP]
  | a :: x, y => by simp only [List.cons_append, sP, sP_app P x y]; omega
theorem sP_perm (P : Int → Int) {x y : List Int} (h : x.Perm y) : sP P x = sP P y := by
  induction h with
  | nil => rfl
  | cons a _ ih => simp only [sP, ih]
  | swap a b l => simp only [sP]; omega
  | trans _ _ h1 h2 => exact h1.trans h2
theorem late_min (D P : Int → Int) : ∀ (o : List Int) (d : Int), -200000 ≤ late D P o d
  | [], d => by simp [late]
  | i :: r, d => by have := late_min D P r (d + P i); simp only [late]; omega
theorem late_app (D P : Int → Int) : ∀ (x y : List Int) (d : Int), late D P (x ++ y) d = max (late D P x d) (late D P y (d + sP P x))
  | [], y, d => by have := late_min D P y d; simp only [List.nil_append, late, sP, Int.add_zero]; omega
  | i :: x, y, d => by
    simp only [List.cons_append, late, sP, late_app D P x y]
    rw [show d + (P i + sP P x) = d + P i + sP P x by omega]; omega
theorem late_swap (D P : Int → Int) {a b : Int} {r : List Int} {d : Int} (h : D a ≤ D b) (ha : 0 ≤ P a) (hb : 0 ≤ P b) : late D P (a :: b :: r) d ≤ late D P (b :: a :: r) d := by
  simp only [late]
  rw [show d + P b + P a = d + P a + P b by omega]; omega
theorem late_front (D P : Int → Int) {a : Int} : ∀ (x y : List Int) (d : Int), (∀ b, b ∈ x → D a ≤ D b ∧ 0 ≤ P b) → 0 ≤ P a → late D P (a :: (x ++ y)) d ≤ late D P (x ++ a :: y) d
  | [], y, d, _, _ => by simp
  | b :: x, y, d, h, ha => by
    refine Int.le_trans (late_swap D P (r := x ++ y) (h b (by simp)).1 ha (h b (by simp)).2) ?_
    have := late_front D P x y (d + P b) (fun c hc => h c (by simp [hc])) ha
    simp only [List.cons_append]
    unfold late
    omega
theorem edd (D P : Int → Int) : ∀ (s o : List Int) (d : Int), srtd D s → s.Perm o → (∀ x, x ∈ s → 0 ≤ P x) → late D P s d ≤ late D P o d
  | [], o, d, _, hp, _ => by rw [List.nil_perm.1 hp]; exact Int.le_refl _
  | a :: s, o, d, hs, hp, h0 => by
    unfold srtd at hs
    rw [List.pairwise_cons] at hs
    obtain ⟨x, y, rfl⟩ := List.append_of_mem (hp.mem_iff.1 (by simp : a ∈ a :: s))
    have hp2 : s.Perm (x ++ y) := (hp.trans List.perm_middle).cons_inv
    refine Int.le_trans ?_ (late_front D P x y d (fun b hb => ?_) (h0 a (by simp)))
    · have := edd D P s (x ++ y) (d + P a) hs.2 hp2 (fun z hz => h0 z (by simp [hz]))
      unfold late; omega
    · have hb2 : b ∈ s := hp2.mem_iff.2 (by simp [hb])
      exact ⟨hs.1 b hb2, h0 b (by simp [hb2])⟩
/-- No order is less late than a group's bound. -/
theorem late_bound (D P : Int → Int) (q : Int → Bool) (M : Int) : ∀ (o : List Int) (d : Int), (∀ x, x ∈ o → 0 ≤ P x) → (∀ x, x ∈ o → q x = true → D x ≤ M) → (∃ x, x ∈ o ∧ q x = true) → d + sP P (o.filter q) - M ≤ late D P o d
  | [], d, _, _, h => by obtain ⟨x, hx, _⟩ := h; cases hx
  | i :: r, d, h0, hM, h => by
    have hi := h0 i (by simp)
    by_cases hr : ∃ x, x ∈ r ∧ q x = true
    · have := late_bound D P q M r (d + P i) (fun x hx => h0 x (by simp [hx])) (fun x hx => hM x (by simp [hx])) hr
      unfold late
      cases hq : q i with
      | true => rw [List.filter_cons_of_pos hq]; simp only [sP]; omega
      | false => rw [List.filter_cons_of_neg (by simp [hq])]; omega
    · have hq : q i = true := by
        obtain ⟨x, hx, hxq⟩ := h
        rw [List.mem_cons] at hx
        rcases hx with rfl | hx
        · exact hxq
        · exact absurd ⟨x, hx, hxq⟩ hr
      have hn : r.filter q = [] := by
        rw [List.filter_eq_nil_iff]
        intro x hx hxq
        exact hr ⟨x, hx, hxq⟩
      rw [List.filter_cons_of_pos hq, hn]
      have := hM i (by simp) hq
      simp only [sP, late]; omega
/-- As many as there are, all of them different: the same ones. -/
theorem perm_of_sub : ∀ (o E : List Int), o.Nodup → (∀ x, x ∈ o → x ∈ E) → E.length ≤ o.length → o.Perm E
  | [], E, _, _, h => by
    have : E = [] := List.eq_nil_of_length_eq_zero (by simpa using h)
    rw [this]
  | a :: o, E, hn, hs, hl => by
    obtain ⟨x, y, rfl⟩ := List.append_of_mem (hs a (by simp))
    rw [List.nodup_cons] at hn
    have := perm_of_sub o (x ++ y) hn.2 (fun z hz => by
      have := hs z (by simp [hz])
      simp at this ⊢
      rcases this with h | rfl | h
      · exact .inl h
      · exact absurd hz hn.1
      · exact .inr h) (by simp at hl ⊢; omega)
    exact (List.Perm.cons a this).trans List.perm_middle.symm
def evr (n : Nat) : List Int := (List.range n).map fun (i : Nat) => (i : Int)
theorem evr_len (n : Nat) : (evr n).length = n := by simp [evr]
theorem evr_mem {n : Nat} {x : Int} : x ∈ evr n ↔ 0 ≤ x ∧ x < n := by
  unfold evr
  rw [List.mem_map]
  constructor
  · rintro ⟨i, hi, rfl⟩; simp at hi; omega
  · intro h; exact ⟨x.toNat, by simp; omega, by omega⟩
theorem nodup_mapI : ∀ {l : List Nat}, l.Nodup → (l.map fun (i : Nat) => (i : Int)).Nodup
  | [], _ => by simp
  | a :: l, h => by
    rw [List.nodup_cons] at h
    rw [List.map_cons, List.nodup_cons]
    refine ⟨fun hm => ?_, nodup_mapI h.2⟩
    obtain ⟨b, hb, e⟩ := List.mem_map.1 hm
    have : b = a := by omega
    subst this; exact h.1 hb
theorem evr_nodup (n : Nat) : (evr n).Nodup := nodup_mapI List.nodup_range
theorem evr_inR (l : Rv) : inR l (evr l.length) := fun x hx => evr_mem.1 hx
theorem inR_perm {l : Rv} {o p : List Int} (h : o.Perm p) (hi : inR l p) : inR l o := fun x hx => hi x (h.mem_iff.1 hx)
theorem perm_evr {n : Nat} {o : List Int} (hl : o.length = n) (hn : o.Nodup) (hi : ∀ x, x ∈ o → 0 ≤ x ∧ x < n) : o.Perm (evr n) :=
  perm_of_sub o _ hn (fun x hx => evr_mem.2 (hi x hx)) (by rw [evr_len]; omega)

/-! ### What the program computes -/
theorem f225_e {l : Rv} (hl : l.length ≤ 8) : f225 l = some (evr l.length) := by
  unfold f225
  rw [oloop_all (fun i => (evr i, (i : Int))) l.length (r := evr l.length) (e0 := (([] : List Int), (0 : Int))) rfl ?_ ?_]
  · rfl
  · intro i hi
    have h1 : (evr i).length = i := evr_len i
    have h2 : evr i ++ [(i : Int)] = evr (i + 1) := by unfold evr; rw [List.range_succ, List.map_append]; rfl
    have t1 : ilt (i : Int) (((l.map e_SII).length : Nat) : Int) = true := by rw [List.length_map]; exact ilt_t (by omega)
    simp only [t1, oite_t]
    rw [ogrd_fits (by simp [h1]; omega) (by simp [h1]; omega), h2, wr (by omega) (by omega)]; rfl
  · have t1 : ilt ((l.length : Nat) : Int) (((l.map e_SII).length : Nat) : Int) = false := by rw [List.length_map]; exact ilt_f (by omega)
    simp only [t1, oite_f]
theorem f226_e {l : Rv} (ok : okR l) {o : List Int} (hi : inR l o) {d : Int} (hd : 0 ≤ d) (hd2 : d + 100000 * (o.length : Int) ≤ 100000000) : f226 l o d = some (late (dR l) (pR l) o d) := by
  unfold f226
  have main : ∀ (r p : List Int) (d w : Int) (g : Int × Int × Int → Option ((Int × Int × Int) ⊕ Int)), p.length + r.length = o.length → inR l (p ++ r) → 0 ≤ d → d + 100000 * (r.length : Int) ≤ 100000000 → -200000 ≤ w →
      (∀ (p : List Int) (a : Int) (r : List Int) (d w : Int), p ++ a :: r = o → 0 ≤ d → d ≤ 100000000 → 0 ≤ a ∧ a < l.length → g (d, w, (p.length : Int)) = some (.inl (d + pR l a, max w (d + pR l a - dR l a), ((p.length + 1 : Nat) : Int)))) →
      (∀ d w, g (d, w, (o.length : Int)) = some (.inr w)) → p ++ r = o → oloop g (d, w, (p.length : Int)) = some (max w (late (dR l) (pR l) r d)) := by
    intro r
    induction r with
    | nil =>
      intro p d w g hp _ _ _ hw _ h2 ho
      simp at hp
      rw [hp, oloop_done (h2 d w)]
      simp only [late]; congr 1; omega
    | cons a r ih =>
      intro p d w g hp hin h0 hB hw h1 h2 ho
      have ha := hin a (by simp)
      have hpa := pR_le ok ha
      rw [oloop_step (h1 p a r d w ho h0 (by omega) ha)]
      have := ih (p ++ [a]) (d + pR l a) (max w (d + pR l a - dR l a)) g (by simp at hp ⊢; omega) (by simpa using hin) (by omega) (by simp at hB; omega) (by omega) h1 h2 (by simpa using ho)
      rw [show ((p ++ [a]).length : Int) = ((p.length + 1 : Nat) : Int) by simp] at this
      rw [this]
      simp only [late]; congr 1; omega
  refine (obnd_of (a := late (dR l) (pR l) o d) ?_).trans rfl
  have := late_min (dR l) (pR l) o d
  refine (main o [] d (-200000) _ (by simp) (by simpa using hi) hd hd2 (by omega) ?_ ?_ rfl).trans (by congr 1; omega)
  · intro p a r d w ho h0 hB ha
    have hlt : p.length < o.length := by rw [← ho]; simp
    have hpa := pR_le ok ha
    have hda := dR_le ok ha
    have t1 : ilt (p.length : Int) (((o.map eI).length : Nat) : Int) = true := by rw [List.length_map]; exact ilt_t (by omega)
    have t2 : ile 0 (p.length : Int) = true := ile_t (by omega)
    have t3 : ile 0 a = true := ile_t ha.1
    have g1 : o[p.length]? = some a := by rw [← ho, List.getElem?_append_right (Nat.le_refl _)]; simp
    have w1 : IntKind.i64.wrap (d + pR l a) = d + pR l a := wr (by omega) (by omega)
    have w2 : IntKind.i64.wrap (d + pR l a - dR l a) = d + pR l a - dR l a := wr (by omega) (by omega)
    have w3 : IntKind.i64.wrap ((p.length : Int) + 1) = ((p.length + 1 : Nat) : Int) := by rw [wr (by omega) (by omega)]; omega
    simp only [t1, t2, t3, oite_t, ogrd_t, Int.toNat_natCast, g1, obnd_s, inR_get ha]
    rw [show (gr l a.toNat).2.2 = pR l a from rfl, show (gr l a.toNat).2.1 = dR l a from rfl, w1, w2, w3, imax_e]
  · intro d w
    have t1 : ilt (o.length : Int) (((o.map eI).length : Nat) : Int) = false := by rw [List.length_map]; exact ilt_f (by omega)
    simp only [t1, oite_f]
/-! ### Valid orders -/
theorem hasI_f {l : List Int} {x : Int} : hasI l x = false ↔ x ∉ l := by
  unfold hasI
  rw [List.any_eq_false]
  constructor
  · intro h hm; exact h x hm (by simp)
  · intro h y hy; simp; intro e; subst e; exact h hy
theorem ordE_0 {n : Nat} {o : List Int} : (∀ i, i < o.length → ordE n o i = 0) ↔ (o.Nodup ∧ ∀ x, x ∈ o → 0 ≤ x ∧ x < n) := by
  have one : ∀ i, ordE n o i = 0 ↔ ((0 ≤ gi o i ∧ gi o i < n) ∧ gi o i ∉ o.take i) := by
    intro i
    unfold ordE
    rw [← hasI_f]
    cases h1 : (decide (0 ≤ gi o i) && decide (gi o i ≤ (n : Int) - 1)) with
    | false =>
      rw [Bool.and_eq_false_iff, decide_eq_false_iff_not, decide_eq_false_iff_not] at h1
      simp; omega
    | true =>
      simp at h1
      cases hasI (o.take i) (gi o i) <;> simp <;> omega
  constructor
  · intro h
    constructor
    · unfold List.Nodup
      rw [List.pairwise_iff_getElem]
      intro i j hi hj hij e
      have := ((one j).1 (h j hj)).2
      unfold gi at this
      rw [getD_i hj, ← e] at this
      exact this (List.mem_iff_getElem.2 ⟨i, by rw [List.length_take]; omega, by rw [List.getElem_take]⟩)
    · intro x hx
      obtain ⟨i, hi, rfl⟩ := List.getElem_of_mem hx
      have := ((one i).1 (h i hi)).1
      unfold gi at this
      rw [getD_i hi] at this
      exact this
  · rintro ⟨h1, h2⟩ i hi
    rw [one]
    have hg : gi o i = o[i] := by unfold gi; rw [getD_i hi]
    rw [hg]
    refine ⟨h2 _ (List.getElem_mem hi), fun hm => ?_⟩
    obtain ⟨j, hj, e⟩ := List.getElem_of_mem hm
    rw [List.length_take] at hj
    rw [List.getElem_take] at e
    unfold List.Nodup at h1
    rw [List.pairwise_iff_getElem] at h1
    exact h1 j i (by omega) hi (by omega) e
theorem ckO_0 {n : Nat} {o : List Int} (h : ckO n o = 0) : o.Perm (evr n) := by
  unfold ckO at h
  cases h1 : decide (o.length = n) with
  | false => rw [h1] at h; cases h
  | true =>
    rw [h1] at h
    have := (errs_get h).2
    obtain ⟨h2, h3⟩ := ordE_0.1 this
    exact perm_evr (of_decide_eq_true h1) h2 h3
theorem errs_0 {f : Nat → Int} {n : Nat} (h : ∀ i, i < n → f i = 0) : errs f n = none := by
  unfold errs
  refine scanF_of_none fun k _ hk => ?_
  rw [h k (by omega)]; rfl
theorem f335_e {l : Rv} (hs : ∀ p, p ∈ l → p.1.size ≤ 9223372036854775807) (ok : okR l) (hc : ckR l = (0, 0)) {o : List Int} (ho : o.Perm (evr l.length)) : f335 l o = some (late (dR l) (pR l) o 0, 0) := by
  have hfew := ok.few
  have hlen : o.length = l.length := by rw [ho.length_eq, evr_len]
  have hi : inR l o := inR_perm ho (evr_inR l)
  have h0 := (ordE_0 (n := l.length) (o := o)).2 ⟨ho.nodup_iff.2 (evr_nodup _), fun x hx => hi x hx⟩
  have hw : IntKind.i64.wrap ((l.length : Int) - 1) = (l.length : Int) - 1 := wr (by omega) (by omega)
  unfold f335
  rw [f224_e (by omega) hs, obnd_s, hc]
  simp only [List.length_map, hw, ieq_eq, f214_e, obnd_s]
  rw [decide_eq_true (show (o.length : Int) = (l.length : Int) by omega), if_pos rfl, f213_2, obnd_s]
  simp only [if_true, decide_true, Bool.not_true, oite_f]
  rw [oloop_scanB (fun i => (i : Int)) o.length (fun i => !decide (ordE l.length o i = 0)) (fun i => .inr ((0 : Int), ordE l.length o i)) (d := .inl ()) (e0 := (0 : Int)) rfl ?_ ?_, errs_scan (ordE l.length o) o.length (fun r : Int × Int => (Sum.inr ((0 : Int), r.2) : Unit ⊕ (Int × Int))), errs_0 h0]
  · simp only [Option.map_none, Option.getD_none, obndS_l]
    rw [f226_e ok hi (by omega) (by omega)]; rfl
  · intro i hi'
    simp (disch := omega) only [obnd_s, obnd_n, oite_ss, oite_t, oite_f, ogrd_t, ogrd_f, obndS_l, obndS_r, ilt_eq, ile_eq, ieq_eq, imax_e, imin_e, k0, k1, k2, k3, k4, k5, k6, k7, k8, k9, reduceIte, k10, k11, k12, k13, k14, k15, k16, k17, k18, k19, k20, k21, k22, k23, k24, k25, k26, k27, k28, hi', get_gi hi', wr, f216_e, oslH_n (Nat.le_of_lt hi'), f138_e (l := o.take i) (gi o i) (by rw [List.length_take]; omega), f214_e, f213_2]
    unfold ordE
    cases (decide (0 ≤ gi o i) && decide (gi o i ≤ (l.length : Int) - 1)) <;> cases hasI (o.take i) (gi o i) <;> rfl
  · simp (disch := omega) only [obnd_s, obnd_n, oite_ss, oite_t, oite_f, ogrd_t, ogrd_f, obndS_l, obndS_r, ilt_eq, ile_eq, ieq_eq, imax_e, imin_e, k0, k1, k2, k3, k4, k5, k6, k7, k8, k9, reduceIte, k10, k11, k12, k13, k14, k15, k16, k17, k18, k19, k20, k21, k22, k23, k24, k25, k26, k27, k28, Int.lt_irrefl]
end
section
set_option linter.unusedSimpArgs false
set_option linter.unusedVariables false
open Go Go.RowKit

theorem scanF_some {ρ : Type} {f : Nat → Option ρ} : ∀ {n i : Nat} {r : ρ}, scanF f n i = some r → ∃ k, i ≤ k ∧ k < i + n ∧ f k = some r
  | 0, _, _, h => by cases h
  | n + 1, i, r, h => by
    simp only [scanF] at h
    cases hf : f i with
    | some x => rw [hf] at h; injection h with h; exact ⟨i, Nat.le_refl _, by omega, by rw [hf, h]⟩
    | none =>
      rw [hf] at h
      obtain ⟨k, h1, h2, h3⟩ := scanF_some h
      exact ⟨k, by omega, by omega, h3⟩
theorem scanF_first {ρ : Type} {f : Nat → Option ρ} : ∀ {n i : Nat} {r : ρ}, scanF f n i = some r → ∃ k, i ≤ k ∧ k < i + n ∧ f k = some r ∧ ∀ j, i ≤ j → j < k → f j = none
  | 0, _, _, h => by cases h
  | n + 1, i, r, h => by
    simp only [scanF] at h
    cases hf : f i with
    | some x => rw [hf] at h; injection h with h; exact ⟨i, Nat.le_refl _, by omega, by rw [hf, h], fun j h1 h2 => by omega⟩
    | none =>
      rw [hf] at h
      obtain ⟨k, h1, h2, h3, h4⟩ := scanF_first h
      refine ⟨k, by omega, by omega, h3, fun j h5 h6 => ?_⟩
      rcases Nat.eq_or_lt_of_le h5 with rfl | h7
      · exact hf
      · exact h4 j h7 h6
theorem perm_erase {l : List Int} {k : Nat} (h : k < l.length) : l.Perm (l[k] :: l.eraseIdx k) := by
  have e : l = l.take k ++ l[k] :: l.drop (k + 1) := by rw [List.getElem_cons_drop, List.take_append_drop]
  have e2 : l.eraseIdx k = l.take k ++ l.drop (k + 1) := List.eraseIdx_eq_take_drop_succ ..
  rw [e2]
  exact (List.Perm.of_eq e).trans List.perm_middle
theorem sP_le {l : Rv} (ok : okR l) : ∀ {o : List Int}, inR l o → 0 ≤ sP (pR l) o ∧ sP (pR l) o ≤ 100000 * (o.length : Int)
  | [], _ => by simp [sP]
  | a :: o, h => by
    have := sP_le ok (o := o) (fun x hx => h x (by simp [hx]))
    have ha := pR_le ok (h a (by simp))
    simp only [sP, List.length_cons]; omega
/-- The lateness of the best order. -/
def bestL (l : Rv) : Int := late (dR l) (pR l) (byD l (evr l.length)) 0
theorem byD_evr (l : Rv) : (byD l (evr l.length)).Perm (evr l.length) := byD_perm l _
theorem byD_in {l : Rv} {o : List Int} (h : inR l o) : inR l (byD l o) := inR_perm (byD_perm l o) h
theorem byD_len (l : Rv) (o : List Int) : (byD l o).length = o.length := (byD_perm l o).length_eq
theorem pos_of {l : Rv} (ok : okR l) {o : List Int} (h : inR l o) : ∀ x, x ∈ o → 0 ≤ pR l x := fun x hx => by have := pR_le ok (h x hx); omega
/-- No order is less late. -/
theorem bestL_le {l : Rv} (ok : okR l) {o : List Int} (ho : o.Perm (evr l.length)) : bestL l ≤ late (dR l) (pR l) o 0 :=
  edd _ _ _ o 0 (byD_srt l _) ((byD_evr l).trans ho.symm) (pos_of ok (byD_in (evr_inR l)))
theorem best_step {l : Rv} (ok : okR l) {left ord : List Int} {best : Int} (hp : (ord ++ left).Perm (evr l.length)) (hne : left ≠ []) (h1 : late (dR l) (pR l) ord 0 ≤ best) (h2 : late (dR l) (pR l) (byD l left) (sP (pR l) ord) ≤ best) :
    ∃ k x, k < left.length ∧ left[k]? = some x ∧ oloop (l210_1 (left, ord, sP (pR l) ord) (l, 0) best) 0 = some (.inl (left.eraseIdx k, ord ++ [x], sP (pR l) (ord ++ [x]))) ∧
      late (dR l) (pR l) (ord ++ [x]) 0 ≤ best ∧ late (dR l) (pR l) (byD l (left.eraseIdx k)) (sP (pR l) (ord ++ [x])) ≤ best ∧
      ∀ j, j < k → ¬ late (dR l) (pR l) (gi left j :: byD l (left.eraseIdx j)) (sP (pR l) ord) ≤ best := by
  have hfew := ok.few
  have hin : inR l (ord ++ left) := inR_perm hp (evr_inR l)
  have hio : inR l ord := fun x hx => hin x (by simp [hx])
  have hil : inR l left := fun x hx => hin x (by simp [hx])
  have hlen : ord.length + left.length = l.length := by have := hp.length_eq; rw [evr_len, List.length_append] at this; exact this
  have hsp := sP_le ok hio
  have her : ∀ k, inR l (left.eraseIdx k) := fun k x hx => hil x (List.mem_of_mem_eraseIdx hx)
  let f : Nat → Option ((List Int × List Int × Int) ⊕ List Int) := fun k => if late (dR l) (pR l) (gi left k :: byD l (left.eraseIdx k)) (sP (pR l) ord) ≤ best then some (.inl (left.eraseIdx k, ord ++ [gi left k], sP (pR l) (ord ++ [gi left k]))) else none
  have hrun : oloop (l210_1 (left, ord, sP (pR l) ord) (l, 0) best) 0 = some ((scanF f left.length 0).getD (.inl (left, ord, sP (pR l) ord))) := by
    refine oloop_scan (fun i => (i : Int)) left.length f rfl ?_ ?_
    · intro k hk
      have hx : 0 ≤ gi left k ∧ gi left k < l.length := hil _ (by unfold gi; rw [getD_i hk]; exact List.getElem_mem hk)
      have t1 : ilt (k : Int) (((left.map eI).length : Nat) : Int) = true := by rw [List.length_map]; exact ilt_t (by omega)
      have t2 : ile 0 (k : Int) = true := ile_t (by omega)
      have t3 : ile 0 (gi left k) = true := ile_t hx.1
      have hpx := pR_le ok hx
      have w1 : IntKind.i64.wrap ((k : Int) + 1) = (k : Int) + 1 := wr (by omega) (by omega)
      have e228 : f228 left (k : Int) ((k : Int) + 1) = some (left.eraseIdx k) := by
        unfold f228; rw [if_pos ⟨by omega, by omega, rfl, by omega⟩]; rfl
      have hle : (left.eraseIdx k).length + 1 = left.length := by rw [List.length_eraseIdx, if_pos hk]; omega
      have e227 := f227_e ok (her k) (by omega)
      have hbl := byD_len l (left.eraseIdx k)
      have e226 := f226_e ok (o := [gi left k] ++ byD l (left.eraseIdx k)) (d := sP (pR l) ord) (fun x hx' => by
        rw [List.mem_append] at hx'
        rcases hx' with h | h
        · simp at h; subst h; exact hx
        · exact byD_in (her k) x h) hsp.1 (by simp [hbl]; omega)
      have w2 : IntKind.i64.wrap (sP (pR l) ord + pR l (gi left k)) = sP (pR l) ord + pR l (gi left k) := wr (by omega) (by omega)
      have es : sP (pR l) (ord ++ [gi left k]) = sP (pR l) ord + pR l (gi left k) := by rw [sP_app]; simp [sP]
      unfold l210_1
      simp only [t1, t2, oite_t, ogrd_t, Int.toNat_natCast, get_gi hk, obnd_s, f73_e hne (by omega), Nat.beq_refl, w1, e228, e227]
      rw [ogrd_fits (by simp [hbl]; omega) (by simp [hbl]; omega)]
      simp only [e226, obnd_s, t3, ogrd_t, inR_get hx]
      rw [ogrd_fits (by simp; omega) (by simp; omega), show (gr l (gi left k).toNat).2.2 = pR l (gi left k) from rfl, w2, ile_eq, oite_e]
      by_cases h : late (dR l) (pR l) ([gi left k] ++ byD l (left.eraseIdx k)) (sP (pR l) ord) ≤ best
      · have hf : f k = some (.inl (left.eraseIdx k, ord ++ [gi left k], sP (pR l) (ord ++ [gi left k]))) := if_pos h
        rw [if_pos (by simpa using h), hf, es]
      · have hf : f k = none := if_neg h
        rw [if_neg (by simpa using h), hf]; rfl
    · have t1 : ilt ((left.length : Nat) : Int) (((left.map eI).length : Nat) : Int) = false := by rw [List.length_map]; exact ilt_f (by omega)
      unfold l210_1
      simp only [t1, oite_f]
  -- there is a first one
  obtain ⟨a, s, hs⟩ : ∃ a s, byD l left = a :: s := by
    cases hb : byD l left with
    | nil => exact absurd (List.eq_nil_of_length_eq_zero (by rw [← byD_len l left, hb]; rfl)) hne
    | cons a s => exact ⟨a, s, rfl⟩
  have hal : a ∈ left := (byD_perm l left).mem_iff.1 (by rw [hs]; simp)
  obtain ⟨j, hj, rfl⟩ := List.getElem_of_mem hal
  have hps : s.Perm (left.eraseIdx j) := by
    have := (byD_perm l left).trans (perm_erase hj)
    rw [hs] at this
    exact this.cons_inv
  have hfj : f j ≠ none := by
    have h3 : late (dR l) (pR l) (gi left j :: byD l (left.eraseIdx j)) (sP (pR l) ord) ≤ best := by
      have hg : gi left j = left[j] := by unfold gi; rw [getD_i hj]
      have h4 := edd (dR l) (pR l) (byD l (left.eraseIdx j)) s (sP (pR l) ord + pR l left[j]) (byD_srt l _) ((byD_perm l _).trans hps.symm) (pos_of ok (byD_in (her j)))
      rw [hs] at h2
      rw [hg]
      unfold late at h2 ⊢
      omega
    simp only [f]
    rw [if_pos h3]; simp
  cases hsc : scanF f left.length 0 with
  | none => exact absurd (scanF_none hsc j (Nat.zero_le _) (by omega)) hfj
  | some r =>
    obtain ⟨k, _, hk, hfk, hfst⟩ := scanF_first hsc
    have hk : k < left.length := by omega
    have hfk2 := hfk
    simp only [f] at hfk2
    split at hfk2
    · rename_i hle
      injection hfk2 with hfk2
      refine ⟨k, gi left k, hk, get_gi hk, ?_, ?_, ?_, fun j hj hn => ?_⟩
      · rw [hrun, hsc, ← hfk2]; rfl
      · have := late_min (dR l) (pR l) ord 0
        rw [late_app]
        simp only [late, Int.zero_add] at hle ⊢
        omega
      · rw [sP_app]
        simp only [late, sP, Int.add_zero] at hle ⊢
        omega
      · have h5 := hfst j (Nat.zero_le _) hj
        simp only [f] at h5
        rw [if_pos hn] at h5; cases h5
    · cases hfk2
theorem best_loop {l : Rv} (ok : okR l) {best : Int} : ∀ (m : Nat) (left ord : List Int), left.length = m → (ord ++ left).Perm (evr l.length) → late (dR l) (pR l) ord 0 ≤ best → late (dR l) (pR l) (byD l left) (sP (pR l) ord) ≤ best →
    ∃ o, oloop (l210_2 (l, 0) best) (left, ord, sP (pR l) ord) = some o ∧ o.Perm (evr l.length) ∧ late (dR l) (pR l) o 0 ≤ best
  | 0, left, ord, hl, hp, h1, _ => by
    have : left = [] := List.eq_nil_of_length_eq_zero hl
    subst this
    refine ⟨ord, oloop_done ?_, by simpa using hp, h1⟩
    unfold l210_2
    rfl
  | m + 1, left, ord, hl, hp, h1, h2 => by
    have hne : left ≠ [] := fun e => by subst e; cases hl
    obtain ⟨k, x, hk, hx, hrun, h3, h4, _⟩ := best_step ok hp hne h1 h2
    have hlx : left[k] = x := by rw [List.getElem?_eq_getElem hk] at hx; injection hx
    have hp2 : ((ord ++ [x]) ++ left.eraseIdx k).Perm (evr l.length) := by
      refine List.Perm.trans ?_ hp
      rw [List.append_assoc]
      refine List.Perm.append_left ord ?_
      rw [← hlx]; exact (perm_erase hk).symm
    obtain ⟨o, h5, h6, h7⟩ := best_loop ok m (left.eraseIdx k) (ord ++ [x]) (by rw [List.length_eraseIdx, if_pos hk]; omega) hp2 h3 h4
    refine ⟨o, ?_, h6, h7⟩
    rw [oloop_step (e' := (left.eraseIdx k, ord ++ [x], sP (pR l) (ord ++ [x]))) ?_, h5]
    unfold l210_2
    have t1 : ilt 0 (((left.map eI).length : Nat) : Int) = true := by rw [List.length_map]; exact ilt_t (by omega)
    simp only [t1, oite_t]
    exact hrun
theorem f210_e {l : Rv} (hs : ∀ p, p ∈ l → p.1.size ≤ 9223372036854775807) (ok : okR l) (hc : ckR l = (0, 0)) : ∃ o, f210 l = some (o, bestL l, 0) ∧ o.Perm (evr l.length) ∧ late (dR l) (pR l) o 0 = bestL l := by
  have hfew := ok.few
  have hle := evr_len l.length
  have e227 := f227_e ok (evr_inR l) (by omega)
  have hbl := byD_len l (evr l.length)
  have e226 := f226_e ok (byD_in (evr_inR l)) (d := 0) (by omega) (by omega)
  obtain ⟨o, h1, h2, h3⟩ := best_loop ok (best := bestL l) l.length (evr l.length) [] hle (by simp) (show (-200000 : Int) ≤ bestL l from late_min _ _ _ 0) (by simp only [sP]; exact Int.le_refl _)
  refine ⟨o, ?_, h2, Int.le_antisymm h3 (bestL_le ok h2)⟩
  unfold f210
  rw [f224_e (by omega) hs, obnd_s, hc]
  simp only [ieq_eq, decide_true, Bool.not_true, oite_f, f225_e hfew, obnd_s, e227, e226]
  rw [show late (dR l) (pR l) (byD l (evr l.length)) 0 = bestL l from rfl]
  refine (obnd_of (a := o) h1).trans rfl
end
section
set_option linter.unusedSimpArgs false
set_option linter.unusedVariables false
open Go Go.RowKit

/-! ### Bounds of groups -/
def mxF (D : Int → Int) : List Int → Int
  | [] => 0
  | i :: r => max (D i) (mxF D r)
def bndR (D P : Int → Int) (G : List Int) : Int := sP P G - mxF D G
theorem mxF_nn (D : Int → Int) : ∀ (G : List Int), 0 ≤ mxF D G
  | [] => by simp [mxF]
  | i :: r => by have := mxF_nn D r; simp only [mxF]; omega
theorem mxF_ge (D : Int → Int) : ∀ {G : List Int} {x : Int}, x ∈ G → D x ≤ mxF D G
  | i :: r, x, h => by
    simp only [mxF]
    rw [List.mem_cons] at h
    rcases h with rfl | h
    · omega
    · have := mxF_ge D h; omega
theorem mxF_le (D : Int → Int) {M : Int} (hM : 0 ≤ M) : ∀ {G : List Int}, (∀ x, x ∈ G → D x ≤ M) → mxF D G ≤ M
  | [], _ => by simpa [mxF] using hM
  | i :: r, h => by
    have := mxF_le D hM (G := r) fun x hx => h x (by simp [hx])
    have := h i (by simp)
    simp only [mxF]; omega
theorem mxF_perm (D : Int → Int) {x y : List Int} (h : x.Perm y) : mxF D x = mxF D y := by
  induction h with
  | nil => rfl
  | cons a _ ih => simp only [mxF, ih]
  | swap a b l => simp only [mxF]; omega
  | trans _ _ h1 h2 => exact h1.trans h2
theorem bndR_perm (D P : Int → Int) {x y : List Int} (h : x.Perm y) : bndR D P x = bndR D P y := by unfold bndR; rw [sP_perm P h, mxF_perm D h]
theorem bnd_run {l : Rv} (ok : okR l) {o : List Int} (hi : inR l o) (hl : o.length ≤ 1000) (g : Int × Int × Int → Option ((Int × Int × Int) ⊕ (Int × Int)))
    (h1 : ∀ (p : List Int) (a : Int) (r : List Int) (d w : Int), p ++ a :: r = o → 0 ≤ d → d ≤ 100000000 → 0 ≤ a ∧ a < l.length → g (d, w, (p.length : Int)) = some (.inl (d + pR l a, max w (dR l a), ((p.length + 1 : Nat) : Int))))
    (h2 : ∀ d w, g (d, w, (o.length : Int)) = some (.inr (d, w))) : oloop g (0, 0, 0) = some (sP (pR l) o, mxF (dR l) o) := by
  have main : ∀ (r p : List Int) (d w : Int), 0 ≤ d → d + 100000 * (r.length : Int) ≤ 100000000 → 0 ≤ w → p ++ r = o → oloop g (d, w, (p.length : Int)) = some (d + sP (pR l) r, max w (mxF (dR l) r)) := by
    intro r
    induction r with
    | nil =>
      intro p d w _ _ hw ho
      simp at ho
      rw [ho, oloop_done (h2 d w)]
      simp only [sP, mxF, Int.add_zero]; congr 2; omega
    | cons a r ih =>
      intro p d w h0 hB hw ho
      have ha : 0 ≤ a ∧ a < l.length := hi a (by rw [← ho]; simp)
      have hpa := pR_le ok ha
      have hda := dR_le ok ha
      rw [oloop_step (h1 p a r d w ho h0 (by omega) ha)]
      have := ih (p ++ [a]) (d + pR l a) (max w (dR l a)) (by omega) (by simp at hB; omega) (by omega) (by simpa using ho)
      rw [show ((p ++ [a]).length : Int) = ((p.length + 1 : Nat) : Int) by simp] at this
      rw [this]
      simp only [sP, mxF]; congr 2 <;> omega
  have := main o [] 0 0 (by omega) (by omega) (by omega) rfl
  have hn := mxF_nn (dR l) o
  rw [Int.zero_add, show max 0 (mxF (dR l) o) = mxF (dR l) o by omega] at this
  exact this
theorem bnd_wr {l : Rv} (ok : okR l) {o : List Int} (hi : inR l o) (hl : o.length ≤ 1000) : IntKind.i64.wrap (sP (pR l) o - mxF (dR l) o) = bndR (dR l) (pR l) o := by
  have h1 := sP_le ok hi
  have h2 := mxF_nn (dR l) o
  have h3 : mxF (dR l) o ≤ 100000 := mxF_le _ (by omega) fun x hx => (dR_le ok (hi x hx)).2
  exact wr (by omega) (by omega)
theorem f362_e {l : Rv} (ok : okR l) {o : List Int} (hi : inR l o) (hl : o.length ≤ 1000) : f362 l o = some (bndR (dR l) (pR l) o) := by
  unfold f362
  refine (obnd_of (a := (sP (pR l) o, mxF (dR l) o)) (bnd_run ok hi hl _ ?_ ?_)).trans (by rw [bnd_wr ok hi hl])
  · intro p a r d w ho h0 hB ha
    have hlt : p.length < o.length := by rw [← ho]; simp
    have hpa := pR_le ok ha
    have t1 : ilt (p.length : Int) (((o.map eI).length : Nat) : Int) = true := by rw [List.length_map]; exact ilt_t (by omega)
    have t2 : ile 0 (p.length : Int) = true := ile_t (by omega)
    have t3 : ile 0 a = true := ile_t ha.1
    have g1 : o[p.length]? = some a := by rw [← ho, List.getElem?_append_right (Nat.le_refl _)]; simp
    have w1 : IntKind.i64.wrap (d + pR l a) = d + pR l a := wr (by omega) (by omega)
    have w3 : IntKind.i64.wrap ((p.length : Int) + 1) = ((p.length + 1 : Nat) : Int) := by rw [wr (by omega) (by omega)]; omega
    simp only [t1, t2, t3, oite_t, ogrd_t, Int.toNat_natCast, g1, obnd_s, inR_get ha]
    rw [show (gr l a.toNat).2.2 = pR l a from rfl, show (gr l a.toNat).2.1 = dR l a from rfl, w1, w3, imax_e]
  · intro d w
    have t1 : ilt (o.length : Int) (((o.map eI).length : Nat) : Int) = false := by rw [List.length_map]; exact ilt_f (by omega)
    simp only [t1, oite_f]
theorem f343_e {l : Rv} (ok : okR l) {o : List Int} (hi : inR l o) (hl : o.length ≤ 1000) : f343 l o = some (bndR (dR l) (pR l) o) := by
  unfold f343
  refine (obnd_of (a := (sP (pR l) o, mxF (dR l) o)) (bnd_run ok hi hl _ ?_ ?_)).trans (by rw [bnd_wr ok hi hl])
  · intro p a r d w ho h0 hB ha
    have hlt : p.length < o.length := by rw [← ho]; simp
    have hpa := pR_le ok ha
    have t1 : ilt (p.length : Int) (((o.map eI).length : Nat) : Int) = true := by rw [List.length_map]; exact ilt_t (by omega)
    have t2 : ile 0 (p.length : Int) = true := ile_t (by omega)
    have t3 : ile 0 a = true := ile_t ha.1
    have g1 : o[p.length]? = some a := by rw [← ho, List.getElem?_append_right (Nat.le_refl _)]; simp
    have w1 : IntKind.i64.wrap (d + pR l a) = d + pR l a := wr (by omega) (by omega)
    have w3 : IntKind.i64.wrap ((p.length : Int) + 1) = ((p.length + 1 : Nat) : Int) := by rw [wr (by omega) (by omega)]; omega
    simp only [t1, t2, t3, oite_t, ogrd_t, Int.toNat_natCast, g1, obnd_s, inR_get ha]
    rw [show (gr l a.toNat).2.2 = pR l a from rfl, show (gr l a.toNat).2.1 = dR l a from rfl, w1, w3, imax_e]
  · intro d w
    have t1 : ilt (o.length : Int) (((o.map eI).length : Nat) : Int) = false := by rw [List.length_map]; exact ilt_f (by omega)
    simp only [t1, oite_f]

/-! ### Groups by numbers -/
def grp (n m : Nat) : List Int := (evr n).filter fun x => m.testBit x.toNat
theorem grp_mem {n m : Nat} {x : Int} : x ∈ grp n m ↔ (0 ≤ x ∧ x < n) ∧ m.testBit x.toNat = true := by unfold grp; rw [List.mem_filter, evr_mem]
theorem grp_sub (n m : Nat) : (grp n m).Sublist (evr n) := List.filter_sublist
theorem grp_len (n m : Nat) : (grp n m).length ≤ n := by have := (grp_sub n m).length_le; rw [evr_len] at this; exact this
theorem evr_succ (i : Nat) : evr (i + 1) = evr i ++ [(i : Int)] := by unfold evr; rw [List.range_succ, List.map_append]; rfl
theorem grp_succ (i m : Nat) : grp (i + 1) m = if m.testBit i = true then grp i m ++ [(i : Int)] else grp i m := by
  unfold grp
  rw [evr_succ, List.filter_append]
  by_cases h : m.testBit i = true
  · rw [if_pos h, List.filter_cons_of_pos (by simpa using h)]; rfl
  · rw [if_neg h, List.filter_cons_of_neg (by simpa using h)]; simp
theorem bit_e {m i : Nat} (hm : m < 9223372036854775808) (hi : i < 64) : ieq (IntKind.i64.wrap (BitVec.ofInt (IntKind.bits .i64) ((m : Int).fdiv (2 ^ (min (i : Int).toNat (IntKind.bits .i64)))) &&& BitVec.ofInt (IntKind.bits .i64) (1 : Int)).toNat) (1 : Int) = m.testBit i := by
  have e0 : min (i : Int).toNat (IntKind.bits .i64) = i := by show min i 64 = i; omega
  have e1 : (m : Int).fdiv (2 ^ i) = ((m / 2 ^ i : Nat) : Int) := by
    rw [Int.fdiv_eq_ediv_of_nonneg _ (by exact Int.pow_nonneg (by omega)), show ((2 : Int) ^ i) = ((2 ^ i : Nat) : Int) by rw [Int.natCast_pow]; rfl]
    rfl
  have hlt : m / 2 ^ i < 18446744073709551616 := Nat.lt_of_le_of_lt (Nat.div_le_self _ _) (by omega)
  have e2 : ∀ k : Nat, BitVec.ofInt 64 (k : Int) = BitVec.ofNat 64 k := fun k => by simp
  have e3 : BitVec.ofInt 64 1 = BitVec.ofNat 64 (2 ^ 1 - 1) := rfl
  rw [e0, e1]
  show ieq (IntKind.i64.wrap ((BitVec.ofInt 64 ((m / 2 ^ i : Nat) : Int) &&& BitVec.ofInt 64 (1 : Int)).toNat : Int)) 1 = _
  rw [e2, e3, BitVec.toNat_and, BitVec.toNat_ofNat, BitVec.toNat_ofNat, Nat.mod_eq_of_lt hlt, Nat.mod_eq_of_lt (show 2 ^ 1 - 1 < 2 ^ 64 by omega), Nat.and_two_pow_sub_one_eq_mod, wr (by omega) (by omega), ieq_eq, Nat.testBit_eq_decide_div_mod_eq, Bool.eq_iff_iff, decide_eq_true_eq, decide_eq_true_eq]
  omega
theorem grp_run {l : Rv} (hfew : l.length ≤ 8) {b : List Int} {m : Nat} (hm : m < 9223372036854775808) : oloop (l336_1 (l, 0) (b, (m : Int))) ([], 0) = some (grp l.length m) := by
  refine oloop_all (fun i => (grp i m, (i : Int))) l.length rfl ?_ ?_
  · intro i hi
    have hl := grp_len i m
    have t1 : ilt (i : Int) (((l.map e_SII).length : Nat) : Int) = true := by rw [List.length_map]; exact ilt_t (by omega)
    have t2 : (!ilt (i : Int) 0) = true := by rw [ilt_f (by omega)]; rfl
    unfold l336_1
    simp only [t1, t2, oite_t, ogrd_t]
    rw [bit_e hm (by omega), wr (by omega) (by omega), grp_succ]
    cases m.testBit i with
    | true =>
      rw [oite_t, ogrd_fits (by simp; omega) (by simp; omega)]; rfl
    | false => rfl
  · have t1 : ilt ((l.length : Nat) : Int) (((l.map e_SII).length : Nat) : Int) = false := by rw [List.length_map]; exact ilt_f (by omega)
    unfold l336_1
    simp only [t1, oite_f]
theorem grp_in (l : Rv) (m : Nat) : inR l (grp l.length m) := fun _ hx => (grp_mem.1 hx).1
theorem grp_ne {n m : Nat} (h1 : 1 ≤ m) (h2 : m < 2 ^ n) : grp n m ≠ [] := by
  intro h
  have : m = 0 := by
    refine Nat.eq_of_testBit_eq fun i => ?_
    rw [Nat.zero_testBit]
    by_cases hi : i < n
    · cases hb : m.testBit i with
      | false => rfl
      | true =>
        have : (i : Int) ∈ grp n m := grp_mem.2 ⟨by omega, hb⟩
        rw [h] at this; cases this
    · exact Nat.testBit_lt_two_pow (Nat.lt_of_lt_of_le h2 (Nat.pow_le_pow_right (by omega) (by omega)))
  omega
/-- Which number a set has. -/
def msk (q : Nat → Bool) : Nat → Nat
  | 0 => 0
  | k + 1 => 2 ^ k * (q k).toNat + msk q k
theorem msk_lt (q : Nat → Bool) : ∀ k, msk q k < 2 ^ k
  | 0 => by simp [msk]
  | k + 1 => by
    have := msk_lt q k
    have : (q k).toNat ≤ 1 := Bool.toNat_le (q k)
    have h : 2 ^ k * (q k).toNat ≤ 2 ^ k := by
      cases q k <;> simp
    simp only [msk, Nat.pow_succ]; omega
theorem msk_bit (q : Nat → Bool) : ∀ k i, i < k → (msk q k).testBit i = q i
  | k + 1, i, h => by
    simp only [msk]
    rw [Nat.testBit_two_pow_mul_add _ (msk_lt q k)]
    by_cases hi : i < k
    · rw [if_pos hi]; exact msk_bit q k i hi
    · have : i = k := by omega
      subst this
      rw [if_neg hi, Nat.sub_self]
      cases q i <;> rfl

/-! ### Comparing groups -/
def cmpI : List Int → List Int → Int
  | [], [] => 0
  | [], _ :: _ => -1
  | _ :: _, [] => 1
  | a :: r, b :: s => if a < b then -1 else if b < a then 1 else cmpI r s
theorem f108_e (a b : Int) : f108 a b = some (if a < b then -1 else if b < a then 1 else 0) := by
  unfold f108
  simp only [ieq_eq, decide_true, Bool.not_true, oite_f, ilt_eq]
  by_cases h1 : a < b
  · rw [decide_eq_true h1, if_pos h1]; rfl
  · rw [decide_eq_false h1, if_neg h1, oite_f]
    by_cases h2 : b < a
    · rw [decide_eq_true h2, if_pos h2]; rfl
    · rw [decide_eq_false h2, if_neg h2]; rfl
theorem f363_e {a b : List Int} (ha : a.length ≤ 1000000) (hb : b.length ≤ 1000000) : f363 a b = some (cmpI a b) := by
  unfold f363
  have main : ∀ (r s p : List Int) (q : List Int) (g : Int → Option (Int ⊕ (Unit ⊕ Int))) (k : Unit → Option Int), p.length = q.length → p ++ r = a → q ++ s = b →
      (∀ i x, i < a.length → a[i]? = some x → b.length ≤ i → g (i : Int) = some (.inr (.inr 1))) →
      (∀ i x y, i < a.length → a[i]? = some x → b[i]? = some y → g (i : Int) = if x < y then some (.inr (.inr (-1))) else if y < x then some (.inr (.inr 1)) else some (.inl ((i + 1 : Nat) : Int))) →
      g (a.length : Int) = some (.inr (.inl ())) → k () = some (if a.length < b.length then -1 else 0) →
      obndS (oloop g (p.length : Int)) k = some (cmpI r s) := by
    intro r
    induction r with
    | nil =>
      intro s p q g k hpq hp hq _ _ h3 h4
      simp at hp
      rw [hp, oloop_done h3, obndS_l, h4]
      have hbl : b.length = q.length + s.length := by rw [← hq]; simp
      cases s with
      | nil => rw [if_neg (by simp at hbl; have := congrArg List.length hp; omega)]; rfl
      | cons y s => rw [if_pos (by simp at hbl; have := congrArg List.length hp; omega)]; rfl
    | cons x r ih =>
      intro s p q g k hpq hp hq h1 h2 h3 h4
      have hpl : p.length < a.length := by rw [← hp]; simp
      have hx : a[p.length]? = some x := by rw [← hp, List.getElem?_append_right (Nat.le_refl _)]; simp
      have hbl : b.length = q.length + s.length := by rw [← hq]; simp
      cases s with
      | nil => rw [oloop_done (h1 p.length x hpl hx (by simp at hbl; omega)), obndS_r]; rfl
      | cons y s =>
        have hy : b[p.length]? = some y := by rw [← hq, hpq, List.getElem?_append_right (Nat.le_refl _)]; simp
        have hg := h2 p.length x y hpl hx hy
        simp only [cmpI]
        by_cases h5 : x < y
        · rw [if_pos h5] at hg
          rw [oloop_done hg, if_pos h5, obndS_r]
        · rw [if_neg h5] at hg
          rw [if_neg h5]
          by_cases h6 : y < x
          · rw [if_pos h6] at hg
            rw [oloop_done hg, if_pos h6, obndS_r]
          · rw [if_neg h6] at hg
            rw [oloop_step hg, if_neg h6]
            have := ih s (p ++ [x]) (q ++ [y]) g k (by simp [hpq]) (by simpa using hp) (by simpa using hq) h1 h2 h3 h4
            rw [show ((p ++ [x]).length : Int) = ((p.length + 1 : Nat) : Int) by simp] at this
            exact this
  refine main a b [] [] _ _ rfl rfl rfl ?_ ?_ ?_ ?_
  · intro i x hi hx hbi
    have t1 : ilt (i : Int) (((a.map eI).length : Nat) : Int) = true := by rw [List.length_map]; exact ilt_t (by omega)
    have t2 : ile 0 (i : Int) = true := ile_t (by omega)
    have t3 : ile (((b.map eI).length : Nat) : Int) (i : Int) = true := by rw [List.length_map]; exact ile_t (by omega)
    simp only [t1, t2, t3, oite_t, ogrd_t, Int.toNat_natCast, hx, obnd_s]
  · intro i x y hi hx hy
    have hbi : i < b.length := (List.getElem?_eq_some_iff.1 hy).1
    have t1 : ilt (i : Int) (((a.map eI).length : Nat) : Int) = true := by rw [List.length_map]; exact ilt_t (by omega)
    have t2 : ile 0 (i : Int) = true := ile_t (by omega)
    have t3 : ile (((b.map eI).length : Nat) : Int) (i : Int) = false := by rw [List.length_map, ile_eq]; simp; omega
    simp only [t1, t2, t3, oite_t, oite_f, ogrd_t, Int.toNat_natCast, hx, hy, obnd_s, f108_e]
    rw [wr (by omega) (by omega), ieq_eq]
    by_cases h5 : x < y
    · rw [if_pos h5, if_pos h5]; rfl
    · rw [if_neg h5, if_neg h5]
      by_cases h6 : y < x
      · rw [if_pos h6, if_pos h6]; rfl
      · rw [if_neg h6, if_neg h6]; rfl
  · have t1 : ilt ((a.length : Nat) : Int) (((a.map eI).length : Nat) : Int) = false := by rw [List.length_map]; exact ilt_f (by omega)
    simp only [t1, oite_f]
  · simp only [List.length_map, ilt_eq, oite_e, decide_eq_true_eq, Int.ofNat_lt]
    split <;> rfl

/-! ### GroupOf -/
def lessG (g b : List Int) : Bool := decide (g.length < b.length) || (decide (g.length = b.length) && decide (cmpI g b < 0))
def stepG (l : Rv) (b g : List Int) : List Int := if bndR (dR l) (pR l) g = bestL l then (bif b.isEmpty then g else bif lessG g b then g else b) else b
def selG (l : Rv) : Nat → List Int
  | 0 => []
  | i + 1 => stepG l (selG l i) (grp l.length (i + 1))
theorem selG_len (l : Rv) : ∀ i, (selG l i).length ≤ l.length
  | 0 => by simp [selG]
  | i + 1 => by
    simp only [selG, stepG]
    have h1 := selG_len l i
    have h2 := grp_len l.length (i + 1)
    split
    · cases (selG l i).isEmpty <;> cases lessG (grp l.length (i + 1)) (selG l i) <;> simpa
    · exact h1
theorem sel_step {l : Rv} (ok : okR l) {i : Nat} (hi : i + 1 < 2 ^ l.length) : l336_2 (l, 0) (bestL l) (selG l i, ((i + 1 : Nat) : Int)) = some (.inl (selG l (i + 1), ((i + 2 : Nat) : Int))) := by
  have hfew := ok.few
  have hp : 2 ^ l.length ≤ 256 := Nat.le_trans (Nat.pow_le_pow_right (by omega) hfew) (by decide)
  have hgl := grp_len l.length (i + 1)
  have hsl := selG_len l i
  have e0 : min (((l.map e_SII).length : Nat) : Int).toNat (IntKind.bits .i64) = l.length := by
    show min ((l.map e_SII).length) 64 = l.length
    rw [List.length_map]; omega
  have e1 : IntKind.i64.wrap ((1 : Int) * 2 ^ l.length) = ((2 ^ l.length : Nat) : Int) := by
    rw [Int.one_mul, show ((2 : Int) ^ l.length) = ((2 ^ l.length : Nat) : Int) by rw [Int.natCast_pow]; rfl]
    exact wr (by omega) (by omega)
  have t1 : ilt ((i + 1 : Nat) : Int) ((2 ^ l.length : Nat) : Int) = true := ilt_t (by omega)
  have w1 : IntKind.i64.wrap (((i + 1 : Nat) : Int) + 1) = ((i + 2 : Nat) : Int) := by rw [wr (by omega) (by omega)]; omega
  have hne : (!(grp l.length (i + 1)).isEmpty) = true := by
    have := grp_ne (n := l.length) (m := i + 1) (by omega) hi
    cases h : grp l.length (i + 1) with
    | nil => exact absurd h this
    | cons _ _ => rfl
  unfold l336_2
  rw [e0, e1, t1, oite_t]
  refine (obnd_of (grp_run hfew (b := selG l i) (m := i + 1) (by omega))).trans ?_
  rw [f362_e ok (grp_in l _) (by omega), obnd_s, ieq_eq, w1, hne]
  simp only [selG, stepG, ogrd_t]
  by_cases h1 : bndR (dR l) (pR l) (grp l.length (i + 1)) = bestL l
  · rw [if_pos h1, decide_eq_true h1, Bool.not_true, oite_f]
    cases h2 : (selG l i).isEmpty with
    | true => rfl
    | false =>
      rw [oite_f, cond_false]
      unfold lessG
      simp only [List.length_map, ilt_eq, ieq_eq, Int.ofNat_lt, ceqN]
      rw [f363_e (by omega) (by omega), obnd_s]
      cases decide ((grp l.length (i + 1)).length < (selG l i).length) with
      | true => rfl
      | false =>
        cases decide ((grp l.length (i + 1)).length = (selG l i).length) with
        | false => rfl
        | true =>
          simp only [oite_f, oite_t, obnd_s, Bool.false_or, Bool.true_and]
          cases decide (cmpI (grp l.length (i + 1)) (selG l i) < 0) <;> rfl
  · rw [if_neg h1, decide_eq_false h1, Bool.not_false, oite_t]
def ownG (l : Rv) : List Int := selG l (2 ^ l.length - 1)
theorem f336_e {l : Rv} (hs : ∀ p, p ∈ l → p.1.size ≤ 9223372036854775807) (ok : okR l) (hc : ckR l = (0, 0)) : f336 l = some (ownG l, 0) := by
  have hfew := ok.few
  have hle := evr_len l.length
  have e227 := f227_e ok (evr_inR l) (by omega)
  have hbl := byD_len l (evr l.length)
  have e226 := f226_e ok (byD_in (evr_inR l)) (d := 0) (by omega) (by omega)
  have hp1 : 1 ≤ 2 ^ l.length := Nat.one_le_two_pow
  have hp : 2 ^ l.length ≤ 256 := Nat.le_trans (Nat.pow_le_pow_right (by omega) hfew) (by decide)
  unfold f336
  rw [f224_e (by omega) hs, obnd_s, hc]
  simp only [ieq_eq, decide_true, Bool.not_true, oite_f, f225_e hfew, obnd_s, e227, e226]
  rw [show late (dR l) (pR l) (byD l (evr l.length)) 0 = bestL l from rfl]
  refine (obnd_of (a := ownG l) (oloop_all (fun i => (selG l i, ((i + 1 : Nat) : Int))) (2 ^ l.length - 1) rfl ?_ ?_)).trans rfl
  · intro i hi
    exact sel_step ok (by omega)
  · have e0 : min (((l.map e_SII).length : Nat) : Int).toNat (IntKind.bits .i64) = l.length := by
      show min ((l.map e_SII).length) 64 = l.length
      rw [List.length_map]; omega
    have e1 : IntKind.i64.wrap ((1 : Int) * 2 ^ l.length) = ((2 ^ l.length : Nat) : Int) := by
      rw [Int.one_mul, show ((2 : Int) ^ l.length) = ((2 ^ l.length : Nat) : Int) by rw [Int.natCast_pow]; rfl]
      exact wr (by omega) (by omega)
    have t1 : ilt ((2 ^ l.length - 1 + 1 : Nat) : Int) ((2 ^ l.length : Nat) : Int) = false := ilt_f (by omega)
    unfold l336_2
    rw [e0, e1, t1, oite_f]; rfl

/-! ### There is such a group -/
theorem late_att {l : Rv} (ok : okR l) : ∀ (s : List Int) (d : Int), s ≠ [] → inR l s → 0 ≤ d → ∃ p a r, s = p ++ a :: r ∧ late (dR l) (pR l) s d = d + sP (pR l) p + pR l a - dR l a
  | [], _, h, _, _ => absurd rfl h
  | i :: r, d, _, hin, hd => by
    have hi := hin i (by simp)
    have hpi := pR_le ok hi
    have hdi := dR_le ok hi
    by_cases hr : r = []
    · subst hr
      exact ⟨[], i, [], rfl, by simp only [late, sP]; omega⟩
    · obtain ⟨p, a, r', h1, h2⟩ := late_att ok r (d + pR l i) hr (fun x hx => hin x (by simp [hx])) (by omega)
      by_cases h3 : late (dR l) (pR l) r (d + pR l i) ≤ d + pR l i - dR l i
      · exact ⟨[], i, r, rfl, by simp only [late, sP]; omega⟩
      · exact ⟨i :: p, a, r', by rw [h1]; rfl, by simp only [late, sP]; omega⟩
theorem grp_ex {l : Rv} (ok : okR l) : ∃ m, 1 ≤ m ∧ m < 2 ^ l.length ∧ bndR (dR l) (pR l) (grp l.length m) = bestL l := by
  have hin := byD_in (evr_inR l)
  have hne : byD l (evr l.length) ≠ [] := fun h => by
    have := byD_len l (evr l.length)
    rw [h, evr_len] at this
    have hp := ok.pos
    simp at this; omega
  obtain ⟨p, a, r, h1, h2⟩ := late_att ok _ 0 hne hin (by omega)
  have hnd : (byD l (evr l.length)).Nodup := (byD_evr l).nodup_iff.2 (evr_nodup _)
  have hsr := byD_srt l (evr l.length)
  rw [h1] at hnd hsr
  have hG : ∀ x, x ∈ p ++ [a] → 0 ≤ x ∧ x < l.length := fun x hx => hin x (by rw [h1]; simp at hx ⊢; rcases hx with h | h <;> simp [h])
  have hGn : (p ++ [a]).Nodup := by
    rw [show p ++ a :: r = (p ++ [a]) ++ r by simp, List.nodup_append] at hnd
    exact hnd.1
  let q : Nat → Bool := fun i => decide ((i : Int) ∈ p ++ [a])
  have hmem : ∀ x, x ∈ grp l.length (msk q l.length) ↔ x ∈ p ++ [a] := by
    intro x
    rw [grp_mem]
    constructor
    · rintro ⟨hx, hb⟩
      rw [msk_bit q l.length x.toNat (by omega)] at hb
      have := of_decide_eq_true hb
      rwa [show ((x.toNat : Nat) : Int) = x by omega] at this
    · intro hx
      have hr := hG x hx
      refine ⟨hr, ?_⟩
      rw [msk_bit q l.length x.toNat (by omega)]
      refine decide_eq_true ?_
      rwa [show ((x.toNat : Nat) : Int) = x by omega]
  have hperm : (grp l.length (msk q l.length)).Perm (p ++ [a]) := (List.perm_ext_iff_of_nodup ((evr_nodup _).sublist (grp_sub _ _)) hGn).2 hmem
  refine ⟨msk q l.length, ?_, msk_lt q _, ?_⟩
  · have : a ∈ grp l.length (msk q l.length) := (hmem a).2 (by simp)
    have := (grp_mem.1 this).2
    rcases Nat.eq_zero_or_pos (msk q l.length) with h | h
    · rw [h, Nat.zero_testBit] at this; cases this
    · exact h
  · rw [bndR_perm _ _ hperm]
    unfold bndR bestL
    rw [h2, sP_app]
    have hda := dR_le ok (hG a (by simp))
    have hmx : mxF (dR l) (p ++ [a]) = dR l a := by
      refine Int.le_antisymm (mxF_le _ hda.1 fun x hx => ?_) (mxF_ge _ (by simp))
      rw [List.mem_append] at hx
      rcases hx with hx | hx
      · unfold srtd at hsr
        rw [List.pairwise_append] at hsr
        exact hsr.2.2 x hx a (by simp)
      · simp at hx; subst hx; exact Int.le_refl _
    rw [hmx]; simp only [sP]; omega
theorem selG_inv (l : Rv) : ∀ i, (selG l i = [] ∧ ∀ j, j < i → grp l.length (j + 1) ≠ [] → bndR (dR l) (pR l) (grp l.length (j + 1)) ≠ bestL l) ∨ ∃ j, j < i ∧ selG l i = grp l.length (j + 1) ∧ bndR (dR l) (pR l) (grp l.length (j + 1)) = bestL l
  | 0 => .inl ⟨rfl, fun j h => by omega⟩
  | i + 1 => by
    by_cases h1 : bndR (dR l) (pR l) (grp l.length (i + 1)) = bestL l
    · simp only [selG, stepG, if_pos h1]
      rcases selG_inv l i with ⟨h2, h3⟩ | ⟨j, h2, h3, h4⟩
      · rw [h2]; exact .inr ⟨i, by omega, rfl, h1⟩
      · cases (selG l i).isEmpty with
        | true => exact .inr ⟨i, by omega, rfl, h1⟩
        | false =>
          cases lessG (grp l.length (i + 1)) (selG l i) with
          | true => exact .inr ⟨i, by omega, rfl, h1⟩
          | false => exact .inr ⟨j, by omega, h3, h4⟩
    · simp only [selG, stepG, if_neg h1]
      rcases selG_inv l i with ⟨h2, h3⟩ | ⟨j, h2, h3, h4⟩
      · refine .inl ⟨h2, fun j hj hn => ?_⟩
        by_cases he : j = i
        · subst he; exact h1
        · exact h3 j (by omega) hn
      · exact .inr ⟨j, by omega, h3, h4⟩
theorem ownG_ok {l : Rv} (ok : okR l) : ∃ m, 1 ≤ m ∧ m < 2 ^ l.length ∧ ownG l = grp l.length m ∧ bndR (dR l) (pR l) (ownG l) = bestL l := by
  obtain ⟨m, h1, h2, h3⟩ := grp_ex ok
  unfold ownG
  rcases selG_inv l (2 ^ l.length - 1) with ⟨_, h5⟩ | ⟨j, h4, h5, h6⟩
  · have := h5 (m - 1) (by omega)
    rw [show m - 1 + 1 = m by omega] at this
    exact absurd h3 (this (grp_ne h1 h2))
  · exact ⟨j + 1, by omega, by omega, h5, by rw [h5]; exact h6⟩
end
end Go.Proofs.YtmbekcealcjabaaGreat.AM
