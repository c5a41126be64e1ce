/- Plain laws of chapter 8: the reference of orders and groups. Conditions: none. -/
import Derived.Test.YtmbekcealcjabaaGreatAmR1
namespace Go.Proofs.YtmbekcealcjabaaGreat.AM
section
set_option linter.unusedSimpArgs false
set_option linter.unusedVariables false
open Go Go.RowKit

def dR (l : Rv) (x : Int) : Int := (gr l x.toNat).2.1
def pR (l : Rv) (x : Int) : Int := (gr l x.toNat).2.2
def inR (l : Rv) (o : List Int) : Prop := ∀ x, x ∈ o → 0 ≤ x ∧ x < l.length
theorem inR_get {l : Rv} {x : Int} (h : 0 ≤ x ∧ x < l.length) : l[x.toNat]? = some (gr l x.toNat) := get_gr (by omega)
theorem dR_le {l : Rv} (ok : okR l) {x : Int} (h : 0 ≤ x ∧ x < l.length) : 0 ≤ dR l x ∧ dR l x ≤ 100000 := (ok.row x.toNat (by omega)).1
theorem pR_le {l : Rv} (ok : okR l) {x : Int} (h : 0 ≤ x ∧ x < l.length) : 1 ≤ pR l x ∧ pR l x ≤ 100000 := (ok.row x.toNat (by omega)).2
theorem oloop_done' {τ ρ : Type} {g : τ → Option (τ ⊕ ρ)} {e : τ} {r : ρ} (h : g e = some (.inr r)) : oloop g e = some r := oloop_done h

/-- One element goes to its place among those before it (the last first). -/
def insR (D : Int → Int) : List Int → Int → List Int
  | [], a => [a]
  | b :: rp, a => if D a < D b then insR D rp a ++ [b] else rp.reverse ++ [b, a]
def sG (a0 : Rv) (n : Nat) (lo : Int) (e19 : Int × List Int) : Option ((Int × List Int) ⊕ List Int) :=
         oite ((ilt lo e19.1)) (
          ogrd ((ile 0 e19.1)) (
          ogrd ((ilt e19.1 (n : Int))) (
          obnd (e19.2[e19.1.toNat]?) fun (x25 : Int) =>
          ogrd ((ile 0 (IntKind.i64.wrap (e19.1 - (1 : Int))))) (
          ogrd ((ilt (IntKind.i64.wrap (e19.1 - (1 : Int))) (n : Int))) (
          obnd (e19.2[(IntKind.i64.wrap (e19.1 - (1 : Int))).toNat]?) fun (x30 : Int) =>
          ogrd ((ile 0 x25)) (
          obnd (a0[x25.toNat]?) fun (x34 : ByteArray × Int × Int) =>
          ogrd ((ile 0 x30)) (
          obnd (a0[x30.toNat]?) fun (x36 : ByteArray × Int × Int) =>
          oite ((ilt (IntKind.i64.wrap (x34.2.1 - x36.2.1)) (0 : Int))) (
           obnd (e19.2[(IntKind.i64.wrap (e19.1 - (1 : Int))).toNat]?) fun (x38 : Int) =>
           obnd (e19.2[e19.1.toNat]?) fun (x41 : Int) =>
           ogrd (Nat.blt e19.1.toNat e19.2.length) (
           ogrd (Nat.blt (IntKind.i64.wrap (e19.1 - (1 : Int))).toNat (e19.2.set e19.1.toNat x38).length) (
           some (.inl (((IntKind.i64.wrap (e19.1 - (1 : Int))), ((e19.2.set e19.1.toNat x38).set (IntKind.i64.wrap (e19.1 - (1 : Int))).toNat x41))))
           )
           )
            ) (
           some (.inr (e19.2))
            )
          )
          )
          )
          )
          )
          )
           ) (
          some (.inr (e19.2))
           )
theorem ins_in {l : Rv} (ok : okR l) {n : Nat} (hn : n ≤ 8) : ∀ (rp : List Int) (a : Int) (q : List Int), (rp.length + 1 + q.length = n) → inR l (a :: rp) →
    oloop (sG l n 0) ((rp.length : Int), rp.reverse ++ a :: q) = some (insR (dR l) rp a ++ q)
  | [], a, q, hl, hi => by
    refine oloop_done ?_
    unfold sG insR
    simp (disch := omega) only [obnd_s, obnd_n, oite_ss, oite_t, oite_f, ogrd_t, ogrd_f, obndS_l, obndS_r, ilt_eq, ile_eq, ieq_eq, imax_e, imin_e, k0, k1, k2, k3, k4, k5, k6, k7, k8, k9, reduceIte, k10, k11, k12, k13, k14, k15, k16, k17, k18, k19, k20, k21, k22, k23, k24, k25, k26, k27, k28, Int.lt_irrefl]; rfl
  | b :: rp, a, q, hl, hi => by
    have ha := hi a (by simp)
    have hb := hi b (by simp)
    have hda := dR_le ok ha
    have hdb := dR_le ok hb
    have hlen : (rp.length + 1 : Nat) < n := by simp at hl; omega
    have hy : (b :: rp).reverse ++ a :: q = rp.reverse ++ b :: a :: q := by simp
    have g1 : (rp.reverse ++ b :: a :: q)[rp.length + 1]? = some a := by
      rw [List.getElem?_append_right (by simp)]; simp
    have g2 : (rp.reverse ++ b :: a :: q)[rp.length]? = some b := by
      rw [List.getElem?_append_right (by simp)]; simp
    have e1 : ((rp.length + 1 : Nat) : Int) - 1 = (rp.length : Int) := by omega
    have hw : IntKind.i64.wrap (((rp.length + 1 : Nat) : Int) - 1) = (rp.length : Int) := by rw [e1]; exact wr (by omega) (by omega)
    have s1 : ((rp.reverse ++ b :: a :: q).set (rp.length + 1) b).set rp.length a = rp.reverse ++ a :: b :: q := by
      rw [List.set_append_right _ _ (by simp), List.set_append_right _ _ (by simp)]; simp
    have hwd : IntKind.i64.wrap (dR l a - dR l b) = dR l a - dR l b := wr (by omega) (by omega)
    rw [hy, show ((b :: rp).length : Int) = ((rp.length + 1 : Nat) : Int) by simp]
    have key : sG l n 0 (((rp.length + 1 : Nat) : Int), rp.reverse ++ b :: a :: q) = if dR l a < dR l b then some (.inl ((rp.length : Int), rp.reverse ++ a :: b :: q)) else some (.inr (rp.reverse ++ b :: a :: q)) := by
      unfold sG
      have t1 : ilt 0 ((rp.length + 1 : Nat) : Int) = true := ilt_t (by omega)
      have t2 : ile 0 ((rp.length + 1 : Nat) : Int) = true := ile_t (by omega)
      have t3 : ilt ((rp.length + 1 : Nat) : Int) (n : Int) = true := ilt_t (by omega)
      have t4 : ile 0 (rp.length : Int) = true := ile_t (by omega)
      have t5 : ilt (rp.length : Int) (n : Int) = true := ilt_t (by omega)
      have t6 : ile 0 a = true := ile_t ha.1
      have t7 : ile 0 b = true := ile_t hb.1
      have t8 : Nat.blt (rp.length + 1) (rp.reverse ++ b :: a :: q).length = true := by rw [Nat.blt_eq]; simp
      have t9 : Nat.blt rp.length ((rp.reverse ++ b :: a :: q).set (rp.length + 1) b).length = true := by rw [Nat.blt_eq]; simp
      simp only [hw, t1, t2, t3, t4, t5, oite_t, ogrd_t, Int.toNat_natCast, g1, g2, obnd_s, t6, t7, inR_get ha, inR_get hb, t8, t9, s1]
      rw [show (gr l a.toNat).2.1 - (gr l b.toNat).2.1 = dR l a - dR l b from rfl, hwd, ilt_eq, oite_e]
      by_cases h : dR l a < dR l b
      · rw [if_pos h, if_pos (by simp; omega)]
      · rw [if_neg h, if_neg (by simp; omega)]
    by_cases h : dR l a < dR l b
    · rw [if_pos h] at key
      rw [oloop_step key, show rp.reverse ++ a :: b :: q = rp.reverse ++ a :: (b :: q) from rfl, ins_in ok hn rp a (b :: q) (by simp at hl ⊢; omega) (fun x hx => hi x (by simp at hx ⊢; rcases hx with h | h <;> simp [h]))]
      simp [insR, h]
    · rw [if_neg h] at key
      rw [oloop_done key]
      simp [insR, h]
theorem insR_perm (D : Int → Int) : ∀ (rp : List Int) (a : Int), (insR D rp a).Perm (a :: rp)
  | [], a => .refl _
  | b :: rp, a => by
    unfold insR
    split
    · exact ((insR_perm D rp a).append_right [b]).trans (by simp)
    · refine (List.perm_append_comm (l₁ := rp.reverse) (l₂ := [b, a])).trans ?_
      refine (List.Perm.swap a b rp.reverse).trans ?_
      exact (List.Perm.cons a (List.Perm.cons b (List.reverse_perm rp)))
def srtd (D : Int → Int) (l : List Int) : Prop := l.Pairwise fun x y => D x ≤ D y
theorem insR_srt (D : Int → Int) : ∀ (rp : List Int) (a : Int), srtd D rp.reverse → srtd D (insR D rp a)
  | [], a, _ => by simp [insR, srtd]
  | b :: rp, a, h => by
    unfold srtd at h ⊢
    rw [List.reverse_cons, List.pairwise_append] at h
    obtain ⟨h1, _, h3⟩ := h
    unfold insR
    split
    · rename_i hlt
      rw [List.pairwise_append]
      refine ⟨insR_srt D rp a h1, by simp, fun x hx y hy => ?_⟩
      simp at hy; subst hy
      have := (insR_perm D rp a).mem_iff.1 hx
      simp at this
      rcases this with rfl | hm
      · omega
      · exact h3 x (by simpa using hm) y (by simp)
    · rename_i hge
      rw [List.pairwise_append]
      refine ⟨h1, by simp; omega, fun x hx y hy => ?_⟩
      have hb := h3 x hx b (by simp)
      simp at hy
      rcases hy with rfl | rfl <;> omega
/-- So many sorted, the rest to come. -/
def srtF (D : Int → Int) : List Int → List Int → List Int
  | p, [] => p
  | p, a :: q => srtF D (insR D p.reverse a) q
theorem srtF_perm (D : Int → Int) : ∀ (q p : List Int), (srtF D p q).Perm (p ++ q)
  | [], p => by simp [srtF]
  | a :: q, p => by
    unfold srtF
    refine (srtF_perm D q _).trans ?_
    refine ((insR_perm D p.reverse a).append_right q).trans ?_
    simp only [List.cons_append]
    refine (List.Perm.cons a ((List.reverse_perm p).append_right q)).trans ?_
    exact List.perm_middle.symm
theorem srtF_srt (D : Int → Int) : ∀ (q p : List Int), srtd D p → srtd D (srtF D p q)
  | [], p, h => h
  | a :: q, p, h => by
    unfold srtF
    exact srtF_srt D q _ (insR_srt D _ a (by simpa using h))
theorem insR_len (D : Int → Int) (rp : List Int) (a : Int) : (insR D rp a).length = rp.length + 1 := by rw [(insR_perm D rp a).length_eq]; rfl
/-- byDue. -/
def byD (l : Rv) (o : List Int) : List Int := match o with
  | [] => []
  | a :: q => srtF (dR l) [a] q
theorem byD_perm (l : Rv) (o : List Int) : (byD l o).Perm o := by
  cases o with
  | nil => exact .refl _
  | cons a q => exact srtF_perm _ q [a]
theorem byD_srt (l : Rv) (o : List Int) : srtd (dR l) (byD l o) := by
  cases o with
  | nil => simp [byD, srtd]
  | cons a q => exact srtF_srt _ q [a] (by simp [srtd])
theorem f73_e {o : List Int} (h : o ≠ []) (hl : o.length ≤ 1000000000) : f73 o = some o := by
  cases o with
  | nil => exact absurd rfl h
  | cons a r =>
    show (if fits 8 (a :: r).length = true then some (a :: r) else none) = _
    rw [if_pos (fits_t (by omega) (by omega))]
theorem f227_e {l : Rv} (ok : okR l) {o : List Int} (hi : inR l o) (hl : o.length ≤ 8) : f227 l o = some (byD l o) := by
  cases o with
  | nil => rfl
  | cons a q =>
    show So.f227 l (a :: q) = _
    unfold So.f227
    rw [f73_e (by simp) (by omega), obnd_s]
    refine (obnd_of (a := ((0 : Int), a :: q)) (oloop_done ?_)).trans ?_
    · have : ile 20 (((a :: q).length : Nat) : Int) = false := by rw [ile_eq]; simp at hl ⊢; omega
      simp only [this, oite_f]
    have gen : ∀ (q p : List Int), p.length + q.length = (a :: q).length → True := fun _ _ _ => trivial
    clear gen
    generalize hn : (a :: q).length = n at *
    have main : ∀ (r p : List Int), p.length + r.length = n → inR l (p ++ r) → ∀ g : Int × List Int → Option ((Int × List Int) ⊕ List Int),
        (∀ p a r, p.length + (r.length + 1) = n → inR l (p ++ a :: r) → g ((p.length : Int), p ++ a :: r) = some (.inl (((p.length + 1 : Nat) : Int), insR (dR l) p.reverse a ++ r))) → (∀ p, p.length = n → g ((n : Int), p) = some (.inr p)) → oloop g ((p.length : Int), p ++ r) = some (srtF (dR l) p r) := by
      intro r
      induction r with
      | nil =>
        intro p hp _ g h1 h2
        simp at hp; subst hp
        rw [List.append_nil, oloop_done (h2 p rfl)]; rfl
      | cons b r ih =>
        intro p hp hin g h1 h2
        rw [oloop_step (h1 p b r hp hin)]
        have hlen := insR_len (dR l) p.reverse b
        simp at hlen
        have := ih (insR (dR l) p.reverse b) (by simp at hp; omega) (fun x hx => hin x (by
          rw [List.mem_append] at hx ⊢
          rcases hx with hx | hx
          · have := (insR_perm (dR l) p.reverse b).mem_iff.1 hx
            simp at this ⊢
            rcases this with h | h <;> simp [h]
          · right; simp [hx])) g h1 h2
        rw [hlen] at this
        exact this
    have := main q [a] (by simp at hn ⊢; omega) (by simpa using hi)
    refine this _ ?_ ?_
    · intro p b r hp hin
      have t1 : ilt (p.length : Int) (n : Int) = true := ilt_t (by omega)
      simp only [t1, oite_t]
      refine (obnd_of (a := insR (dR l) p.reverse b ++ r) ?_).trans ?_
      · have := ins_in ok (n := n) (by omega) p.reverse b r (by simp; omega) (fun x hx => hin x (by simp at hx ⊢; rcases hx with h | h <;> simp [h]))
        rw [List.length_reverse, List.reverse_reverse] at this
        exact this
      · rw [wr (by omega) (by omega)]; rfl
    · intro p hp
      have t1 : ilt (n : Int) (n : Int) = false := ilt_f (by omega)
      simp only [t1, oite_f]
      have t2 : ilt 20 (n : Int) = false := ilt_f (by omega)
      rw [oloop_done (r := p)]
      · rfl
      · simp only [t2, oite_f, hp, Nat.beq_refl, ogrd_t]; rfl
end
section
set_option linter.unusedSimpArgs false
set_option linter.unusedVariables false
open Go Go.RowKit

/-! ### Plain lists -/
def late (D P : Int → Int) : List Int → Int → Int
  | [], _ => -200000
  | i :: r, d => max (d + P i - D i) (late D P r (d + P i))
def sP (P : Int → Int) : List Int → Int
  | [] => 0
  | i :: r => P i + sP P r
theorem sP_app (P : Int → Int) : ∀ (x y : List Int), sP P (x ++ y) = sP P x + sP P y
  | [], y => by simp [sP]
  | a :: x, y => by simp only [List.cons_append, sP, sP_app P x y]; omega
theorem sP_perm (P : Int → Int) {x y : List Int} (h : x.Perm y) : sP P x = sP P y := by
  induction h with
  | nil => rfl
  | cons a _ ih => simp only [sP, ih]
  | swap a b l => simp only [sP]; omega
  | trans _ _ h1 h2 => exact h1.trans h2
theorem late_min (D P : Int → Int) : ∀ (o : List Int) (d : Int), -200000 ≤ late D P o d
  | [], d => by simp [late]
  | i :: r, d => by have := late_min D P r (d + P i); simp only [late]; omega
theorem late_app (D P : Int → Int) : ∀ (x y : List Int) (d : Int), late D P (x ++ y) d = max (late D P x d) (late D P y (d + sP P x))
  | [], y, d => by have := late_min D P y d; simp only [List.nil_append, late, sP, Int.add_zero]; omega
  | i :: x, y, d => by
    simp only [List.cons_append, late, sP, late_app D P x y]
    rw [show d + (P i + sP P x) = d + P i + sP P x by omega]; omega
theorem late_swap (D P : Int → Int) {a b : Int} {r : List Int} {d : Int} (h : D a ≤ D b) (ha : 0 ≤ P a) (hb : 0 ≤ P b) : late D P (a :: b :: r) d ≤ late D P (b :: a :: r) d := by
  simp only [late]
  rw [show d + P b + P a = d + P a + P b by omega]; omega
theorem late_front (D P : Int → Int) {a : Int} : ∀ (x y : List Int) (d : Int), (∀ b, b ∈ x → D a ≤ D b ∧ 0 ≤ P b) → 0 ≤ P a → late D P (a :: (x ++ y)) d ≤ late D P (x ++ a :: y) d
  | [], y, d, _, _ => by simp
  | b :: x, y, d, h, ha => by
    refine Int.le_trans (late_swap D P (r := x ++ y) (h b (by simp)).1 ha (h b (by simp)).2) ?_
    have := late_front D P x y (d + P b) (fun c hc => h c (by simp [hc])) ha
    simp only [List.cons_append]
    unfold late
    omega
theorem edd (D P : Int → Int) : ∀ (s o : List Int) (d : Int), srtd D s → s.Perm o → (∀ x, x ∈ s → 0 ≤ P x) → late D P s d ≤ late D P o d
  | [], o, d, _, hp, _ => by rw [List.nil_perm.1 hp]; exact Int.le_refl _
  | a :: s, o, d, hs, hp, h0 => by
    unfold srtd at hs
    rw [List.pairwise_cons] at hs
    obtain ⟨x, y, rfl⟩ := List.append_of_mem (hp.mem_iff.1 (by simp : a ∈ a :: s))
    have hp2 : s.Perm (x ++ y) := (hp.trans List.perm_middle).cons_inv
    refine Int.le_trans ?_ (late_front D P x y d (fun b hb => ?_) (h0 a (by simp)))
    · have := edd D P s (x ++ y) (d + P a) hs.2 hp2 (fun z hz => h0 z (by simp [hz]))
      unfold late; omega
    · have hb2 : b ∈ s := hp2.mem_iff.2 (by simp [hb])
      exact ⟨hs.1 b hb2, h0 b (by simp [hb2])⟩
/-- No order is less late than a group's bound. -/
theorem late_bound (D P : Int → Int) (q : Int → Bool) (M : Int) : ∀ (o : List Int) (d : Int), (∀ x, x ∈ o → 0 ≤ P x) → (∀ x, x ∈ o → q x = true → D x ≤ M) → (∃ x, x ∈ o ∧ q x = true) → d + sP P (o.filter q) - M ≤ late D P o d
  | [], d, _, _, h => by obtain ⟨x, hx, _⟩ := h; cases hx
  | i :: r, d, h0, hM, h => by
    have hi := h0 i (by simp)
    by_cases hr : ∃ x, x ∈ r ∧ q x = true
    · have := late_bound D P q M r (d + P i) (fun x hx => h0 x (by simp [hx])) (fun x hx => hM x (by simp [hx])) hr
      unfold late
      cases hq : q i with
      | true => rw [List.filter_cons_of_pos hq]; simp only [sP]; omega
      | false => rw [List.filter_cons_of_neg (by simp [hq])]; omega
    · have hq : q i = true := by
        obtain ⟨x, hx, hxq⟩ := h
        rw [List.mem_cons] at hx
        rcases hx with rfl | hx
        · exact hxq
        · exact absurd ⟨x, hx, hxq⟩ hr
      have hn : r.filter q = [] := by
        rw [List.filter_eq_nil_iff]
        intro x hx hxq
        exact hr ⟨x, hx, hxq⟩
      rw [List.filter_cons_of_pos hq, hn]
      have := hM i (by simp) hq
      simp only [sP, late]; omega
/-- As many as there are, all of them different: the same ones. -/
theorem perm_of_sub : ∀ (o E : List Int), o.Nodup → (∀ x, x ∈ o → x ∈ E) → E.length ≤ o.length → o.Perm E
  | [], E, _, _, h => by
    have : E = [] := List.eq_nil_of_length_eq_zero (by simpa using h)
    rw [this]
  | a :: o, E, hn, hs, hl => by
    obtain ⟨x, y, rfl⟩ := List.append_of_mem (hs a (by simp))
    rw [List.nodup_cons] at hn
    have := perm_of_sub o (x ++ y) hn.2 (fun z hz => by
      have := hs z (by simp [hz])
      simp at this ⊢
      rcases this with h | rfl | h
      · exact .inl h
      · exact absurd hz hn.1
      · exact .inr h) (by simp at hl ⊢; omega)
    exact (List.Perm.cons a this).trans List.perm_middle.symm
def evr (n : Nat) : List Int := (List.range n).map fun (i : Nat) => (i : Int)
theorem evr_len (n : Nat) : (evr n).length = n := by simp [evr]
theorem evr_mem {n : Nat} {x : Int} : x ∈ evr n ↔ 0 ≤ x ∧ x < n := by
  unfold evr
  rw [List.mem_map]
  constructor
  · rintro ⟨i, hi, rfl⟩; simp at hi; omega
  · intro h; exact ⟨x.toNat, by simp; omega, by omega⟩
theorem nodup_mapI : ∀ {l : List Nat}, l.Nodup → (l.map fun (i : Nat) => (i : Int)).Nodup
  | [], _ => by simp
  | a :: l, h => by
    rw [List.nodup_cons] at h
    rw [List.map_cons, List.nodup_cons]
    refine ⟨fun hm => ?_, nodup_mapI h.2⟩
    obtain ⟨b, hb, e⟩ := List.mem_map.1 hm
    have : b = a := by omega
    subst this; exact h.1 hb
theorem evr_nodup (n : Nat) : (evr n).Nodup := nodup_mapI List.nodup_range
theorem evr_inR (l : Rv) : inR l (evr l.length) := fun x hx => evr_mem.1 hx
theorem inR_perm {l : Rv} {o p : List Int} (h : o.Perm p) (hi : inR l p) : inR l o := fun x hx => hi x (h.mem_iff.1 hx)
theorem perm_evr {n : Nat} {o : List Int} (hl : o.length = n) (hn : o.Nodup) (hi : ∀ x, x ∈ o → 0 ≤ x ∧ x < n) : o.Perm (evr n) :=
  perm_of_sub o _ hn (fun x hx => evr_mem.2 (hi x hx)) (by rw [evr_len]; omega)

/-! ### What the program computes -/
theorem f225_e {l : Rv} (hl : l.length ≤ 8) : f225 l = some (evr l.length) := by
  unfold f225
  rw [oloop_all (fun i => (evr i, (i : Int))) l.length (r := evr l.length) (e0 := (([] : List Int), (0 : Int))) rfl ?_ ?_]
  · rfl
  · intro i hi
    have h1 : (evr i).length = i := evr_len i
    have h2 : evr i ++ [(i : Int)] = evr (i + 1) := by unfold evr; rw [List.range_succ, List.map_append]; rfl
    have t1 : ilt (i : Int) (((l.map e_SII).length : Nat) : Int) = true := by rw [List.length_map]; exact ilt_t (by omega)
    simp only [t1, oite_t]
    rw [ogrd_fits (by simp [h1]; omega) (by simp [h1]; omega), h2, wr (by omega) (by omega)]; rfl
  · have t1 : ilt ((l.length : Nat) : Int) (((l.map e_SII).length : Nat) : Int) = false := by rw [List.length_map]; exact ilt_f (by omega)
    simp only [t1, oite_f]
theorem f226_e {l : Rv} (ok : okR l) {o : List Int} (hi : inR l o) {d : Int} (hd : 0 ≤ d) (hd2 : d + 100000 * (o.length : Int) ≤ 100000000) : f226 l o d = some (late (dR l) (pR l) o d) := by
  unfold f226
  have main : ∀ (r p : List Int) (d w : Int) (g : Int × Int × Int → Option ((Int × Int × Int) ⊕ Int)), p.length + r.length = o.length → inR l (p ++ r) → 0 ≤ d → d + 100000 * (r.length : Int) ≤ 100000000 → -200000 ≤ w →
      (∀ (p : List Int) (a : Int) (r : List Int) (d w : Int), p ++ a :: r = o → 0 ≤ d → d ≤ 100000000 → 0 ≤ a ∧ a < l.length → g (d, w, (p.length : Int)) = some (.inl (d + pR l a, max w (d + pR l a - dR l a), ((p.length + 1 : Nat) : Int)))) →
      (∀ d w, g (d, w, (o.length : Int)) = some (.inr w)) → p ++ r = o → oloop g (d, w, (p.length : Int)) = some (max w (late (dR l) (pR l) r d)) := by
    intro r
    induction r with
    | nil =>
      intro p d w g hp _ _ _ hw _ h2 ho
      simp at hp
      rw [hp, oloop_done (h2 d w)]
      simp only [late]; congr 1; omega
    | cons a r ih =>
      intro p d w g hp hin h0 hB hw h1 h2 ho
      have ha := hin a (by simp)
      have hpa := pR_le ok ha
      rw [oloop_step (h1 p a r d w ho h0 (by omega) ha)]
      have := ih (p ++ [a]) (d + pR l a) (max w (d + pR l a - dR l a)) g (by simp at hp ⊢; omega) (by simpa using hin) (by omega) (by simp at hB; omega) (by omega) h1 h2 (by simpa using ho)
      rw [show ((p ++ [a]).length : Int) = ((p.length + 1 : Nat) : Int) by simp] at this
      rw [this]
      simp only [late]; congr 1; omega
  refine (obnd_of (a := late (dR l) (pR l) o d) ?_).trans rfl
  have := late_min (dR l) (pR l) o d
  refine (main o [] d (-200000) _ (by simp) (by simpa using hi) hd hd2 (by omega) ?_ ?_ rfl).trans (by congr 1; omega)
  · intro p a r d w ho h0 hB ha
    have hlt : p.length < o.length := by rw [← ho]; simp
    have hpa := pR_le ok ha
    have hda := dR_le ok ha
    have t1 : ilt (p.length : Int) (((o.map eI).length : Nat) : Int) = true := by rw [List.length_map]; exact ilt_t (by omega)
    have t2 : ile 0 (p.length : Int) = true := ile_t (by omega)
    have t3 : ile 0 a = true := ile_t ha.1
    have g1 : o[p.length]? = some a := by rw [← ho, List.getElem?_append_right (Nat.le_refl _)]; simp
    have w1 : IntKind.i64.wrap (d + pR l a) = d + pR l a := wr (by omega) (by omega)
    have w2 : IntKind.i64.wrap (d + pR l a - dR l a) = d + pR l a - dR l a := wr (by omega) (by omega)
    have w3 : IntKind.i64.wrap ((p.length : Int) + 1) = ((p.length + 1 : Nat) : Int) := by rw [wr (by omega) (by omega)]; omega
    simp only [t1, t2, t3, oite_t, ogrd_t, Int.toNat_natCast, g1, obnd_s, inR_get ha]
    rw [show (gr l a.toNat).2.2 = pR l a from rfl, show (gr l a.toNat).2.1 = dR l a from rfl, w1, w2, w3, imax_e]
  · intro d w
    have t1 : ilt (o.length : Int) (((o.map eI).length : Nat) : Int) = false := by rw [List.length_map]; exact ilt_f (by omega)
    simp only [t1, oite_f]
/-! ### Valid orders -/
theorem hasI_f {l : List Int} {x : Int} : hasI l x = false ↔ x ∉ l := by
  unfold hasI
  rw [List.any_eq_false]
  constructor
  · intro h hm; exact h x hm (by simp)
  · intro h y hy; simp; intro e; subst e; exact h hy
theorem ordE_0 {n : Nat} {o : List Int} : (∀ i, i < o.length → ordE n o i = 0) ↔ (o.Nodup ∧ ∀ x, x ∈ o → 0 ≤ x ∧ x < n) := by
  have one : ∀ i, ordE n o i = 0 ↔ ((0 ≤ gi o i ∧ gi o i < n) ∧ gi o i ∉ o.take i) := by
    intro i
    unfold ordE
    rw [← hasI_f]
    cases h1 : (decide (0 ≤ gi o i) && decide (gi o i ≤ (n : Int) - 1)) with
    | false =>
      rw [Bool.and_eq_false_iff, decide_eq_false_iff_not, decide_eq_false_iff_not] at h1
      simp; omega
    | true =>
      simp at h1
      cases hasI (o.take i) (gi o i) <;> simp <;> omega
  constructor
  · intro h
    constructor
    · unfold List.Nodup
      rw [List.pairwise_iff_getElem]
      intro i j hi hj hij e
      have := ((one j).1 (h j hj)).2
      unfold gi at this
      rw [getD_i hj, ← e] at this
      exact this (List.mem_iff_getElem.2 ⟨i, by rw [List.length_take]; omega, by rw [List.getElem_take]⟩)
    · intro x hx
      obtain ⟨i, hi, rfl⟩ := List.getElem_of_mem hx
      have := ((one i).1 (h i hi)).1
      unfold gi at this
      rw [getD_i hi] at this
      exact this
  · rintro ⟨h1, h2⟩ i hi
    rw [one]
    have hg : gi o i = o[i] := by unfold gi; rw [getD_i hi]
    rw [hg]
    refine ⟨h2 _ (List.getElem_mem hi), fun hm => ?_⟩
    obtain ⟨j, hj, e⟩ := List.getElem_of_mem hm
    rw [List.length_take] at hj
    rw [List.getElem_take] at e
    unfold List.Nodup at h1
    rw [List.pairwise_iff_getElem] at h1
    exact h1 j i (by omega) hi (by omega) e
theorem ckO_0 {n : Nat} {o : List Int} (h : ckO n o = 0) : o.Perm (evr n) := by
  unfold ckO at h
  cases h1 : decide (o.length = n) with
  | false => rw [h1] at h; cases h
  | true =>
    rw [h1] at h
    have := (errs_get h).2
    obtain ⟨h2, h3⟩ := ordE_0.1 this
    exact perm_evr (of_decide_eq_true h1) h2 h3
theorem errs_0 {f : Nat → Int} {n : Nat} (h : ∀ i, i < n → f i = 0) : errs f n = none := by
  unfold errs
  refine scanF_of_none fun k _ hk => ?_
  rw [h k (by omega)]; rfl
theorem f335_e {l : Rv} (hs : ∀ p, p ∈ l → p.1.size ≤ 9223372036854775807) (ok : okR l) (hc : ckR l = (0, 0)) {o : List Int} (ho : o.Perm (evr l.length)) : f335 l o = some (late (dR l) (pR l) o 0, 0) := by
  have hfew := ok.few
  have hlen : o.length = l.length := by rw [ho.length_eq, evr_len]
  have hi : inR l o := inR_perm ho (evr_inR l)
  have h0 := (ordE_0 (n := l.length) (o := o)).2 ⟨ho.nodup_iff.2 (evr_nodup _), fun x hx => hi x hx⟩
  have hw : IntKind.i64.wrap ((l.length : Int) - 1) = (l.length : Int) - 1 := wr (by omega) (by omega)
  unfold f335
  rw [f224_e (by omega) hs, obnd_s, hc]
  simp only [List.length_map, hw, ieq_eq, f214_e, obnd_s]
  rw [decide_eq_true (show (o.length : Int) = (l.length : Int) by omega), if_pos rfl, f213_2, obnd_s]
  simp only [if_true, decide_true, Bool.not_true, oite_f]
  rw [oloop_scanB (fun i => (i : Int)) o.length (fun i => !decide (ordE l.length o i = 0)) (fun i => .inr ((0 : Int), ordE l.length o i)) (d := .inl ()) (e0 := (0 : Int)) rfl ?_ ?_, errs_scan (ordE l.length o) o.length (fun r : Int × Int => (Sum.inr ((0 : Int), r.2) : Unit ⊕ (Int × Int))), errs_0 h0]
  · simp only [Option.map_none, Option.getD_none, obndS_l]
    rw [f226_e ok hi (by omega) (by omega)]; rfl
  · intro i hi'
    simp (disch := omega) only [obnd_s, obnd_n, oite_ss, oite_t, oite_f, ogrd_t, ogrd_f, obndS_l, obndS_r, ilt_eq, ile_eq, ieq_eq, imax_e, imin_e, k0, k1, k2, k3, k4, k5, k6, k7, k8, k9, reduceIte, k10, k11, k12, k13, k14, k15, k16, k17, k18, k19, k20, k21, k22, k23, k24, k25, k26, k27, k28, hi', get_gi hi', wr, f216_e, oslH_n (Nat.le_of_lt hi'), f138_e (l := o.take i) (gi o i) (by rw [List.length_take]; omega), f214_e, f213_2]
    unfold ordE
    cases (decide (0 ≤ gi o i) && decide (gi o i ≤ (l.length : Int) - 1)) <;> cases hasI (o.take i) (gi o i) <;> rfl
  · simp (disch := omega) only [obnd_s, obnd_n, oite_ss, oite_t, oite_f, ogrd_t, ogrd_f, obndS_l, obndS_r, ilt_eq, ile_eq, ieq_eq, imax_e, imin_e, k0, k1, k2, k3, k4, k5, k6, k7, k8, k9, reduceIte, k10, k11, k12, k13, k14, k15, k16, k17, k18, k19, k20, k21, k22, k23, k24, k25, k26, k27, k28, Int.lt_irrefl]
end
section
set_option linter.unusedSimpArgs false
set_option linter.unusedVariables false
open Go Go.RowKit

theorem scanF_some {ρ : Type} {f : Nat → Option ρ} : ∀ {n i : Nat} {r : ρ}, scanF f n i = some r → ∃ k, i ≤ k ∧ k < i + n ∧ f k = some r
  | 0, _, _, h => by cases h
  | n + 1, i, r, h => by
    simp only [scanF] at h
    cases hf : f i with
    | some x => rw [hf] at h; injection h with h; exact ⟨i, Nat.le_refl _, by omega, by rw [hf, h]⟩
    | none =>
      rw [hf] at h
      obtain ⟨k, h1, h2, h3⟩ := scanF_some h
      exact ⟨k, by omega, by omega, h3⟩
theorem scanF_first {ρ : Type} {f : Nat → Option ρ} : ∀ {n i : Nat} {r : ρ}, scanF f n i = some r → ∃ k, i ≤ k ∧ k < i + n ∧ f k = some r ∧ ∀ j, i ≤ j → j < k → f j = none
  | 0, _, _, h => by cases h
  | n + 1, i, r, h => by
    simp only [scanF] at h
    cases hf : f i with
    | some x => rw [hf] at h; injection h with h; exact ⟨i, Nat.le_refl _, by omega, by rw [hf, h], fun j h1 h2 => by omega⟩
    | none =>
      rw [hf] at h
      obtain ⟨k, h1, h2, h3, h4⟩ := scanF_first h
      refine ⟨k, by omega, by omega, h3, fun j h5 h6 => ?_⟩
      rcases Nat.eq_or_lt_of_le h5 with rfl | h7
      · exact hf
      · exact h4 j h7 h6
theorem perm_erase {l : List Int} {k : Nat} (h : k < l.length) : l.Perm (l[k] :: l.eraseIdx k) := by
  have e : l = l.take k ++ l[k] :: l.drop (k + 1) := by rw [List.getElem_cons_drop, List.take_append_drop]
  have e2 : l.eraseIdx k = l.take k ++ l.drop (k + 1) := List.eraseIdx_eq_take_drop_succ ..
  rw [e2]
  exact (List.Perm.of_eq e).trans List.perm_middle
theorem sP_le {l : Rv} (ok : okR l) : ∀ {o : List Int}, inR l o → 0 ≤ sP (pR l) o ∧ sP (pR l) o ≤ 100000 * (o.length : Int)
  | [], _ => by simp [sP]
  | a :: o, h => by
    have := sP_le ok (o := o) (fun x hx => h x (by simp [hx]))
    have ha := pR_le ok (h a (by simp))
    simp only [sP, List.length_cons]; omega
/-- The lateness of the best order. -/
def bestL (l : Rv) : Int := late (dR l) (pR l) (byD l (evr l.length)) 0
theorem byD_evr (l : Rv) : (byD l (evr l.length)).Perm (evr l.length) := byD_perm l _
theorem byD_in {l : Rv} {o : List Int} (h : inR l o) : inR l (byD l o) := inR_perm (byD_perm l o) h
theorem byD_len (l : Rv) (o : List Int) : (byD l o).length = o.length := (byD_perm l o).length_eq
theorem pos_of {l : Rv} (ok : okR l) {o : List Int} (h : inR l o) : ∀ x, x ∈ o → 0 ≤ pR l x := fun x hx => by have := pR_le ok (h x hx); omega
/-- No order is less late. -/
theorem bestL_le {l : Rv} (ok : okR l) {o : List Int} (ho : o.Perm (evr l.length)) : bestL l ≤ late (dR l) (pR l) o 0 :=
  edd _ _ _ o 0 (byD_srt l _) ((byD_evr l).trans ho.symm) (pos_of ok (byD_in (evr_inR l)))
theorem best_step {l : Rv} (ok : okR l) {left ord : List Int} {best : Int} (hp : (ord ++ left).Perm (evr l.length)) (hne : left ≠ []) (h1 : late (dR l) (pR l) ord 0 ≤ best) (h2 : late (dR l) (pR l) (byD l left) (sP (pR l) ord) ≤ best) :
    ∃ k x, k < left.length ∧ left[k]? = some x ∧ oloop (l210_1 (left, ord, sP (pR l) ord) (l, 0) best) 0 = some (.inl (left.eraseIdx k, ord ++ [x], sP (pR l) (ord ++ [x]))) ∧
      late (dR l) (pR l) (ord ++ [x]) 0 ≤ best ∧ late (dR l) (pR l) (byD l (left.eraseIdx k)) (sP (pR l) (ord ++ [x])) ≤ best ∧
      ∀ j, j < k → ¬ late (dR l) (pR l) (gi left j :: byD l (left.eraseIdx j)) (sP (pR l) ord) ≤ best := by
  have hfew := ok.few
  have hin : inR l (ord ++ left) := inR_perm hp (evr_inR l)
  have hio : inR l ord := fun x hx => hin x (by simp [hx])
  have hil : inR l left := fun x hx => hin x (by simp [hx])
  have hlen : ord.length + left.length = l.length := by have := hp.length_eq; rw [evr_len, List.length_append] at this; exact this
  have hsp := sP_le ok hio
  have her : ∀ k, inR l (left.eraseIdx k) := fun k x hx => hil x (List.mem_of_mem_eraseIdx hx)
  let f : Nat → Option ((List Int × List Int × Int) ⊕ List Int) := fun k => if late (dR l) (pR l) (gi left k :: byD l (left.eraseIdx k)) (sP (pR l) ord) ≤ best then some (.inl (left.eraseIdx k, ord ++ [gi left k], sP (pR l) (ord ++ [gi left k]))) else none
  have hrun : oloop (l210_1 (left, ord, sP (pR l) ord) (l, 0) best) 0 = some ((scanF f left.length 0).getD (.inl (left, ord, sP (pR l) ord))) := by
    refine oloop_scan (fun i => (i : Int)) left.length f rfl ?_ ?_
    · intro k hk
      have hx : 0 ≤ gi left k ∧ gi left k < l.length := hil _ (by unfold gi; rw [getD_i hk]; exact List.getElem_mem hk)
      have t1 : ilt (k : Int) (((left.map eI).length : Nat) : Int) = true := by rw [List.length_map]; exact ilt_t (by omega)
      have t2 : ile 0 (k : Int) = true := ile_t (by omega)
      have t3 : ile 0 (gi left k) = true := ile_t hx.1
      have hpx := pR_le ok hx
      have w1 : IntKind.i64.wrap ((k : Int) + 1) = (k : Int) + 1 := wr (by omega) (by omega)
      have e228 : f228 left (k : Int) ((k : Int) + 1) = some (left.eraseIdx k) := by
        unfold f228; rw [if_pos ⟨by omega, by omega, rfl, by omega⟩]; rfl
      have hle : (left.eraseIdx k).length + 1 = left.length := by rw [List.length_eraseIdx, if_pos hk]; omega
      have e227 := f227_e ok (her k) (by omega)
      have hbl := byD_len l (left.eraseIdx k)
      have e226 := f226_e ok (o := [gi left k] ++ byD l (left.eraseIdx k)) (d := sP (pR l) ord) (fun x hx' => by
        rw [List.mem_append] at hx'
        rcases hx' with h | h
        · simp at h; subst h; exact hx
        · exact byD_in (her k) x h) hsp.1 (by simp [hbl]; omega)
      have w2 : IntKind.i64.wrap (sP (pR l) ord + pR l (gi left k)) = sP (pR l) ord + pR l (gi left k) := wr (by omega) (by omega)
      have es : sP (pR l) (ord ++ [gi left k]) = sP (pR l) ord + pR l (gi left k) := by rw [sP_app]; simp [sP]
      unfold l210_1
      simp only [t1, t2, oite_t, ogrd_t, Int.toNat_natCast, get_gi hk, obnd_s, f73_e hne (by omega), Nat.beq_refl, w1, e228, e227]
      rw [ogrd_fits (by simp [hbl]; omega) (by simp [hbl]; omega)]
      simp only [e226, obnd_s, t3, ogrd_t, inR_get hx]
      rw [ogrd_fits (by simp; omega) (by simp; omega), show (gr l (gi left k).toNat).2.2 = pR l (gi left k) from rfl, w2, ile_eq, oite_e]
      by_cases h : late (dR l) (pR l) ([gi left k] ++ byD l (left.eraseIdx k)) (sP (pR l) ord) ≤ best
      · have hf : f k = some (.inl (left.eraseIdx k, ord ++ [gi left k], sP (pR l) (ord ++ [gi left k]))) := if_pos h
        rw [if_pos (by simpa using h), hf, es]
      · have hf : f k = none := if_neg h
        rw [if_neg (by simpa using h), hf]; rfl
    · have t1 : ilt ((left.length : Nat) : Int) (((left.map eI).length : Nat) : Int) = false := by rw [List.length_map]; exact ilt_f (by omega)
      unfold l210_1
      simp only [t1, oite_f]
  -- there is a first one
  obtain ⟨a, s, hs⟩ : ∃ a s, byD l left = a :: s := by
    cases hb : byD l left with
    | nil => exact absurd (List.eq_nil_of_length_eq_zero (by rw [← byD_len l left, hb]; rfl)) hne
    | cons a s => exact ⟨a, s, rfl⟩
  have hal : a ∈ left := (byD_perm l left).mem_iff.1 (by rw [hs]; simp)
  obtain ⟨j, hj, rfl⟩ := List.getElem_of_mem hal
  have hps : s.Perm (left.eraseIdx j) := by
    have := (byD_perm l left).trans (perm_erase hj)
    rw [hs] at this
    exact this.cons_inv
  have hfj : f j ≠ none := by
    have h3 : late (dR l) (pR l) (gi left j :: byD l (left.eraseIdx j)) (sP (pR l) ord) ≤ best := by
      have hg : gi left j = left[j] := by unfold gi; rw [getD_i hj]
      have h4 := edd (dR l) (pR l) (byD l (left.eraseIdx j)) s (sP (pR l) ord + pR l left[j]) (byD_srt l _) ((byD_perm l _).trans hps.symm) (pos_of ok (byD_in (her j)))
      rw [hs] at h2
      rw [hg]
      unfold late at h2 ⊢
      omega
    simp only [f]
    rw [if_pos h3]; simp
  cases hsc : scanF f left.length 0 with
  | none => exact absurd (scanF_none hsc j (Nat.zero_le _) (by omega)) hfj
  | some r =>
    obtain ⟨k, _, hk, hfk, hfst⟩ := scanF_first hsc
    have hk : k < left.length := by omega
    have hfk2 := hfk
    simp only [f] at hfk2
    split at hfk2
    · rename_i hle
      injection hfk2 with hfk2
      refine ⟨k, gi left k, hk, get_gi hk, ?_, ?_, ?_, fun j hj hn => ?_⟩
      · rw [hrun, hsc, ← hfk2]; rfl
      · have := late_min (dR l) (pR l) ord 0
        rw [late_app]
        simp only [late, Int.zero_add] at hle ⊢
        omega
      · rw [sP_app]
        simp only [late, sP, Int.add_zero] at hle ⊢
        omega
      · have h5 := hfst j (Nat.zero_le _) hj
        simp only [f] at h5
        rw [if_pos hn] at h5; cases h5
    · cases hfk2
theorem best_loop {l : Rv} (ok : okR l) {best : Int} : ∀ (m : Nat) (left ord : List Int), left.length = m → (ord ++ left).Perm (evr l.length) → late (dR l) (pR l) ord 0 ≤ best → late (dR l) (pR l) (byD l left) (sP (pR l) ord) ≤ best →
    ∃ o, oloop (l210_2 (l, 0) best) (left, ord, sP (pR l) ord) = some o ∧ o.Perm (evr l.length) ∧ late (dR l) (pR l) o 0 ≤ best
  | 0, left, ord, hl, hp, h1, _ => by
    have : left = [] := List.eq_nil_of_length_eq_zero hl
    subst this
    refine ⟨ord, oloop_done ?_, by simpa using hp, h1⟩
    unfold l210_2
    rfl
  | m + 1, left, ord, hl, hp, h1, h2 => by
    have hne : left ≠ [] := fun e => by subst e; cases hl
    obtain ⟨k, x, hk, hx, hrun, h3, h4, _⟩ := best_step ok hp hne h1 h2
    have hlx : left[k] = x := by rw [List.getElem?_eq_getElem hk] at hx; injection hx
    have hp2 : ((ord ++ [x]) ++ left.eraseIdx k).Perm (evr l.length) := by
      refine List.Perm.trans ?_ hp
      rw [List.append_assoc]
      refine List.Perm.append_left ord ?_
      rw [← hlx]; exact (perm_erase hk).symm
    obtain ⟨o, h5, h6, h7⟩ := best_loop ok m (left.eraseIdx k) (ord ++ [x]) (by rw [List.length_eraseIdx, if_pos hk]; omega) hp2 h3 h4
    refine ⟨o, ?_, h6, h7⟩
    rw [oloop_step (e' := (left.eraseIdx k, ord ++ [x], sP (pR l) (ord ++ [x]))) ?_, h5]
    unfold l210_2
    have t1 : ilt 0 (((left.map eI).length : Nat) : Int) = true := by rw [List.length_map]; exact ilt_t (by omega)
    simp only [t1, oite_t]
    exact hrun
theorem f210_e {l : Rv} (hs : ∀ p, p ∈ l → p.1.size ≤ 9223372036854775807) (ok : okR l) (hc : ckR l = (0, 0)) : ∃ o, f210 l = some (o, bestL l, 0) ∧ o.Perm (evr l.length) ∧ late (dR l) (pR l) o 0 = bestL l := by
  have hfew := ok.few
  have hle := evr_len l.length
  have e227 := f227_e ok (evr_inR l) (by omega)
  have hbl := byD_len l (evr l.length)
  have e226 := f226_e ok (byD_in (evr_inR l)) (d := 0) (by omega) (by omega)
  obtain ⟨o, h1, h2, h3⟩ := best_loop ok (best := bestL l) l.length (evr l.length) [] hle (by simp) (show (-200000 : Int) ≤ bestL l from late_min _ _ _ 0) (by simp only [sP]; exact Int.le_refl _)
  refine ⟨o, ?_, h2, Int.le_antisymm h3 (bestL_le ok h2)⟩
  unfold f210
  rw [f224_e (by omega) hs, obnd_s, hc]
  simp only [ieq_eq, decide_true, Bool.not_true, oite_f, f225_e hfew, obnd_s, e227, e226]
  rw [show late (dR l) (pR l) (byD l (evr l.length)) 0 = bestL l from rfl]
  refine (obnd_of (a := o) h1).trans rfl
end
section
set_option linter.unusedSimpArgs false
set_option linter.unusedVariables false
open Go Go.RowKit

/-! ### Bounds of groups -/
def mxF (D : Int → Int) : List Int → Int
  | [] => 0
  | i :: r => max (D i) (mxF D r)
def bndR (D P : Int → Int) (G : List Int) : Int := sP P G - mxF D G
theorem mxF_nn (D : Int → Int) : ∀ (G : List Int), 0 ≤ mxF D G
  | [] => by simp [mxF]
  | i :: r => by have := mxF_nn D r; simp only [mxF]; omega
theorem mxF_ge (D : Int → Int) : ∀ {G : List Int} {x : Int}, x ∈ G → D x ≤ mxF D G
  | i :: r, x, h => by
    simp only [mxF]
    rw [List.mem_cons] at h
    rcases h with rfl | h
    · omega
    · have := mxF_ge D h; omega
theorem mxF_le (D : Int → Int) {M : Int} (hM : 0 ≤ M) : ∀ {G : List Int}, (∀ x, x ∈ G → D x ≤ M) → mxF D G ≤ M
  | [], _ => by simpa [mxF] using hM
  | i :: r, h => by
    have := mxF_le D hM (G := r) fun x hx => h x (by simp [hx])
    have := h i (by simp)
    simp only [mxF]; omega
theorem mxF_perm (D : Int → Int) {x y : List Int} (h : x.Perm y) : mxF D x = mxF D y := by
  induction h with
  | nil => rfl
  | cons a _ ih => simp only [mxF, ih]
  | swap a b l => simp only [mxF]; omega
  | trans _ _ h1 h2 => exact h1.trans h2
theorem bndR_perm (D P : Int → Int) {x y : List Int} (h : x.Perm y) : bndR D P x = bndR D P y := by unfold bndR; rw [sP_perm P h, mxF_perm D h]
theorem bnd_run {l : Rv} (ok : okR l) {o : List Int} (hi : inR l o) (hl : o.length ≤ 1000) (g : Int × Int × Int → Option ((Int × Int × Int) ⊕ (Int × Int)))
    (h1 : ∀ (p : List Int) (a : Int) (r : List Int) (d w : Int), p ++ a :: r = o → 0 ≤ d → d ≤ 100000000 → 0 ≤ a ∧ a < l.length → g (d, w, (p.length : Int)) = some (.inl (d + pR l a, max w (dR l a), ((p.length + 1 : Nat) : Int))))
    (h2 : ∀ d w, g (d, w, (o.length : Int)) = some (.inr (d, w))) : oloop g (0, 0, 0) = some (sP (pR l) o, mxF (dR l) o) := by
  have main : ∀ (r p : List Int) (d w : Int), 0 ≤ d → d + 100000 * (r.length : Int) ≤ 100000000 → 0 ≤ w → p ++ r = o → oloop g (d, w, (p.length : Int)) = some (d + sP (pR l) r, max w (mxF (dR l) r)) := by
    intro r
    induction r with
    | nil =>
      intro p d w _ _ hw ho
      simp at ho
      rw [ho, oloop_done (h2 d w)]
      simp only [sP, mxF, Int.add_zero]; congr 2; omega
    | cons a r ih =>
      intro p d w h0 hB hw ho
      have ha : 0 ≤ a ∧ a < l.length := hi a (by rw [← ho]; simp)
      have hpa := pR_le ok ha
      have hda := dR_le ok ha
      rw [oloop_step (h1 p a r d w ho h0 (by omega) ha)]
      have := ih (p ++ [a]) (d + pR l a) (max w (dR l a)) (by omega) (by simp at hB; omega) (by omega) (by simpa using ho)
      rw [show ((p ++ [a]).length : Int) = ((p.length + 1 : Nat) : Int) by simp] at this
      rw [this]
      simp only [sP, mxF]; congr 2 <;> omega
  have := main o [] 0 0 (by omega) (by omega) (by omega) rfl
  have hn := mxF_nn (dR l) o
  rw [Int.zero_add, show max 0 (mxF (dR l) o) = mxF (dR l) o by omega] at this
  exact this
theorem bnd_wr {l : Rv} (ok : okR l) {o : List Int} (hi : inR l o) (hl : o.length ≤ 1000) : IntKind.i64.wrap (sP (pR l) o - mxF (dR l) o) = bndR (dR l) (pR l) o := by
  have h1 := sP_le ok hi
  have h2 := mxF_nn (dR l) o
  have h3 : mxF (dR l) o ≤ 100000 := mxF_le _ (by omega) fun x hx => (dR_le ok (hi x hx)).2
  exact wr (by omega) (by omega)
theorem f362_e {l : Rv} (ok : okR l) {o : List Int} (hi : inR l o) (hl : o.length ≤ 1000) : f362 l o = some (bndR (dR l) (pR l) o) := by
  unfold f362
  refine (obnd_of (a := (sP (pR l) o, mxF (dR l) o)) (bnd_run ok hi hl _ ?_ ?_)).trans (by rw [bnd_wr ok hi hl])
  · intro p a r d w ho h0 hB ha
    have hlt : p.length < o.length := by rw [← ho]; simp
    have hpa := pR_le ok ha
    have t1 : ilt (p.length : Int) (((o.map eI).length : Nat) : Int) = true := by rw [List.length_map]; exact ilt_t (by omega)
    have t2 : ile 0 (p.length : Int) = true := ile_t (by omega)
    have t3 : ile 0 a = true := ile_t ha.1
    have g1 : o[p.length]? = some a := by rw [← ho, List.getElem?_append_right (Nat.le_refl _)]; simp
    have w1 : IntKind.i64.wrap (d + pR l a) = d + pR l a := wr (by omega) (by omega)
    have w3 : IntKind.i64.wrap ((p.length : Int) + 1) = ((p.length + 1 : Nat) : Int) := by rw [wr (by omega) (by omega)]; omega
    simp only [t1, t2, t3, oite_t, ogrd_t, Int.toNat_natCast, g1, obnd_s, inR_get ha]
    rw [show (gr l a.toNat).2.2 = pR l a from rfl, show (gr l a.toNat).2.1 = dR l a from rfl, w1, w3, imax_e]
  · intro d w
    have t1 : ilt (o.length : Int) (((o.map eI).length : Nat) : Int) = false := by rw [List.length_map]; exact ilt_f (by omega)
    simp only [t1, oite_f]
theorem f343_e {l : Rv} (ok : okR l) {o : List Int} (hi : inR l o) (hl : o.length ≤ 1000) : f343 l o = some (bndR (dR l) (pR l) o) := by
  unfold f343
  refine (obnd_of (a := (sP (pR l) o, mxF (dR l) o)) (bnd_run ok hi hl _ ?_ ?_)).trans (by rw [bnd_wr ok hi hl])
  · intro p a r d w ho h0 hB ha
    have hlt : p.length < o.length := by rw [← ho]; simp
    have hpa := pR_le ok ha
    have t1 : ilt (p.length : Int) (((o.map eI).length : Nat) : Int) = true := by rw [List.length_map]; exact ilt_t (by omega)
    have t2 : ile 0 (p.length : Int) = true := ile_t (by omega)
    have t3 : ile 0 a = true := ile_t ha.1
    have g1 : o[p.length]? = some a := by rw [← ho, List.getElem?_append_right (Nat.le_refl _)]; simp
    have w1 : IntKind.i64.wrap (d + pR l a) = d + pR l a := wr (by omega) (by omega)
    have w3 : IntKind.i64.wrap ((p.length : Int) + 1) = ((p.length + 1 : Nat) : Int) := by rw [wr (by omega) (by omega)]; omega
    simp only [t1, t2, t3, oite_t, ogrd_t, Int.toNat_natCast, g1, obnd_s, inR_get ha]
    rw [show (gr l a.toNat).2.2 = pR l a from rfl, show (gr l a.toNat).2.1 = dR l a from rfl, w1, w3, imax_e]
  · intro d w
    have t1 : ilt (o.length : Int) (((o.map eI).length : Nat) : Int) = false := by rw [List.length_map]; exact ilt_f (by omega)
    simp only [t1, oite_f]

/-! ### Groups by numbers -/
def grp (n m : Nat) : List Int := (evr n).filter fun x => m.testBit x.toNat
theorem grp_mem {n m : Nat} {x : Int} : x ∈ grp n m ↔ (0 ≤ x ∧ x < n) ∧ m.testBit x.toNat = true := by unfold grp; rw [List.mem_filter, evr_mem]
theorem grp_sub (n m : Nat) : (grp n m).Sublist (evr n) := List.filter_sublist
theorem grp_len (n m : Nat) : (grp n m).length ≤ n := by have := (grp_sub n m).length_le; rw [evr_len] at this; exact this
theorem evr_succ (i : Nat) : evr (i + 1) = evr i ++ [(i : Int)] := by unfold evr; rw [List.range_succ, List.map_append]; rfl
theorem grp_succ (i m : Nat) : grp (i + 1) m = if m.testBit i = true then grp i m ++ [(i : Int)] else grp i m := by
  unfold grp
  rw [evr_succ, List.filter_append]
  by_cases h : m.testBit i = true
  · rw [if_pos h, List.filter_cons_of_pos (by simpa using h)]; rfl
  · rw [if_neg h, List.filter_cons_of_neg (by simpa using h)]; simp
theorem bit_e {m i : Nat} (hm : m < 9223372036854775808) (hi : i < 64) : ieq (IntKind.i64.wrap (BitVec.ofInt (IntKind.bits .i64) ((m : Int).fdiv (2 ^ (min (i : Int).toNat (IntKind.bits .i64)))) &&& BitVec.ofInt (IntKind.bits .i64) (1 : Int)).toNat) (1 : Int) = m.testBit i := by
  have e0 : min (i : Int).toNat (IntKind.bits .i64) = i := by show min i 64 = i; omega
  have e1 : (m : Int).fdiv (2 ^ i) = ((m / 2 ^ i : Nat) : Int) := by
    rw [Int.fdiv_eq_ediv_of_nonneg _ (by exact Int.pow_nonneg (by omega)), show ((2 : Int) ^ i) = ((2 ^ i : Nat) : Int) by rw [Int.natCast_pow]; rfl]
    rfl
  have hlt : m / 2 ^ i < 18446744073709551616 := Nat.lt_of_le_of_lt (Nat.div_le_self _ _) (by omega)
  have e2 : ∀ k : Nat, BitVec.ofInt 64 (k : Int) = BitVec.ofNat 64 k := fun k => by simp
  have e3 : BitVec.ofInt 64 1 = BitVec.ofNat 64 (2 ^ 1 - 1) := rfl
  rw [e0, e1]
  show ieq (IntKind.i64.wrap ((BitVec.ofInt 64 ((m / 2 ^ i : Nat) : Int) &&& BitVec.ofInt 64 (1 : Int)).toNat : Int)) 1 = _
  rw [e2, e3, BitVec.toNat_and, BitVec.toNat_ofNat, BitVec.toNat_ofNat, Nat.mod_eq_of_lt hlt, Nat.mod_eq_of_lt (show 2 ^ 1 - 1 < 2 ^ 64 by omega), Nat.and_two_pow_sub_one_eq_mod, wr (by omega) (by omega), ieq_eq, Nat.testBit_eq_decide_div_mod_eq, Bool.eq_iff_iff, decide_eq_true_eq, decide_eq_true_eq]
  omega
theorem grp_run {l : Rv} (hfew : l.length ≤ 8) {b : List Int} {m : Nat} (hm : m < 9223372036854775808) : oloop (l336_1 (l, 0) (b, (m : Int))) ([], 0) = some (grp l.length m) := by
  refine oloop_all (fun i => (grp i m, (i : Int))) l.length rfl ?_ ?_
  · intro i hi
    have hl := grp_len i m
    have t1 : ilt (i : Int) (((l.map e_SII).length : Nat) : Int) = true := by rw [List.length_map]; exact ilt_t (by omega)
    have t2 : (!ilt (i : Int) 0) = true := by rw [ilt_f (by omega)]; rfl
    unfold l336_1
    simp only [t1, t2, oite_t, ogrd_t]
    rw [bit_e hm (by omega), wr (by omega) (by omega), grp_succ]
    cases m.testBit i with
    | true =>
      rw [oite_t, ogrd_fits (by simp; omega) (by simp; omega)]; rfl
    | false => rfl
  · have t1 : ilt ((l.length : Nat) : Int) (((l.map e_SII).length : Nat) : Int) = false := by rw [List.length_map]; exact ilt_f (by omega)
    unfold l336_1
    simp only [t1, oite_f]
theorem grp_in (l : Rv) (m : Nat) : inR l (grp l.length m) := fun _ hx => (grp_mem.1 hx).1
theorem grp_ne {n m : Nat} (h1 : 1 ≤ m) (h2 : m < 2 ^ n) : grp n m ≠ [] := by
  intro h
  have : m = 0 := by
    refine Nat.eq_of_testBit_eq fun i => ?_
    rw [Nat.zero_testBit]
    by_cases hi : i < n
    · cases hb : m.testBit i with
      | false => rfl
      | true =>
        have : (i : Int) ∈ grp n m := grp_mem.2 ⟨by omega, hb⟩
        rw [h] at this; cases this
    · exact Nat.testBit_lt_two_pow (Nat.lt_of_lt_of_le h2 (Nat.pow_le_pow_right (by omega) (by omega)))
  omega
/-- Which number a set has. -/
def msk (q : Nat → Bool) : Nat → Nat
  | 0 => 0
  | k + 1 => 2 ^ k * (q k).toNat + msk q k
theorem msk_lt (q : Nat → Bool) : ∀ k, msk q k < 2 ^ k
  | 0 => by simp [msk]
  | k + 1 => by
    have := msk_lt q k
    have : (q k).toNat ≤ 1 := Bool.toNat_le (q k)
    have h : 2 ^ k * (q k).toNat ≤ 2 ^ k := by
      cases q k <;> simp
    simp only [msk, Nat.pow_succ]; omega
theorem msk_bit (q : Nat → Bool) : ∀ k i, i < k → (msk q k).testBit i = q i
  | k + 1, i, h => by
    simp only [msk]
    rw [Nat.testBit_two_pow_mul_add _ (msk_lt q k)]
    by_cases hi : i < k
    · rw [if_pos hi]; exact msk_bit q k i hi
    · have : i = k := by omega
      subst this
      rw [if_neg hi, Nat.sub_self]
      cases q i <;> rfl

/-! ### Comparing groups -/
def cmpI : List Int → List Int → Int
  | [], [] => 0
  | [], _ :: _ => -1
  | _ :: _, [] => 1
  | a :: r, b :: s => if a < b then -1 else if b < a then 1 else cmpI r s
theorem f108_e (a b : Int) : f108 a b = some (if a < b then -1 else if b < a then 1 else 0) := by
  unfold f108
  simp only [ieq_eq, decide_true, Bool.not_true, oite_f, ilt_eq]
  by_cases h1 : a < b
  · rw [decide_eq_true h1, if_pos h1]; rfl
  · rw [decide_eq_false h1, if_neg h1, oite_f]
    by_cases h2 : b < a
    · rw [decide_eq_true h2, if_pos h2]; rfl
    · rw [decide_eq_false h2, if_neg h2]; rfl
theorem f363_e {a b : List Int} (ha : a.length ≤ 1000000) (hb : b.length ≤ 1000000) : f363 a b = some (cmpI a b) := by
  unfold f363
  have main : ∀ (r s p : List Int) (q : List Int) (g : Int → Option (Int ⊕ (Unit ⊕ Int))) (k : Unit → Option Int), p.length = q.length → p ++ r = a → q ++ s = b →
      (∀ i x, i < a.length → a[i]? = some x → b.length ≤ i → g (i : Int) = some (.inr (.inr 1))) →
      (∀ i x y, i < a.length → a[i]? = some x → b[i]? = some y → g (i : Int) = if x < y then some (.inr (.inr (-1))) else if y < x then some (.inr (.inr 1)) else some (.inl ((i + 1 : Nat) : Int))) →
      g (a.length : Int) = some (.inr (.inl ())) → k () = some (if a.length < b.length then -1 else 0) →
      obndS (oloop g (p.length : Int)) k = some (cmpI r s) := by
    intro r
    induction r with
    | nil =>
      intro s p q g k hpq hp hq _ _ h3 h4
      simp at hp
      rw [hp, oloop_done h3, obndS_l, h4]
      have hbl : b.length = q.length + s.length := by rw [← hq]; simp
      cases s with
      | nil => rw [if_neg (by simp at hbl; have := congrArg List.length hp; omega)]; rfl
      | cons y s => rw [if_pos (by simp at hbl; have := congrArg List.length hp; omega)]; rfl
    | cons x r ih =>
      intro s p q g k hpq hp hq h1 h2 h3 h4
      have hpl : p.length < a.length := by rw [← hp]; simp
      have hx : a[p.length]? = some x := by rw [← hp, List.getElem?_append_right (Nat.le_refl _)]; simp
      have hbl : b.length = q.length + s.length := by rw [← hq]; simp
      cases s with
      | nil => rw [oloop_done (h1 p.length x hpl hx (by simp at hbl; omega)), obndS_r]; rfl
      | cons y s =>
        have hy : b[p.length]? = some y := by rw [← hq, hpq, List.getElem?_append_right (Nat.le_refl _)]; simp
        have hg := h2 p.length x y hpl hx hy
        simp only [cmpI]
        by_cases h5 : x < y
        · rw [if_pos h5] at hg
          rw [oloop_done hg, if_pos h5, obndS_r]
        · rw [if_neg h5] at hg
          rw [if_neg h5]
          by_cases h6 : y < x
          · rw [if_pos h6] at hg
            rw [oloop_done hg, if_pos h6, obndS_r]
          · rw [if_neg h6] at hg
            rw [oloop_step hg, if_neg h6]
            have := ih s (p ++ [x]) (q ++ [y]) g k (by simp [hpq]) (by simpa using hp) (by simpa using hq) h1 h2 h3 h4
            rw [show ((p ++ [x]).length : Int) = ((p.length + 1 : Nat) : Int) by simp] at this
            exact this
  refine main a b [] [] _ _ rfl rfl rfl ?_ ?_ ?_ ?_
  · intro i x hi hx hbi
    have t1 : ilt (i : Int) (((a.map eI).length : Nat) : Int) = true := by rw [List.length_map]; exact ilt_t (by omega)
    have t2 : ile 0 (i : Int) = true := ile_t (by omega)
    have t3 : ile (((b.map eI).length : Nat) : Int) (i : Int) = true := by rw [List.length_map]; exact ile_t (by omega)
    simp only [t1, t2, t3, oite_t, ogrd_t, Int.toNat_natCast, hx, obnd_s]
  · intro i x y hi hx hy
    have hbi : i < b.length := (List.getElem?_eq_some_iff.1 hy).1
    have t1 : ilt (i : Int) (((a.map eI).length : Nat) : Int) = true := by rw [List.length_map]; exact ilt_t (by omega)
    have t2 : ile 0 (i : Int) = true := ile_t (by omega)
    have t3 : ile (((b.map eI).length : Nat) : Int) (i : Int) = false := by rw [List.length_map, ile_eq]; simp; omega
    simp only [t1, t2, t3, oite_t, oite_f, ogrd_t, Int.toNat_natCast, hx, hy, obnd_s, f108_e]
    rw [wr (by omega) (by omega), ieq_eq]
    by_cases h5 : x < y
    · rw [if_pos h5, if_pos h5]; rfl
    · rw [if_neg h5, if_neg h5]
      by_cases h6 : y < x
      · rw [if_pos h6, if_pos h6]; rfl
      · rw [if_neg h6, if_neg h6]; rfl
  · have t1 : ilt ((a.length : Nat) : Int) (((a.map eI).length : Nat) : Int) = false := by rw [List.length_map]; exact ilt_f (by omega)
    simp only [t1, oite_f]
  · simp only [List.length_map, ilt_eq, oite_e, decide_eq_true_eq, Int.ofNat_lt]
    split <;> rfl

/-! ### GroupOf -/
def lessG (g b : List Int) : Bool := decide (g.length < b.length) || (decide (g.length = b.length) && decide (cmpI g b < 0))
def stepG (l : Rv) (b g : List Int) : List Int := if bndR (dR l) (pR l) g = bestL l then (bif b.isEmpty then g else bif lessG g b then g else b) else b
def selG (l : Rv) : Nat → List Int
  | 0 => []
  | i + 1 => stepG l (selG l i) (grp l.length (i + 1))
theorem selG_len (l : Rv) : ∀ i, (selG l i).length ≤ l.length
  | 0 => by simp [selG]
  | i + 1 => by
    simp only [selG, stepG]
    have h1 := selG_len l i
    have h2 := grp_len l.length (i + 1)
    split
    · cases (selG l i).isEmpty <;> cases lessG (grp l.length (i + 1)) (selG l i) <;> simpa
    · exact h1
theorem sel_step {l : Rv} (ok : okR l) {i : Nat} (hi : i + 1 < 2 ^ l.length) : l336_2 (l, 0) (bestL l) (selG l i, ((i + 1 : Nat) : Int)) = some (.inl (selG l (i + 1), ((i + 2 : Nat) : Int))) := by
  have hfew := ok.few
  have hp : 2 ^ l.length ≤ 256 := Nat.le_trans (Nat.pow_le_pow_right (by omega) hfew) (by decide)
  have hgl := grp_len l.length (i + 1)
  have hsl := selG_len l i
  have e0 : min (((l.map e_SII).length : Nat) : Int).toNat (IntKind.bits .i64) = l.length := by
    show min ((l.map e_SII).length) 64 = l.length
    rw [List.length_map]; omega
  have e1 : IntKind.i64.wrap ((1 : Int) * 2 ^ l.length) = ((2 ^ l.length : Nat) : Int) := by
    rw [Int.one_mul, show ((2 : Int) ^ l.length) = ((2 ^ l.length : Nat) : Int) by rw [Int.natCast_pow]; rfl]
    exact wr (by omega) (by omega)
  have t1 : ilt ((i + 1 : Nat) : Int) ((2 ^ l.length : Nat) : Int) = true := ilt_t (by omega)
  have w1 : IntKind.i64.wrap (((i + 1 : Nat) : Int) + 1) = ((i + 2 : Nat) : Int) := by rw [wr (by omega) (by omega)]; omega
  have hne : (!(grp l.length (i + 1)).isEmpty) = true := by
    have := grp_ne (n := l.length) (m := i + 1) (by omega) hi
    cases h : grp l.length (i + 1) with
    | nil => exact absurd h this
    | cons _ _ => rfl
  unfold l336_2
  rw [e0, e1, t1, oite_t]
  refine (obnd_of (grp_run hfew (b := selG l i) (m := i + 1) (by omega))).trans ?_
  rw [f362_e ok (grp_in l _) (by omega), obnd_s, ieq_eq, w1, hne]
  simp only [selG, stepG, ogrd_t]
  by_cases h1 : bndR (dR l) (pR l) (grp l.length (i + 1)) = bestL l
  · rw [if_pos h1, decide_eq_true h1, Bool.not_true, oite_f]
    cases h2 : (selG l i).isEmpty with
    | true => rfl
    | false =>
      rw [oite_f, cond_false]
      unfold lessG
      simp only [List.length_map, ilt_eq, ieq_eq, Int.ofNat_lt, ceqN]
      rw [f363_e (by omega) (by omega), obnd_s]
      cases decide ((grp l.length (i + 1)).length < (selG l i).length) with
      | true => rfl
      | false =>
        cases decide ((grp l.length (i + 1)).length = (selG l i).length) with
        | false => rfl
        | true =>
          simp only [oite_f, oite_t, obnd_s, Bool.false_or, Bool.true_and]
          cases decide (cmpI (grp l.length (i + 1)) (selG l i) < 0) <;> rfl
  · rw [if_neg h1, decide_eq_false h1, Bool.not_false, oite_t]
def ownG (l : Rv) : List Int := selG l (2 ^ l.length - 1)
theorem f336_e {l : Rv} (hs : ∀ p, p ∈ l → p.1.size ≤ 9223372036854775807) (ok : okR l) (hc : ckR l = (0, 0)) : f336 l = some (ownG l, 0) := by
  have hfew := ok.few
  have hle := evr_len l.length
  have e227 := f227_e ok (evr_inR l) (by omega)
  have hbl := byD_len l (evr l.length)
  have e226 := f226_e ok (byD_in (evr_inR l)) (d := 0) (by omega) (by omega)
  have hp1 : 1 ≤ 2 ^ l.length := Nat.one_le_two_pow
  have hp : 2 ^ l.length ≤ 256 := Nat.le_trans (Nat.pow_le_pow_right (by omega) hfew) (by decide)
  unfold f336
  rw [f224_e (by omega) hs, obnd_s, hc]
  simp only [ieq_eq, decide_true, Bool.not_true, oite_f, f225_e hfew, obnd_s, e227, e226]
  rw [show late (dR l) (pR l) (byD l (evr l.length)) 0 = bestL l from rfl]
  refine (obnd_of (a := ownG l) (oloop_all (fun i => (selG l i, ((i + 1 : Nat) : Int))) (2 ^ l.length - 1) rfl ?_ ?_)).trans rfl
  · intro i hi
    exact sel_step ok (by omega)
  · have e0 : min (((l.map e_SII).length : Nat) : Int).toNat (IntKind.bits .i64) = l.length := by
      show min ((l.map e_SII).length) 64 = l.length
      rw [List.length_map]; omega
    have e1 : IntKind.i64.wrap ((1 : Int) * 2 ^ l.length) = ((2 ^ l.length : Nat) : Int) := by
      rw [Int.one_mul, show ((2 : Int) ^ l.length) = ((2 ^ l.length : Nat) : Int) by rw [Int.natCast_pow]; rfl]
      exact wr (by omega) (by omega)
    have t1 : ilt ((2 ^ l.length - 1 + 1 : Nat) : Int) ((2 ^ l.length : Nat) : Int) = false := ilt_f (by omega)
    unfold l336_2
    rw [e0, e1, t1, oite_f]; rfl

/-! ### There is such a group -/
theorem late_att {l : Rv} (ok : okR l) : ∀ (s : List Int) (d : Int), s ≠ [] → inR l s → 0 ≤ d → ∃ p a r, s = p ++ a :: r ∧ late (dR l) (pR l) s d = d + sP (pR l) p + pR l a - dR l a
  | [], _, h, _, _ => absurd rfl h
  | i :: r, d, _, hin, hd => by
    have hi := hin i (by simp)
    have hpi := pR_le ok hi
    have hdi := dR_le ok hi
    by_cases hr : r = []
    · subst hr
      exact ⟨[], i, [], rfl, by simp only [late, sP]; omega⟩
    · obtain ⟨p, a, r', h1, h2⟩ := late_att ok r (d + pR l i) hr (fun x hx => hin x (by simp [hx])) (by omega)
      by_cases h3 : late (dR l) (pR l) r (d + pR l i) ≤ d + pR l i - dR l i
      · exact ⟨[], i, r, rfl, by simp only [late, sP]; omega⟩
      · exact ⟨i :: p, a, r', by rw [h1]; rfl, by simp only [late, sP]; omega⟩
theorem grp_ex {l : Rv} (ok : okR l) : ∃ m, 1 ≤ m ∧ m < 2 ^ l.length ∧ bndR (dR l) (pR l) (grp l.length m) = bestL l := by
  have hin := byD_in (evr_inR l)
  have hne : byD l (evr l.length) ≠ [] := fun h => by
    have := byD_len l (evr l.length)
    rw [h, evr_len] at this
    have hp := ok.pos
    simp at this; omega
  obtain ⟨p, a, r, h1, h2⟩ := late_att ok _ 0 hne hin (by omega)
  have hnd : (byD l (evr l.length)).Nodup := (byD_evr l).nodup_iff.2 (evr_nodup _)
  have hsr := byD_srt l (evr l.length)
  rw [h1] at hnd hsr
  have hG : ∀ x, x ∈ p ++ [a] → 0 ≤ x ∧ x < l.length := fun x hx => hin x (by rw [h1]; simp at hx ⊢; rcases hx with h | h <;> simp [h])
  have hGn : (p ++ [a]).Nodup := by
    rw [show p ++ a :: r = (p ++ [a]) ++ r by simp, List.nodup_append] at hnd
    exact hnd.1
  let q : Nat → Bool := fun i => decide ((i : Int) ∈ p ++ [a])
  have hmem : ∀ x, x ∈ grp l.length (msk q l.length) ↔ x ∈ p ++ [a] := by
    intro x
    rw [grp_mem]
    constructor
    · rintro ⟨hx, hb⟩
      rw [msk_bit q l.length x.toNat (by omega)] at hb
      have := of_decide_eq_true hb
      rwa [show ((x.toNat : Nat) : Int) = x by omega] at this
    · intro hx
      have hr := hG x hx
      refine ⟨hr, ?_⟩
      rw [msk_bit q l.length x.toNat (by omega)]
      refine decide_eq_true ?_
      rwa [show ((x.toNat : Nat) : Int) = x by omega]
  have hperm : (grp l.length (msk q l.length)).Perm (p ++ [a]) := (List.perm_ext_iff_of_nodup ((evr_nodup _).sublist (grp_sub _ _)) hGn).2 hmem
  refine ⟨msk q l.length, ?_, msk_lt q _, ?_⟩
  · have : a ∈ grp l.length (msk q l.length) := (hmem a).2 (by simp)
    have := (grp_mem.1 this).2
    rcases Nat.eq_zero_or_pos (msk q l.length) with h | h
    · rw [h, Nat.zero_testBit] at this; cases this
    · exact h
  · rw [bndR_perm _ _ hperm]
    unfold bndR bestL
    rw [h2, sP_app]
    have hda := dR_le ok (hG a (by simp))
    have hmx : mxF (dR l) (p ++ [a]) = dR l a := by
      refine Int.le_antisymm (mxF_le _ hda.1 fun x hx => ?_) (mxF_ge _ (by simp))
      rw [List.mem_append] at hx
      rcases hx with hx | hx
      · unfold srtd at hsr
        rw [List.pairwise_append] at hsr
        exact hsr.2.2 x hx a (by simp)
      · simp at hx; subst hx; exact Int.le_refl _
    rw [hmx]; simp only [sP]; omega
theorem selG_inv (l : Rv) : ∀ i, (selG l i = [] ∧ ∀ j, j < i → grp l.length (j + 1) ≠ [] → bndR (dR l) (pR l) (grp l.length (j + 1)) ≠ bestL l) ∨ ∃ j, j < i ∧ selG l i = grp l.length (j + 1) ∧ bndR (dR l) (pR l) (grp l.length (j + 1)) = bestL l
  | 0 => .inl ⟨rfl, fun j h => by omega⟩
  | i + 1 => by
    by_cases h1 : bndR (dR l) (pR l) (grp l.length (i + 1)) = bestL l
    · simp only [selG, stepG, if_pos h1]
      rcases selG_inv l i with ⟨h2, h3⟩ | ⟨j, h2, h3, h4⟩
      · rw [h2]; exact .inr ⟨i, by omega, rfl, h1⟩
      · cases (selG l i).isEmpty with
        | true => exact .inr ⟨i, by omega, rfl, h1⟩
        | false =>
          cases lessG (grp l.length (i + 1)) (selG l i) with
          | true => exact .inr ⟨i, by omega, rfl, h1⟩
          | false => exact .inr ⟨j, by omega, h3, h4⟩
    · simp only [selG, stepG, if_neg h1]
      rcases selG_inv l i with ⟨h2, h3⟩ | ⟨j, h2, h3, h4⟩
      · refine .inl ⟨h2, fun j hj hn => ?_⟩
        by_cases he : j = i
        · subst he; exact h1
        · exact h3 j (by omega) hn
      · exact .inr ⟨j, by omega, h3, h4⟩
theorem ownG_ok {l : Rv} (ok : okR l) : ∃ m, 1 ≤ m ∧ m < 2 ^ l.length ∧ ownG l = grp l.length m ∧ bndR (dR l) (pR l) (ownG l) = bestL l := by
  obtain ⟨m, h1, h2, h3⟩ := grp_ex ok
  unfold ownG
  rcases selG_inv l (2 ^ l.length - 1) with ⟨_, h5⟩ | ⟨j, h4, h5, h6⟩
  · have := h5 (m - 1) (by omega)
    rw [show m - 1 + 1 = m by omega] at this
    exact absurd h3 (this (grp_ne h1 h2))
  · exact ⟨j + 1, by omega, by omega, h5, by rw [h5]; exact h6⟩
end
section
set_option linter.unusedSimpArgs false
set_option linter.unusedVariables false
open Go Go.RowKit

/-! ### Ascending lists -/
def asc (t : List Int) : Prop := t.Pairwise (· < ·)
theorem asc_ext : ∀ (x y : List Int), asc x → asc y → (∀ a, a ∈ x ↔ a ∈ y) → x = y
  | [], [], _, _, _ => rfl
  | [], b :: y, _, _, h => by have := (h b).2 (by simp); cases this
  | a :: x, [], _, _, h => by have := (h a).1 (by simp); cases this
  | a :: x, b :: y, hx, hy, h => by
    unfold asc at hx hy
    rw [List.pairwise_cons] at hx hy
    have hab : a = b := by
      have h1 := (h a).1 (by simp)
      have h2 := (h b).2 (by simp)
      rw [List.mem_cons] at h1 h2
      rcases h1 with h1 | h1
      · exact h1
      · rcases h2 with h2 | h2
        · exact h2.symm
        · have := hy.1 a h1; have := hx.1 b h2; omega
    subst hab
    rw [asc_ext x y hx.2 hy.2 fun c => ⟨fun hc => ?_, fun hc => ?_⟩]
    · have h3 := (h c).1 (by simp [hc])
      rw [List.mem_cons] at h3
      rcases h3 with h3 | h3
      · have := hx.1 c hc; omega
      · exact h3
    · have h3 := (h c).2 (by simp [hc])
      rw [List.mem_cons] at h3
      rcases h3 with h3 | h3
      · have := hy.1 c hc; omega
      · exact h3
theorem evr_asc (n : Nat) : asc (evr n) := by
  unfold asc evr
  rw [List.pairwise_map]
  exact List.pairwise_lt_range.imp fun h => by omega
theorem asc_sub {x y : List Int} (h : x.Sublist y) (hy : asc y) : asc x := List.Pairwise.sublist h hy
theorem grp_asc (n m : Nat) : asc (grp n m) := asc_sub (grp_sub n m) (evr_asc n)
theorem asc_nodup {x : List Int} (h : asc x) : x.Nodup := List.Pairwise.imp (fun hab => by omega) h
theorem asc_grp {n : Nat} {t : List Int} (h : asc t) (hi : ∀ x, x ∈ t → 0 ≤ x ∧ x < n) : t = grp n (msk (fun i => decide ((i : Int) ∈ t)) n) := by
  refine asc_ext _ _ h (grp_asc _ _) fun x => ?_
  rw [grp_mem]
  constructor
  · intro hx
    have hr := hi x hx
    refine ⟨hr, ?_⟩
    rw [msk_bit _ n x.toNat (by omega), show ((x.toNat : Nat) : Int) = x by omega]
    exact decide_eq_true hx
  · rintro ⟨hr, hb⟩
    rw [msk_bit _ n x.toNat (by omega), show ((x.toNat : Nat) : Int) = x by omega] at hb
    exact of_decide_eq_true hb
theorem msk_pos {n : Nat} {t : List Int} (hi : ∀ x, x ∈ t → 0 ≤ x ∧ x < n) (h : t ≠ []) : 1 ≤ msk (fun i => decide ((i : Int) ∈ t)) n := by
  obtain ⟨a, r, rfl⟩ : ∃ a r, t = a :: r := by
    cases t with
    | nil => exact absurd rfl h
    | cons a r => exact ⟨a, r, rfl⟩
  have ha := hi a (by simp)
  have hb := msk_bit (fun i => decide ((i : Int) ∈ a :: r)) n a.toNat (by omega)
  rw [show ((a.toNat : Nat) : Int) = a by omega, decide_eq_true (by simp)] at hb
  rcases Nat.eq_zero_or_pos (msk (fun i => decide ((i : Int) ∈ a :: r)) n) with h0 | h0
  · rw [h0, Nat.zero_testBit] at hb; cases hb
  · exact h0

/-! ### The order of groups -/
theorem cmpI_anti : ∀ (a b : List Int), cmpI b a = - cmpI a b
  | [], [] => rfl
  | [], _ :: _ => rfl
  | _ :: _, [] => rfl
  | x :: a, y :: b => by
    have := cmpI_anti a b
    simp only [cmpI]
    by_cases h1 : x < y
    · have h3 : ¬ y < x := by omega
      simp only [if_pos h1, if_neg h3]; rfl
    · by_cases h2 : y < x
      · simp only [if_neg h1, if_pos h2]
      · simp only [if_neg h1, if_neg h2]; exact this
theorem cmpI_eq : ∀ {a b : List Int}, cmpI a b = 0 → a = b
  | [], [], _ => rfl
  | [], _ :: _, h => by simp [cmpI] at h
  | _ :: _, [], h => by simp [cmpI] at h
  | x :: a, y :: b, h => by
    simp only [cmpI] at h
    split at h
    · omega
    · split at h
      · omega
      · rw [cmpI_eq h, show x = y by omega]
theorem cmpI_rf : ∀ (a : List Int), cmpI a a = 0
  | [] => rfl
  | x :: a => by simp only [cmpI, Int.lt_irrefl, if_false]; exact cmpI_rf a
theorem cmpI_tr : ∀ {a b c : List Int}, cmpI a b < 0 → cmpI b c < 0 → cmpI a c < 0
  | [], [], _, h, _ => by simp [cmpI] at h
  | [], _ :: _, [], _, h => by simp [cmpI] at h
  | [], _ :: _, _ :: _, _, _ => by simp [cmpI]
  | _ :: _, [], _, h, _ => by simp [cmpI] at h
  | _ :: _, _ :: _, [], _, h => by simp [cmpI] at h
  | x :: a, y :: b, z :: c, h1, h2 => by
    simp only [cmpI] at h1 h2 ⊢
    by_cases e1 : x < y
    · by_cases e2 : z < y
      · rw [if_neg (by omega), if_pos e2] at h2; omega
      · rw [if_pos (by omega)]; decide
    · rw [if_neg e1] at h1
      by_cases e2 : y < x
      · rw [if_pos e2] at h1; omega
      · rw [if_neg e2] at h1
        have exy : x = y := by omega
        subst exy
        by_cases e3 : x < z
        · rw [if_pos e3]; decide
        · rw [if_neg e3] at h2 ⊢
          by_cases e4 : z < x
          · rw [if_pos e4] at h2; omega
          · rw [if_neg e4] at h2 ⊢
            exact cmpI_tr h1 h2
theorem lessG_t {g b : List Int} : lessG g b = true ↔ g.length < b.length ∨ (g.length = b.length ∧ cmpI g b < 0) := by
  unfold lessG
  rw [Bool.or_eq_true, Bool.and_eq_true, decide_eq_true_eq, decide_eq_true_eq, decide_eq_true_eq]
theorem lessG_rf (g : List Int) : lessG g g = false := by
  rw [Bool.eq_false_iff]
  intro h
  rcases lessG_t.1 h with h | ⟨_, h⟩
  · omega
  · rw [cmpI_rf] at h; omega
theorem lessG_tr {a b c : List Int} (h1 : lessG a b = true) (h2 : lessG b c = true) : lessG a c = true := by
  rw [lessG_t] at h1 h2 ⊢
  rcases h1 with h1 | ⟨h1, h3⟩ <;> rcases h2 with h2 | ⟨h2, h4⟩
  · exact .inl (by omega)
  · exact .inl (by omega)
  · exact .inl (by omega)
  · exact .inr ⟨by omega, cmpI_tr h3 h4⟩
theorem lessG_one {a b : List Int} (h1 : lessG a b = false) (h2 : lessG b a = false) : a = b := by
  rw [Bool.eq_false_iff] at h1 h2
  have h3 : ¬ (a.length < b.length ∨ (a.length = b.length ∧ cmpI a b < 0)) := fun h => h1 (lessG_t.2 h)
  have h4 : ¬ (b.length < a.length ∨ (b.length = a.length ∧ cmpI b a < 0)) := fun h => h2 (lessG_t.2 h)
  have h5 := cmpI_anti a b
  refine cmpI_eq ?_
  have h6 : a.length = b.length := by omega
  have h7 : ¬ cmpI a b < 0 := fun h => h3 (.inr ⟨h6, h⟩)
  have h8 : ¬ cmpI b a < 0 := fun h => h4 (.inr ⟨h6.symm, h⟩)
  omega
structure BestG (l : Rv) (g : List Int) : Prop where
  ex : ∃ m, 1 ≤ m ∧ m < 2 ^ l.length ∧ g = grp l.length m
  bnd : bndR (dR l) (pR l) g = bestL l
  min : ∀ m, 1 ≤ m → m < 2 ^ l.length → bndR (dR l) (pR l) (grp l.length m) = bestL l → lessG (grp l.length m) g = false
theorem BestG.one {l : Rv} {g h : List Int} (hg : BestG l g) (hh : BestG l h) : g = h := by
  obtain ⟨m, h1, h2, h3⟩ := hg.ex
  obtain ⟨k, h4, h5, h6⟩ := hh.ex
  have b1 := hg.bnd
  have b2 := hh.bnd
  have := hh.min m h1 h2 (by rw [← h3]; exact b1)
  have h8 := hg.min k h4 h5 (by rw [← h6]; exact b2)
  rw [← h3] at this
  rw [← h6] at h8
  exact lessG_one this h8
theorem selG_min (l : Rv) : ∀ i, i < 2 ^ l.length → ∀ j, j < i → bndR (dR l) (pR l) (grp l.length (j + 1)) = bestL l → lessG (grp l.length (j + 1)) (selG l i) = false
  | 0, _, j, hj, _ => by omega
  | i + 1, hi, j, hj, hb => by
    have ih := selG_min l i (by omega)
    by_cases h1 : bndR (dR l) (pR l) (grp l.length (i + 1)) = bestL l
    · simp only [selG, stepG, if_pos h1]
      cases h2 : (selG l i).isEmpty with
      | true =>
        have h3 : selG l i = [] := List.isEmpty_iff.1 h2
        rw [cond_true]
        by_cases hij : j = i
        · subst hij; exact lessG_rf _
        · rcases selG_inv l i with ⟨_, h5⟩ | ⟨k, h4, h5, _⟩
          · exact absurd hb (h5 j (by omega) (grp_ne (by omega) (by omega)))
          · rw [h3] at h5
            exact absurd h5.symm (grp_ne (by omega) (by omega))
      | false =>
        rw [cond_false]
        cases h3 : lessG (grp l.length (i + 1)) (selG l i) with
        | true =>
          rw [cond_true]
          by_cases hij : j = i
          · subst hij; exact lessG_rf _
          · rw [Bool.eq_false_iff]
            intro h4
            have := lessG_tr h4 h3
            rw [ih j (by omega) hb] at this; cases this
        | false =>
          rw [cond_false]
          by_cases hij : j = i
          · subst hij; exact h3
          · exact ih j (by omega) hb
    · simp only [selG, stepG, if_neg h1]
      by_cases hij : j = i
      · subst hij; exact absurd hb h1
      · exact ih j (by omega) hb
theorem ownG_best {l : Rv} (ok : okR l) : BestG l (ownG l) := by
  obtain ⟨m, h1, h2, h3, h4⟩ := ownG_ok ok
  have hp1 : 1 ≤ 2 ^ l.length := Nat.one_le_two_pow
  refine ⟨⟨m, h1, h2, h3⟩, h4, fun k h5 h6 h7 => ?_⟩
  have := selG_min l (2 ^ l.length - 1) (by omega) (k - 1) (by omega)
  rw [show k - 1 + 1 = k by omega] at this
  exact this h7

/-! ### The reference's groups -/
def fromN (b : List Int) : Nat := if b.length = 0 then 0 else (gi b (b.length - 1)).toNat + 1
def refG (l : Rv) : Nat → List Int → Option (List Int)
  | 0, b => if bndR (dR l) (pR l) b = bestL l then some b else none
  | k + 1, b => scanF (fun j => refG l k (b ++ [((fromN b + j : Nat) : Int)])) (l.length - fromN b) 0
theorem from_le {b t : List Int} {i : Int} (h : asc (b ++ i :: t)) (h0 : 0 ≤ i) (hb : ∀ x, x ∈ b → 0 ≤ x) : (fromN b : Int) ≤ i := by
  unfold fromN
  by_cases hl : b.length = 0
  · rw [if_pos hl]; omega
  · rw [if_neg hl]
    unfold asc at h
    rw [List.pairwise_append] at h
    have hlt : b.length - 1 < b.length := by omega
    have hm : gi b (b.length - 1) ∈ b := by unfold gi; rw [getD_i hlt]; exact List.getElem_mem hlt
    have := h.2.2 _ hm i (by simp)
    have := hb _ hm
    omega
theorem from_asc {b : List Int} {i : Int} (h : asc b) (hi : (fromN b : Int) ≤ i) : asc (b ++ [i]) := by
  unfold fromN at hi
  unfold asc at h ⊢
  rw [List.pairwise_append]
  refine ⟨h, by simp, fun x hx y hy => ?_⟩
  simp at hy; subst hy
  obtain ⟨k, hk, rfl⟩ := List.getElem_of_mem hx
  rw [if_neg (by omega)] at hi
  have hlt : b.length - 1 < b.length := by omega
  have hg : gi b (b.length - 1) = b[b.length - 1] := by unfold gi; rw [getD_i hlt]
  rw [hg] at hi
  by_cases hkl : k = b.length - 1
  · subst hkl; omega
  · have := List.pairwise_iff_getElem.1 h k (b.length - 1) hk hlt (by omega)
    omega
theorem refG_none (l : Rv) : ∀ (k : Nat) (b : List Int), refG l k b = none → ∀ t, t.length = k → asc (b ++ t) → inR l (b ++ t) → bndR (dR l) (pR l) (b ++ t) ≠ bestL l
  | 0, b, h, t, ht, _, _, hb => by
    rw [List.eq_nil_of_length_eq_zero ht, List.append_nil] at hb
    simp only [refG, if_pos hb] at h; cases h
  | k + 1, b, h, [], ht, _, _, _ => by cases ht
  | k + 1, b, h, i :: t, ht, ha, hi, hb => by
    have hir := hi i (by simp)
    have hf := from_le ha hir.1 fun x hx => (hi x (by simp [hx])).1
    simp only [refG] at h
    have := scanF_none h (i.toNat - fromN b) (Nat.zero_le _) (by omega)
    rw [show ((fromN b + (i.toNat - fromN b) : Nat) : Int) = i by omega] at this
    exact refG_none l k (b ++ [i]) this t (by simpa using ht) (by simpa using ha) (by simpa using hi) (by simpa using hb)
theorem refG_some (l : Rv) : ∀ (k : Nat) (b g : List Int), asc b → inR l b → refG l k b = some g → ∃ t, g = b ++ t ∧ t.length = k ∧ asc g ∧ inR l g ∧ bndR (dR l) (pR l) g = bestL l ∧
    ∀ t', t'.length = k → asc (b ++ t') → inR l (b ++ t') → bndR (dR l) (pR l) (b ++ t') = bestL l → ¬ cmpI t' t < 0
  | 0, b, g, ha, hi, h => by
    simp only [refG] at h
    split at h
    · rename_i hb
      injection h with h; subst h
      refine ⟨[], by simp, rfl, ha, hi, hb, fun t' ht _ _ _ => ?_⟩
      rw [List.eq_nil_of_length_eq_zero ht]; simp [cmpI]
    · cases h
  | k + 1, b, g, ha, hi, h => by
    simp only [refG] at h
    obtain ⟨j, _, h2, h3, h4⟩ := scanF_first h
    have hia : asc (b ++ [((fromN b + j : Nat) : Int)]) := from_asc ha (by omega)
    have hii : inR l (b ++ [((fromN b + j : Nat) : Int)]) := fun x hx => by
      rw [List.mem_append] at hx
      rcases hx with hx | hx
      · exact hi x hx
      · simp at hx; omega
    obtain ⟨t, e, hl, ha2, hi2, hb2, hm⟩ := refG_some l k _ g hia hii h3
    refine ⟨((fromN b + j : Nat) : Int) :: t, by rw [e]; simp, by simp [hl], ha2, hi2, hb2, fun t' ht ha' hi' hb' => ?_⟩
    cases t' with
    | nil => cases ht
    | cons i t' =>
      have hir := hi' i (by simp)
      have hf := from_le ha' hir.1 fun x hx => (hi' x (by simp [hx])).1
      simp only [cmpI]
      by_cases c1 : i < ((fromN b + j : Nat) : Int)
      · have := h4 (i.toNat - fromN b) (Nat.zero_le _) (by omega)
        rw [show ((fromN b + (i.toNat - fromN b) : Nat) : Int) = i by omega] at this
        exact absurd (by simpa using hb') (refG_none l k (b ++ [i]) this t' (by simpa using ht) (by simpa using ha') (by simpa using hi'))
      · rw [if_neg c1]
        by_cases c2 : ((fromN b + j : Nat) : Int) < i
        · rw [if_pos c2]; omega
        · rw [if_neg c2]
          have e2 : i = ((fromN b + j : Nat) : Int) := by omega
          subst e2
          exact hm t' (by simpa using ht) (by simpa using ha') (by simpa using hi') (by simpa using hb')
/-- The reference's group. -/
def grpS (l : Rv) : Option (List Int) := scanF (fun s => refG l (s + 1) []) l.length 0
theorem grpS_e {l : Rv} (ok : okR l) : grpS l = some (ownG l) := by
  have ho := ownG_best ok
  cases h : grpS l with
  | none =>
    obtain ⟨m, h1, h2, h3⟩ := ho.ex
    have hl := grp_len l.length m
    have hne := grp_ne h1 h2
    have hpos : (grp l.length m).length ≠ 0 := fun h => hne (List.eq_nil_of_length_eq_zero h)
    have h4 := scanF_none h ((grp l.length m).length - 1) (Nat.zero_le _) (by omega)
    have hb := ho.bnd
    rw [h3] at hb
    exact absurd hb (by simpa using refG_none l _ [] h4 (grp l.length m) (by omega) (by simpa using grp_asc _ _) (by simpa using grp_in l m))
  | some g =>
    obtain ⟨s, _, h2, h3, h4⟩ := scanF_first h
    obtain ⟨t, e, hl, ha, hi, hb, hm⟩ := refG_some l (s + 1) [] g (by simp [asc]) (by intro x hx; cases hx) h3
    rw [List.nil_append] at e; subst e
    have hgne : g ≠ [] := fun e => by rw [e] at hl; cases hl
    have hg : BestG l g := by
      refine ⟨⟨_, msk_pos hi hgne, msk_lt _ _, asc_grp ha hi⟩, hb, fun m h5 h6 h7 => ?_⟩
      rw [Bool.eq_false_iff]
      intro h8
      have hne := grp_ne h5 h6
      have hpos : (grp l.length m).length ≠ 0 := fun h => hne (List.eq_nil_of_length_eq_zero h)
      have hgl := grp_len l.length m
      rcases lessG_t.1 h8 with h9 | ⟨h9, h10⟩
      · have h11 := h4 ((grp l.length m).length - 1) (Nat.zero_le _) (by omega)
        exact absurd h7 (by simpa using refG_none l _ [] h11 (grp l.length m) (by omega) (by simpa using grp_asc _ _) (by simpa using grp_in l m))
      · exact hm (grp l.length m) (by omega) (by simpa using grp_asc _ _) (by simpa using grp_in l m) (by simpa using h7) h10
    rw [hg.one ho]

/-! ### The first best order -/
def rest (l : Rv) (ord : List Int) : List Int := (evr l.length).filter fun y => decide (y ∉ ord)
theorem rest_mem {l : Rv} {ord : List Int} {x : Int} : x ∈ rest l ord ↔ (0 ≤ x ∧ x < l.length) ∧ x ∉ ord := by unfold rest; rw [List.mem_filter, evr_mem, decide_eq_true_eq]
theorem rest_asc (l : Rv) (ord : List Int) : asc (rest l ord) := asc_sub List.filter_sublist (evr_asc _)
def goodB (l : Rv) (ord : List Int) (x : Int) : Bool := decide (x ∉ ord) && decide (late (dR l) (pR l) (ord ++ x :: byD l (rest l (ord ++ [x]))) 0 = bestL l)
def nextO (l : Rv) (ord : List Int) : Option Nat := scanF (fun i => bif goodB l ord (i : Int) then some i else none) l.length 0
def ordS (l : Rv) : Nat → List Int → List Int
  | 0, ord => ord
  | k + 1, ord => match nextO l ord with
    | some i => ordS l k (ord ++ [(i : Int)])
    | none => ord
theorem scanF_eq {ρ : Type} {f : Nat → Option ρ} {r : ρ} : ∀ {n i k : Nat}, i ≤ k → k < i + n → f k = some r → (∀ j, i ≤ j → j < k → f j = none) → scanF f n i = some r
  | 0, i, k, h1, h2, _, _ => by omega
  | n + 1, i, k, h1, h2, h3, h4 => by
    simp only [scanF]
    by_cases hik : i = k
    · subst hik; rw [h3]
    · rw [h4 i (Nat.le_refl _) (by omega)]
      exact scanF_eq (by omega) (by omega) h3 fun j h5 h6 => h4 j (by omega) h6
theorem nodup_asc_erase {x : List Int} {k : Nat} (hk : k < x.length) (hn : x.Nodup) (y : Int) : y ∈ x.eraseIdx k ↔ y ∈ x ∧ y ≠ x[k] := by
  have hp := perm_erase hk
  have hn2 := hp.nodup_iff.1 hn
  rw [List.nodup_cons] at hn2
  rw [hp.mem_iff, List.mem_cons]
  constructor
  · intro h; exact ⟨.inr h, fun e => by subst e; exact hn2.1 h⟩
  · rintro ⟨h1 | h1, h2⟩
    · exact absurd h1 h2
    · exact h1
theorem rest_erase {l : Rv} {ord : List Int} {k : Nat} (hk : k < (rest l ord).length) : (rest l ord).eraseIdx k = rest l (ord ++ [(rest l ord)[k]]) := by
  have hn := asc_nodup (rest_asc l ord)
  refine asc_ext _ _ (asc_sub (List.eraseIdx_sublist _ _) (rest_asc l ord)) (rest_asc l _) fun y => ?_
  rw [nodup_asc_erase hk hn, rest_mem, rest_mem, List.mem_append, List.mem_singleton]
  constructor
  · rintro ⟨⟨h1, h2⟩, h3⟩; exact ⟨h1, fun h => h.elim h2 h3⟩
  · rintro ⟨h1, h2⟩; exact ⟨⟨h1, fun h => h2 (.inl h)⟩, fun h => h2 (.inr h)⟩
theorem rest_perm {l : Rv} {ord : List Int} (hn : ord.Nodup) (hi : inR l ord) : (ord ++ rest l ord).Perm (evr l.length) := by
  refine (List.perm_ext_iff_of_nodup ?_ (evr_nodup _)).2 fun x => ?_
  · rw [List.nodup_append]
    refine ⟨hn, asc_nodup (rest_asc l ord), fun a ha b hb e => ?_⟩
    subst e
    exact (rest_mem.1 hb).2 ha
  · rw [List.mem_append, rest_mem, evr_mem]
    constructor
    · rintro (h | h)
      · exact hi x h
      · exact h.1
    · intro h
      by_cases hx : x ∈ ord
      · exact .inl hx
      · exact .inr ⟨h, hx⟩
structure okO (l : Rv) (ord : List Int) : Prop where
  nd : ord.Nodup
  inr : inR l ord
  h1 : late (dR l) (pR l) ord 0 ≤ bestL l
  h2 : late (dR l) (pR l) (byD l (rest l ord)) (sP (pR l) ord) ≤ bestL l
theorem okO.nil {l : Rv} : okO l [] := by
  have hr : rest l [] = evr l.length := by
    refine asc_ext _ _ (rest_asc l _) (evr_asc _) fun x => ?_
    rw [rest_mem, evr_mem]
    exact ⟨fun h => h.1, fun h => ⟨h, by simp⟩⟩
  refine ⟨by simp, fun x hx => by (cases hx), ?_, ?_⟩
  · exact late_min _ _ _ 0
  · rw [hr]; exact Int.le_refl _
theorem okO.len {l : Rv} {ord : List Int} (h : okO l ord) : ord.length + (rest l ord).length = l.length := by
  have := (rest_perm h.nd h.inr).length_eq
  rw [evr_len, List.length_append] at this; exact this
theorem good_iff {l : Rv} (ok : okR l) {ord : List Int} (h : okO l ord) {x : Int} (hx : x ∈ rest l ord) : goodB l ord x = true ↔ late (dR l) (pR l) (x :: byD l (rest l (ord ++ [x]))) (sP (pR l) ord) ≤ bestL l := by
  have hm := rest_mem.1 hx
  have hn : (ord ++ [x]).Nodup := by
    rw [List.nodup_append]
    exact ⟨h.nd, by simp, fun a ha b hb e => by simp at hb; subst hb; subst e; exact hm.2 ha⟩
  have hi : inR l (ord ++ [x]) := fun y hy => by
    rw [List.mem_append] at hy
    rcases hy with hy | hy
    · exact h.inr y hy
    · simp at hy; subst hy; exact hm.1
  have hp : (ord ++ x :: byD l (rest l (ord ++ [x]))).Perm (evr l.length) := by
    refine List.Perm.trans ?_ (rest_perm hn hi)
    rw [List.append_assoc]
    exact List.Perm.append_left ord (List.Perm.cons x (byD_perm l _))
  have hle := bestL_le ok hp
  unfold goodB
  rw [decide_eq_true hm.2, Bool.true_and, decide_eq_true_eq]
  rw [late_app, Int.zero_add] at hle ⊢
  have := h.h1
  omega
/-- The program's choice is the next one. -/
theorem next_of {l : Rv} (ok : okR l) {ord : List Int} (h : okO l ord) {k : Nat} {x : Int} (hk : k < (rest l ord).length) (hx : (rest l ord)[k]? = some x)
    (hle : late (dR l) (pR l) (ord ++ [x]) 0 ≤ bestL l) (hle2 : late (dR l) (pR l) (byD l ((rest l ord).eraseIdx k)) (sP (pR l) (ord ++ [x])) ≤ bestL l)
    (hf : ∀ j, j < k → ¬ late (dR l) (pR l) (gi (rest l ord) j :: byD l ((rest l ord).eraseIdx j)) (sP (pR l) ord) ≤ bestL l) :
    nextO l ord = some x.toNat ∧ ((x.toNat : Nat) : Int) = x ∧ x.toNat < l.length ∧ (rest l ord).eraseIdx k = rest l (ord ++ [x]) ∧ okO l (ord ++ [x]) := by
  have hxe : (rest l ord)[k] = x := by rw [List.getElem?_eq_getElem hk] at hx; injection hx
  have he : (rest l ord).eraseIdx k = rest l (ord ++ [x]) := by rw [rest_erase hk, hxe]
  have hxm : x ∈ rest l ord := by rw [← hxe]; exact List.getElem_mem hk
  have hm := rest_mem.1 hxm
  have hcast : ((x.toNat : Nat) : Int) = x := by omega
  have hgood : goodB l ord x = true := by
    rw [good_iff ok h hxm]
    rw [he] at hle2
    rw [late_app, Int.zero_add] at hle
    rw [sP_app] at hle2
    simp only [late, sP, Int.add_zero] at hle hle2 ⊢
    omega
  refine ⟨?_, hcast, by omega, he, ?_, ?_, hle, by rw [← he]; exact hle2⟩
  · unfold nextO
    refine scanF_eq (k := x.toNat) (Nat.zero_le _) (by omega) (by rw [hcast, hgood]; rfl) fun j _ hj => ?_
    by_cases hjm : (j : Int) ∈ rest l ord
    · obtain ⟨i, hi, hij⟩ := List.getElem_of_mem hjm
      have hik : i < k := by
        by_cases hc : i < k
        · exact hc
        · exfalso
          by_cases hd : i = k
          · subst hd; omega
          · have := List.pairwise_iff_getElem.1 (rest_asc l ord) k i hk hi (by omega)
            omega
      have := hf i hik
      rw [show gi (rest l ord) i = (j : Int) by unfold gi; rw [getD_i hi]; exact hij, rest_erase hi, hij] at this
      cases hb : goodB l ord (j : Int) with
      | true => exact absurd ((good_iff ok h hjm).1 hb) this
      | false => rfl
    · have hjo : (j : Int) ∈ ord := by
        by_cases hjo : (j : Int) ∈ ord
        · exact hjo
        · exact absurd (rest_mem.2 ⟨by omega, hjo⟩) hjm
      have : goodB l ord (j : Int) = false := by unfold goodB; rw [decide_eq_false (by simpa using hjo)]; rfl
      rw [this]; rfl
  · rw [List.nodup_append]
    exact ⟨h.nd, by simp, fun a ha b hb e => by simp at hb; subst hb; subst e; exact hm.2 ha⟩
  · intro y hy
    rw [List.mem_append] at hy
    rcases hy with hy | hy
    · exact h.inr y hy
    · simp at hy; subst hy; exact hm.1
theorem next_ok {l : Rv} (ok : okR l) {ord : List Int} (h : okO l ord) (hl : ord.length < l.length) :
    ∃ k x, k < (rest l ord).length ∧ oloop (l210_1 (rest l ord, ord, sP (pR l) ord) (l, 0) (bestL l)) 0 = some (.inl (rest l (ord ++ [x]), ord ++ [x], sP (pR l) (ord ++ [x]))) ∧ nextO l ord = some x.toNat ∧ ((x.toNat : Nat) : Int) = x ∧ x.toNat < l.length ∧ okO l (ord ++ [x]) := by
  have hlen := h.len
  have hne : rest l ord ≠ [] := fun e => by rw [e] at hlen; simp at hlen; omega
  obtain ⟨k, x, hk, hx, hrun, h3, h4, h5⟩ := best_step ok (rest_perm h.nd h.inr) hne h.h1 h.h2
  obtain ⟨h6, h7, h8, h9, h10⟩ := next_of ok h hk hx h3 h4 h5
  exact ⟨k, x, hk, by rw [hrun, h9], h6, h7, h8, h10⟩
def bestO (l : Rv) : List Int := ordS l l.length []
theorem ordS_loop {l : Rv} (ok : okR l) : ∀ (m : Nat) (ord : List Int), okO l ord → ord.length + m = l.length → oloop (l210_2 (l, 0) (bestL l)) (rest l ord, ord, sP (pR l) ord) = some (ordS l m ord)
  | 0, ord, h, hl => by
    have hlen := h.len
    have : rest l ord = [] := List.eq_nil_of_length_eq_zero (by omega)
    rw [this]
    refine oloop_done ?_
    unfold l210_2
    rfl
  | m + 1, ord, h, hl => by
    have hlen := h.len
    obtain ⟨k, x, hk, hrun, h6, h7, h8, h10⟩ := next_ok ok h (by omega)
    simp only [ordS, h6, h7]
    rw [oloop_step (e' := (rest l (ord ++ [x]), ord ++ [x], sP (pR l) (ord ++ [x]))) ?_, ordS_loop ok m (ord ++ [x]) h10 (by simp; omega)]
    unfold l210_2
    have t1 : ilt 0 ((((rest l ord).map eI).length : Nat) : Int) = true := by rw [List.length_map]; exact ilt_t (by omega)
    simp only [t1, oite_t]
    exact hrun
theorem f210_o {l : Rv} (hs : ∀ p, p ∈ l → p.1.size ≤ 9223372036854775807) (ok : okR l) (hc : ckR l = (0, 0)) : f210 l = some (bestO l, bestL l, 0) := by
  have hfew := ok.few
  have hle := evr_len l.length
  have e227 := f227_e ok (evr_inR l) (by omega)
  have hbl := byD_len l (evr l.length)
  have e226 := f226_e ok (byD_in (evr_inR l)) (d := 0) (by omega) (by omega)
  have hr : rest l [] = evr l.length := by
    refine asc_ext _ _ (rest_asc l _) (evr_asc _) fun x => ?_
    rw [rest_mem, evr_mem]
    exact ⟨fun h => h.1, fun h => ⟨h, by simp⟩⟩
  have h1 := ordS_loop ok l.length [] okO.nil (by simp)
  rw [hr] at h1
  unfold f210
  rw [f224_e (by omega) hs, obnd_s, hc]
  simp only [ieq_eq, decide_true, Bool.not_true, oite_f, f225_e hfew, obnd_s, e227, e226]
  rw [show late (dR l) (pR l) (byD l (evr l.length)) 0 = bestL l from rfl]
  refine (obnd_of (a := bestO l) h1).trans rfl
/-- Whoever comes by their due days, after the same beginning, is equally late. -/
theorem due_late {l : Rv} (ok : okR l) {b s : List Int} (hs : srtd (dR l) s) (hp : (b ++ s).Perm (evr l.length)) : late (dR l) (pR l) (b ++ s) 0 = late (dR l) (pR l) (b ++ byD l (rest l b)) 0 := by
  have hi : inR l (b ++ s) := inR_perm hp (evr_inR l)
  have hn : (b ++ s).Nodup := hp.nodup_iff.2 (evr_nodup _)
  rw [List.nodup_append] at hn
  have hps : s.Perm (rest l b) := by
    refine (List.perm_ext_iff_of_nodup hn.2.1 (asc_nodup (rest_asc l b))).2 fun x => ?_
    rw [rest_mem]
    constructor
    · intro hx
      exact ⟨hi x (by simp [hx]), fun hb => hn.2.2 x hb x hx rfl⟩
    · rintro ⟨h1, h2⟩
      have := hp.mem_iff.2 (evr_mem.2 h1)
      rw [List.mem_append] at this
      exact this.resolve_left h2
  have hib : inR l (byD l (rest l b)) := byD_in fun x hx => (rest_mem.1 hx).1
  have e := byD_perm l (rest l b)
  have h1 := edd (dR l) (pR l) s (byD l (rest l b)) (0 + sP (pR l) b) hs (hps.trans e.symm) (pos_of ok fun x hx => hi x (by simp [hx]))
  have h2 := edd (dR l) (pR l) (byD l (rest l b)) s (0 + sP (pR l) b) (byD_srt l _) (e.trans hps.symm) (pos_of ok hib)
  rw [late_app, late_app, Int.le_antisymm h1 h2]
end
section
set_option linter.unusedSimpArgs false
set_option linter.unusedVariables false
open Go Go.RowKit

theorem f334_w {l : Rv} (h : l.length ≤ 1000000) : f334 l = some l := by
  unfold f334; rw [ogrd_fits (by simp; omega) (by simp; omega)]; rfl
theorem f38_w {o : List Int} (h : o.length ≤ 1000000) : f38 o = some o := by
  unfold f38; rw [if_pos (fits_t (by omega) (by omega))]
theorem hasI_d (l : List Int) (x : Int) : hasI l x = decide (x ∈ l) := by
  by_cases h : x ∈ l
  · rw [decide_eq_true h]
    cases hb : hasI l x with
    | true => rfl
    | false => exact absurd h (hasI_f.1 hb)
  · rw [decide_eq_false h]; exact hasI_f.2 h

/-! ### Lateness -/
theorem l339_s {l : Rv} (ok : okR l) {o p r : List Int} {a d w : Int} (ho : p ++ a :: r = o) (hl : o.length ≤ 1000) (ha : 0 ≤ a ∧ a < l.length) (h0 : 0 ≤ d) (hB : d ≤ 100000000) :
    l339_1 o l (d, w, (p.length : Int)) = some (.inl (d + pR l a, (if p.length = 0 then d + pR l a - dR l a else max w (d + pR l a - dR l a)), ((p.length + 1 : Nat) : Int))) := by
  have hlt : p.length < o.length := by rw [← ho]; simp
  have hpa := pR_le ok ha
  have hda := dR_le ok ha
  have t1 : ilt (p.length : Int) ((o.length : Nat) : Int) = true := ilt_t (by omega)
  have t2 : ile 0 (p.length : Int) = true := ile_t (by omega)
  have t3 : ile 0 a = true := ile_t ha.1
  have g1 : o[p.length]? = some a := by rw [← ho, List.getElem?_append_right (Nat.le_refl _)]; simp
  have w1 : IntKind.i64.wrap (d + pR l a) = d + pR l a := wr (by omega) (by omega)
  have w2 : IntKind.i64.wrap (d + pR l a - dR l a) = d + pR l a - dR l a := wr (by omega) (by omega)
  have w3 : IntKind.i64.wrap ((p.length : Int) + 1) = ((p.length + 1 : Nat) : Int) := by rw [wr (by omega) (by omega)]; omega
  unfold l339_1
  simp only [List.length_map, t1, t2, t3, oite_t, ogrd_t, Int.toNat_natCast, g1, obnd_s, inR_get ha]
  rw [show (gr l a.toNat).2.2 = pR l a from rfl, show (gr l a.toNat).2.1 = dR l a from rfl, w1, w2, w3, ieq_eq]
  by_cases hp : p.length = 0
  · rw [decide_eq_true (show (p.length : Int) = 0 by omega), if_pos hp]; rfl
  · rw [decide_eq_false (show ¬ (p.length : Int) = 0 by omega), if_neg hp, oite_f, obnd_s, ilt_eq]
    by_cases h : w < d + pR l a - dR l a
    · rw [decide_eq_true h, show max w (d + pR l a - dR l a) = d + pR l a - dR l a by omega]; rfl
    · rw [decide_eq_false h, show max w (d + pR l a - dR l a) = w by omega]; rfl
theorem f339_e {l : Rv} (ok : okR l) {o : List Int} (hi : inR l o) (hl : o.length ≤ 1000) (hne : o ≠ []) : f339 l o = some (late (dR l) (pR l) o 0) := by
  have main : ∀ (r p : List Int) (d w : Int), p ≠ [] → p ++ r = o → 0 ≤ d → d + 100000 * (r.length : Int) ≤ 100000000 → -200000 ≤ w → oloop (l339_1 o l) (d, w, (p.length : Int)) = some (max w (late (dR l) (pR l) r d)) := by
    intro r
    induction r with
    | nil =>
      intro p d w _ ho _ _ hw
      simp at ho; subst ho
      refine (oloop_done (r := w) ?_).trans ?_
      · have t1 : ilt (p.length : Int) ((p.length : Nat) : Int) = false := ilt_f (by omega)
        unfold l339_1
        simp only [List.length_map, t1, oite_f]
      · simp only [late]; congr 1; omega
    | cons a r ih =>
      intro p d w hp ho h0 hB hw
      have ha := hi a (by rw [← ho]; simp)
      have hpa := pR_le ok ha
      have hpl : ¬ p.length = 0 := fun e => hp (List.eq_nil_of_length_eq_zero e)
      have hst := l339_s ok (w := w) ho hl ha h0 (by omega)
      rw [if_neg hpl] at hst
      rw [oloop_step hst]
      have := ih (p ++ [a]) (d + pR l a) (max w (d + pR l a - dR l a)) (by simp) (by simpa using ho) (by omega) (by simp at hB; omega) (by omega)
      rw [show ((p ++ [a]).length : Int) = ((p.length + 1 : Nat) : Int) by simp] at this
      rw [this]
      simp only [late]; congr 1; omega
  obtain ⟨a, r, rfl⟩ : ∃ a r, o = a :: r := by
    cases o with
    | nil => exact absurd rfl hne
    | cons a r => exact ⟨a, r, rfl⟩
  have ha := hi a (by simp)
  have hpa := pR_le ok ha
  have hda := dR_le ok ha
  unfold f339
  refine (obnd_of (a := late (dR l) (pR l) (a :: r) 0) ?_).trans rfl
  have hst := l339_s ok (p := []) (w := 0) (d := 0) rfl hl ha (by omega) (by omega)
  rw [if_pos (show ([] : List Int).length = 0 from rfl)] at hst
  rw [oloop_step (e := ((0 : Int), (0 : Int), (0 : Int))) (e' := (0 + pR l a, 0 + pR l a - dR l a, (1 : Int))) (by simpa using hst)]
  have := main r [a] (0 + pR l a) (0 + pR l a - dR l a) (by simp) rfl (by omega) (by simp at hl; omega) (by omega)
  rw [show (([a] : List Int).length : Int) = 1 from rfl] at this
  rw [this]
  simp only [late]

/-! ### byDue -/
def nx (l : Rv) (out : List Int) : Nat → Int
  | 0 => -1
  | i + 1 => if (i : Int) ∉ out ∧ (nx l out i < 0 ∨ dR l i < dR l (nx l out i)) then (i : Int) else nx l out i
theorem nx_rng (l : Rv) (out : List Int) : ∀ i, nx l out i = -1 ∨ (0 ≤ nx l out i ∧ nx l out i < i ∧ nx l out i ∉ out)
  | 0 => .inl rfl
  | i + 1 => by
    simp only [nx]
    split
    · rename_i h
      exact .inr ⟨by omega, by omega, h.1⟩
    · rcases nx_rng l out i with h | ⟨h1, h2, h3⟩
      · exact .inl h
      · exact .inr ⟨h1, by omega, h3⟩
theorem nx_min (l : Rv) (out : List Int) : ∀ (i j : Nat), j < i → (j : Int) ∉ out → 0 ≤ nx l out i ∧ dR l (nx l out i) ≤ dR l j
  | 0, j, h, _ => by omega
  | i + 1, j, h, hj => by
    simp only [nx]
    by_cases hij : j = i
    · subst hij
      split
      · exact ⟨by omega, Int.le_refl _⟩
      · rename_i hn
        have h1 : ¬ (nx l out j < 0 ∨ dR l j < dR l (nx l out j)) := fun hh => hn ⟨hj, hh⟩
        constructor
        · have : ¬ nx l out j < 0 := fun hh => h1 (.inl hh)
          omega
        · have : ¬ dR l j < dR l (nx l out j) := fun hh => h1 (.inr hh)
          omega
    · obtain ⟨h1, h2⟩ := nx_min l out i j (by omega) hj
      split
      · rename_i hn
        refine ⟨by omega, ?_⟩
        rcases hn.2 with h3 | h3
        · omega
        · omega
      · exact ⟨h1, h2⟩
theorem nx_loop {l : Rv} (hfew : l.length ≤ 8) {out : List Int} (hl : out.length ≤ 1000) : oloop (l365_1 l out) (-1, 0) = some (nx l out l.length) := by
  refine oloop_all (fun i => (nx l out i, (i : Int))) l.length rfl ?_ ?_
  · intro i hi
    have t1 : ilt (i : Int) ((l.length : Nat) : Int) = true := ilt_t (by omega)
    have t2 : ile 0 (i : Int) = true := ile_t (by omega)
    have w1 : IntKind.i64.wrap ((i : Int) + 1) = ((i + 1 : Nat) : Int) := by rw [wr (by omega) (by omega)]; omega
    have gx : l[i]? = some (gr l i) := get_gr hi
    unfold l365_1
    simp only [List.length_map, t1, t2, oite_t, ogrd_t, Int.toNat_natCast, gx, obnd_s, w1, f344_e (l := out) (i : Int) (by omega), hasI_d]
    rw [show (gr l i).2.1 = dR l (i : Int) from rfl]
    simp only [nx]
    by_cases h1 : (i : Int) ∈ out
    · rw [decide_eq_true h1, if_neg (fun h => h.1 h1)]; rfl
    · rw [decide_eq_false h1, Bool.not_false, oite_t]
      rcases nx_rng l out i with h2 | ⟨h2, h3, _⟩
      · rw [ilt_eq, decide_eq_true (show nx l out i < 0 by omega), if_pos ⟨h1, .inl (by omega)⟩]; rfl
      · rw [ilt_eq, decide_eq_false (show ¬ nx l out i < 0 by omega), oite_f, ile_t h2, ogrd_t, inR_get (l := l) ⟨h2, by omega⟩, obnd_s, obnd_s, ilt_eq, show (gr l (nx l out i).toNat).2.1 = dR l (nx l out i) from rfl]
        by_cases h4 : dR l i < dR l (nx l out i)
        · rw [decide_eq_true h4, if_pos ⟨h1, .inr h4⟩]; rfl
        · rw [decide_eq_false h4, if_neg (fun h => by
            rcases h.2 with h | h
            · omega
            · exact h4 h)]; rfl
  · have t1 : ilt ((l.length : Nat) : Int) ((l.length : Nat) : Int) = false := ilt_f (by omega)
    unfold l365_1
    simp only [List.length_map, t1, oite_f]
theorem nodup_add {out : List Int} {x : Int} (h : out.Nodup) (hx : x ∉ out) : (out ++ [x]).Nodup := by
  rw [List.nodup_append]
  exact ⟨h, by simp, fun a ha b hb e => by simp at hb; subst hb; subst e; exact hx ha⟩
theorem inR_add {l : Rv} {out : List Int} {x : Int} (h : inR l out) (hx : 0 ≤ x ∧ x < l.length) : inR l (out ++ [x]) := fun y hy => by
  rw [List.mem_append] at hy
  rcases hy with hy | hy
  · exact h y hy
  · simp at hy; subst hy; exact hx
theorem due_loop {l : Rv} (hfew : l.length ≤ 8) : ∀ (m : Nat) (out : List Int), out.Nodup → inR l out → out.length + m = l.length →
    ∃ s, oloop (l365_2 l) out = some (out ++ s) ∧ srtd (dR l) s ∧ (out ++ s).Perm (evr l.length)
  | 0, out, hn, hi, hm => by
    refine ⟨[], ?_, by simp [srtd], by rw [List.append_nil]; exact perm_evr (by omega) hn hi⟩
    rw [List.append_nil]
    refine oloop_done ?_
    have t1 : ilt (out.length : Int) ((l.length : Nat) : Int) = false := ilt_f (by omega)
    unfold l365_2
    simp only [List.length_map, t1, oite_f]
  | m + 1, out, hn, hi, hm => by
    have hr : rest l out ≠ [] := fun e => by
      have := (rest_perm hn hi).length_eq
      rw [e, evr_len] at this; simp at this; omega
    obtain ⟨y, hy⟩ : ∃ y, y ∈ rest l out := by
      cases hh : rest l out with
      | nil => exact absurd hh hr
      | cons y _ => exact ⟨y, by simp⟩
    have hym := rest_mem.1 hy
    have h0 := (nx_min l out l.length y.toNat (by omega) (by rw [show ((y.toNat : Nat) : Int) = y by omega]; exact hym.2)).1
    obtain ⟨_, h1, h2⟩ := (nx_rng l out l.length).resolve_left (by omega)
    obtain ⟨s, h3, h4, h5⟩ := due_loop hfew m (out ++ [nx l out l.length]) (nodup_add hn h2) (inR_add hi ⟨h0, h1⟩) (by simp; omega)
    refine ⟨nx l out l.length :: s, ?_, ?_, by simpa using h5⟩
    · rw [oloop_step (e' := out ++ [nx l out l.length]) ?_, h3]
      · simp
      · have t1 : ilt (out.length : Int) ((l.length : Nat) : Int) = true := ilt_t (by omega)
        unfold l365_2
        simp only [List.length_map, t1, oite_t]
        refine (obnd_of (nx_loop hfew (by omega))).trans ?_
        rw [ogrd_fits (by simp; omega) (by simp; omega)]
    · unfold srtd at h4 ⊢
      rw [List.pairwise_cons]
      refine ⟨fun z hz => ?_, h4⟩
      have hnd := h5.nodup_iff.2 (evr_nodup _)
      rw [List.nodup_append] at hnd
      have hzr := evr_mem.1 (h5.mem_iff.1 (show z ∈ (out ++ [nx l out l.length]) ++ s by simp [hz]))
      have hzo : z ∉ out := fun h => hnd.2.2 z (by simp [h]) z hz rfl
      have := (nx_min l out l.length z.toNat (by omega) (by rw [show ((z.toNat : Nat) : Int) = z by omega]; exact hzo)).2
      rwa [show ((z.toNat : Nat) : Int) = z by omega] at this
theorem f365_e {l : Rv} (hfew : l.length ≤ 8) {b : List Int} (hn : b.Nodup) (hi : inR l b) : ∃ s, f365 l b = some (b ++ s) ∧ srtd (dR l) s ∧ (b ++ s).Perm (evr l.length) := by
  have hlen := (rest_perm hn hi).length_eq
  rw [List.length_append, evr_len] at hlen
  obtain ⟨s, h1, h2, h3⟩ := due_loop hfew (l.length - b.length) b hn hi (by omega)
  refine ⟨s, ?_, h2, h3⟩
  unfold f365
  rw [f38_w (by omega), obnd_s]
  exact (obnd_of h1).trans rfl

/-! ### BestOrder -/
theorem best_scan {l : Rv} (ok : okR l) {ord : List Int} (h : okO l ord) (hl : ord.length < l.length) :
    oloop (l340_1 l ord (bestL l)) 0 = some ((scanF (fun i => bif goodB l ord (i : Int) then some (Sum.inl (ord ++ [(i : Int)]) : List Int ⊕ List Int) else none) l.length 0).getD (Sum.inl ord)) := by
  have hfew := ok.few
  refine oloop_scanB (fun i => (i : Int)) l.length (fun i => goodB l ord (i : Int)) (fun i => Sum.inl (ord ++ [(i : Int)])) rfl ?_ ?_
  · intro i hi
    have t1 : ilt (i : Int) ((l.length : Nat) : Int) = true := ilt_t (by omega)
    have w1 : IntKind.i64.wrap ((i : Int) + 1) = ((i + 1 : Nat) : Int) := by rw [wr (by omega) (by omega)]; omega
    unfold l340_1
    simp only [List.length_map, t1, oite_t, w1, f344_e (l := ord) (i : Int) (by omega), hasI_d, obnd_s]
    by_cases hm : (i : Int) ∈ ord
    · have hg : goodB l ord (i : Int) = false := by unfold goodB; rw [decide_eq_false (by simpa using hm)]; rfl
      rw [decide_eq_true hm, hg]; rfl
    · rw [decide_eq_false hm, oite_f, f38_w (by omega), obnd_s, ogrd_fits (by simp; omega) (by simp; omega)]
      obtain ⟨s, h1, h2, h3⟩ := f365_e hfew (nodup_add h.nd hm) (inR_add h.inr (x := (i : Int)) ⟨by omega, by omega⟩)
      have hlate := due_late ok h2 h3
      have hin : inR l ((ord ++ [(i : Int)]) ++ s) := inR_perm h3 (evr_inR l)
      have hlen := h3.length_eq
      rw [evr_len] at hlen
      rw [h1, obnd_s, f339_e ok hin (by omega) (by simp), obnd_s, hlate, ieq_eq]
      have hg : goodB l ord (i : Int) = decide (late (dR l) (pR l) ((ord ++ [(i : Int)]) ++ byD l (rest l (ord ++ [(i : Int)]))) 0 = bestL l) := by
        unfold goodB
        rw [decide_eq_true hm, Bool.true_and]
        congr 3
        simp
      rw [hg]
      cases decide (late (dR l) (pR l) ((ord ++ [(i : Int)]) ++ byD l (rest l (ord ++ [(i : Int)]))) 0 = bestL l) with
      | false => rfl
      | true =>
        have : (!(ord ++ [(i : Int)]).isEmpty) = true := by
          cases ord <;> rfl
        rw [this]; rfl
  · have t1 : ilt ((l.length : Nat) : Int) ((l.length : Nat) : Int) = false := ilt_f (by omega)
    unfold l340_1
    simp only [List.length_map, t1, oite_f]
theorem ref_loop {l : Rv} (ok : okR l) : ∀ (m : Nat) (ord : List Int), okO l ord → ord.length + m = l.length → oloop (l340_2 l (bestL l)) ord = some (ordS l m ord)
  | 0, ord, h, hl => by
    refine oloop_done ?_
    have t1 : ilt (ord.length : Int) ((l.length : Nat) : Int) = false := ilt_f (by omega)
    unfold l340_2
    simp only [List.length_map, t1, oite_f]; rfl
  | m + 1, ord, h, hl => by
    obtain ⟨k, x, hk, hrun, h6, h7, h8, h10⟩ := next_ok ok h (by omega)
    simp only [ordS, h6, h7]
    rw [oloop_step (e' := ord ++ [x]) ?_, ref_loop ok m (ord ++ [x]) h10 (by simp; omega)]
    have t1 : ilt (ord.length : Int) ((l.length : Nat) : Int) = true := ilt_t (by omega)
    unfold l340_2
    simp only [List.length_map, t1, oite_t]
    rw [best_scan ok h (by omega)]
    have e : (fun i : Nat => bif goodB l ord (i : Int) then some (Sum.inl (ord ++ [(i : Int)]) : List Int ⊕ List Int) else none) = fun i : Nat => (bif goodB l ord (i : Int) then some i else none).map fun i : Nat => Sum.inl (ord ++ [(i : Int)]) := by
      funext i
      cases goodB l ord (i : Int) <;> rfl
    rw [e, scanF_map]
    unfold nextO at h6
    rw [h6]
    simp only [Option.map_some, Option.getD_some, h7]
theorem f340_e {l : Rv} (ok : okR l) : f340 l = some (bestO l, bestL l) := by
  have hfew := ok.few
  have hpos := ok.pos
  obtain ⟨s, h1, h2, h3⟩ := f365_e hfew (b := []) (by simp) (fun x hx => by cases hx)
  rw [List.nil_append] at h1
  have hlate := due_late ok h2 h3
  rw [List.nil_append] at h3 hlate
  have hr : rest l [] = evr l.length := by
    refine asc_ext _ _ (rest_asc l _) (evr_asc _) fun x => ?_
    rw [rest_mem, evr_mem]
    exact ⟨fun h => h.1, fun h => ⟨h, by simp⟩⟩
  rw [List.nil_append, hr] at hlate
  have hin : inR l s := inR_perm h3 (evr_inR l)
  have hlen := h3.length_eq
  rw [evr_len] at hlen
  have hne : s ≠ [] := fun e => by rw [e] at hlen; simp at hlen; omega
  unfold f340
  rw [h1, obnd_s, f339_e ok hin (by omega) hne, obnd_s, hlate, show late (dR l) (pR l) (byD l (evr l.length)) 0 = bestL l from rfl]
  exact (obnd_of (ref_loop ok l.length [] okO.nil (by simp))).trans rfl

/-! ### Groups -/
def resG (l : Rv) : Nat → List Int → List Int × Bool
  | 0, b => (b, decide (bndR (dR l) (pR l) b = bestL l))
  | k + 1, b => match refG l (k + 1) b with
    | some g => (g, true)
    | none => ([], false)
theorem resG_s {l : Rv} : ∀ {k : Nat} {b g : List Int}, refG l k b = some g → resG l k b = (g, true)
  | 0, b, g, h => by
    simp only [refG] at h
    split at h
    · rename_i hb
      injection h with h; subst h
      simp only [resG, decide_eq_true hb]
    · cases h
  | k + 1, b, g, h => by simp only [resG, h]
theorem resG_n {l : Rv} : ∀ {k : Nat} {b : List Int}, refG l k b = none → (resG l k b).2 = false
  | 0, b, h => by
    simp only [refG] at h
    split at h
    · cases h
    · rename_i hb
      simp only [resG, decide_eq_false hb]
  | k + 1, b, h => by simp only [resG, h]
theorem from_len {l : Rv} {b : List Int} (hi : inR l b) : fromN b ≤ l.length := by
  unfold fromN
  by_cases h : b.length = 0
  · rw [if_pos h]; omega
  · rw [if_neg h]
    have hlt : b.length - 1 < b.length := by omega
    have := hi (gi b (b.length - 1)) (by unfold gi; rw [getD_i hlt]; exact List.getElem_mem hlt)
    omega
theorem asc_few {l : Rv} {b : List Int} (ha : asc b) (hi : inR l b) : b.length ≤ l.length := by
  have := (rest_perm (asc_nodup ha) hi).length_eq
  rw [List.length_append, evr_len] at this; omega
theorem f366n_e {l : Rv} (ok : okR l) : ∀ (k n : Nat) (b : List Int), k < n → k ≤ 1000 → asc b → inR l b → f366n n l b (k : Int) (bestL l) = some (resG l k b)
  | _, 0, _, h, _, _, _ => by omega
  | 0, n + 1, b, _, _, ha, hi => by
    have hlen := asc_few ha hi
    have hfew := ok.few
    show r366 (f366n n) l b ((0 : Nat) : Int) (bestL l) = _
    unfold r366
    rw [ieq_eq, decide_eq_true (show ((0 : Nat) : Int) = 0 from rfl), oite_t, f343_e ok hi (by omega), obnd_s, ieq_eq]
    rfl
  | k + 1, n + 1, b, hk, hk2, ha, hi => by
    have hlen := asc_few ha hi
    have hfew := ok.few
    have hfl := from_len hi
    show r366 (f366n n) l b ((k + 1 : Nat) : Int) (bestL l) = _
    unfold r366
    rw [ieq_eq, decide_eq_false (show ¬ ((k + 1 : Nat) : Int) = 0 by omega), oite_f]
    have hfrom : (oite (ilt (0 : Int) ((b.map eI).length : Int)) (ogrd (ile 0 (IntKind.i64.wrap (((b.map eI).length : Int) - (1 : Int)))) (obnd (b[(IntKind.i64.wrap (((b.map eI).length : Int) - (1 : Int))).toNat]?) fun (x10 : Int) => some (IntKind.i64.wrap (x10 + (1 : Int))))) (some (0 : Int))) = some ((fromN b : Nat) : Int) := by
      rw [List.length_map]
      unfold fromN
      by_cases h : b.length = 0
      · rw [if_pos h, ilt_f (by omega), oite_f]; rfl
      · have hlt : b.length - 1 < b.length := by omega
        have hm := hi (gi b (b.length - 1)) (by unfold gi; rw [getD_i hlt]; exact List.getElem_mem hlt)
        have w1 : IntKind.i64.wrap ((b.length : Int) - 1) = ((b.length - 1 : Nat) : Int) := by rw [wr (by omega) (by omega)]; omega
        rw [if_neg h, ilt_t (by omega), oite_t, w1, ile_t (by omega), ogrd_t, Int.toNat_natCast, get_gi hlt, obnd_s, wr (by omega) (by omega)]
        congr 1; omega
    refine (obnd_of hfrom).trans ?_
    have hloop : oloop (l366_1 l b (f366n n) ((k + 1 : Nat) : Int) (bestL l)) ((fromN b : Nat) : Int) = some ((scanF (fun j => (refG l k (b ++ [((fromN b + j : Nat) : Int)])).map fun g => (Sum.inr (g, true) : Unit ⊕ (List Int × Bool))) (l.length - fromN b) 0).getD (Sum.inl ())) := by
      refine oloop_scan (fun j => ((fromN b + j : Nat) : Int)) (l.length - fromN b) _ rfl ?_ ?_
      · intro j hj
        have t1 : ilt ((fromN b + j : Nat) : Int) ((l.length : Nat) : Int) = true := ilt_t (by omega)
        have w1 : IntKind.i64.wrap (((fromN b + j : Nat) : Int) + 1) = ((fromN b + (j + 1) : Nat) : Int) := by rw [wr (by omega) (by omega)]; omega
        have w2 : IntKind.i64.wrap (((k + 1 : Nat) : Int) - 1) = (k : Int) := by rw [wr (by omega) (by omega)]; omega
        have ih := f366n_e ok k n (b ++ [((fromN b + j : Nat) : Int)]) (by omega) (by omega) (from_asc ha (by omega)) (inR_add hi ⟨by omega, by omega⟩)
        unfold l366_1
        simp only [List.length_map, t1, oite_t, f38_w (show b.length ≤ 1000000 by omega), obnd_s, w1, w2]
        rw [ogrd_fits (by simp; omega) (by simp; omega), ih, obnd_s]
        cases hr : refG l k (b ++ [((fromN b + j : Nat) : Int)]) with
        | none => rw [resG_n hr]; rfl
        | some g => rw [resG_s hr]; rfl
      · have t1 : ilt ((fromN b + (l.length - fromN b) : Nat) : Int) ((l.length : Nat) : Int) = false := ilt_f (by omega)
        unfold l366_1
        simp only [List.length_map, t1, oite_f]
    rw [hloop, scanF_map]
    rw [show scanF (fun j => refG l k (b ++ [((fromN b + j : Nat) : Int)])) (l.length - fromN b) 0 = refG l (k + 1) b from rfl]
    simp only [resG]
    cases refG l (k + 1) b <;> rfl
theorem f341_e {l : Rv} (ok : okR l) : f341 l = some (ownG l) := by
  have hfew := ok.few
  unfold f341
  rw [f340_e ok, obnd_s]
  have hloop : oloop (l341_1 l (bestO l, bestL l)) 1 = some ((scanF (fun s => (refG l (s + 1) []).map fun g => (Sum.inr g : Unit ⊕ List Int)) l.length 0).getD (Sum.inl ())) := by
    refine oloop_scan (fun s => ((s + 1 : Nat) : Int)) l.length _ rfl ?_ ?_
    · intro s hs
      have t1 : ile ((s + 1 : Nat) : Int) ((l.length : Nat) : Int) = true := ile_t (by omega)
      have w1 : IntKind.i64.wrap (((s + 1 : Nat) : Int) + 1) = ((s + 1 + 1 : Nat) : Int) := by rw [wr (by omega) (by omega)]; omega
      have e := f366n_e ok (s + 1) (((s + 1 : Nat) : Int).toNat + 1) [] (by simp) (by omega) (by simp [asc]) (fun x hx => by cases hx)
      unfold l341_1
      simp only [List.length_map, t1, oite_t, w1]
      rw [show f366 l [] ((s + 1 : Nat) : Int) (bestL l) = some (resG l (s + 1) []) from e, obnd_s]
      cases hr : refG l (s + 1) [] with
      | none => rw [resG_n hr]; rfl
      | some g => rw [resG_s hr]; rfl
    · have t1 : ile ((l.length + 1 : Nat) : Int) ((l.length : Nat) : Int) = false := by rw [ile_eq]; simp; omega
      unfold l341_1
      simp only [List.length_map, t1, oite_f]
  rw [hloop, scanF_map, show scanF (fun s => refG l (s + 1) []) l.length 0 = grpS l from rfl, grpS_e ok]; rfl

/-! ### What is not valid -/
theorem f210_n {l : Rv} (hl : l.length ≤ 1000000) (hs : ∀ p, p ∈ l → p.1.size ≤ 9223372036854775807) (h : (ckR l).2 ≠ 0) : f210 l = some ([], 0, (ckR l).2) := by
  unfold f210
  rw [f224_e (by omega) hs, obnd_s, ieq_eq, decide_eq_false h]; rfl
theorem f336_n {l : Rv} (hl : l.length ≤ 1000000) (hs : ∀ p, p ∈ l → p.1.size ≤ 9223372036854775807) (h : (ckR l).2 ≠ 0) : f336 l = some ([], (ckR l).2) := by
  unfold f336
  rw [f224_e (by omega) hs, obnd_s, ieq_eq, decide_eq_false h]; rfl
theorem f335_n {l : Rv} {o : List Int} (hl : l.length ≤ 1000000) (hs : ∀ p, p ∈ l → p.1.size ≤ 9223372036854775807) (h : (ckR l).2 ≠ 0) : f335 l o = some (0, (ckR l).2) := by
  unfold f335
  rw [f224_e (by omega) hs, obnd_s]
  simp only [f214_e, obnd_s, f213_2]
  rw [if_neg h, ieq_eq, decide_eq_false h]; rfl
theorem f335_o {l : Rv} {o : List Int} (hs : ∀ p, p ∈ l → p.1.size ≤ 9223372036854775807) (ok : okR l) (hc : ckR l = (0, 0)) (h : ckO l.length o ≠ 0) : f335 l o = some (0, ckO l.length o) := by
  have hfew := ok.few
  have hw : IntKind.i64.wrap ((l.length : Int) - 1) = (l.length : Int) - 1 := wr (by omega) (by omega)
  unfold f335
  rw [f224_e (by omega) hs, obnd_s, hc]
  simp only [List.length_map, hw, ieq_eq, f214_e, obnd_s, ceqN, decide_eq_true_eq, f213_2]
  unfold ckO at h ⊢
  by_cases h1 : o.length = l.length
  case neg => rw [decide_eq_false h1, if_neg h1]; rfl
  rw [decide_eq_true h1] at h ⊢
  rw [if_pos h1]
  simp only [if_true, decide_true, Bool.not_true, oite_f]
  rw [oloop_scanB (fun i => (i : Int)) o.length (fun i => !decide (ordE l.length o i = 0)) (fun i => .inr ((0 : Int), ordE l.length o i)) (d := .inl ()) (e0 := (0 : Int)) rfl ?_ ?_, errs_scan (ordE l.length o) o.length (fun r : Int × Int => (Sum.inr ((0 : Int), r.2) : Unit ⊕ (Int × Int)))]
  · simp only [Bool.not_true, cond_false] at h ⊢
    cases he : errs (ordE l.length o) o.length with
    | none => rw [he] at h; exact absurd rfl h
    | some r => rfl
  · intro i hi'
    simp (disch := omega) only [obnd_s, obnd_n, oite_ss, oite_t, oite_f, ogrd_t, ogrd_f, obndS_l, obndS_r, ilt_eq, ile_eq, ieq_eq, imax_e, imin_e, k0, k1, k2, k3, k4, k5, k6, k7, k8, k9, reduceIte, k10, k11, k12, k13, k14, k15, k16, k17, k18, k19, k20, k21, k22, k23, k24, k25, k26, k27, k28, hi', get_gi hi', wr, f216_e, oslH_n (Nat.le_of_lt hi'), f138_e (l := o.take i) (gi o i) (by rw [List.length_take]; omega), f214_e, f213_2]
    unfold ordE
    cases (decide (0 ≤ gi o i) && decide (gi o i ≤ (l.length : Int) - 1)) <;> cases hasI (o.take i) (gi o i) <;> rfl
  · simp (disch := omega) only [obnd_s, obnd_n, oite_ss, oite_t, oite_f, ogrd_t, ogrd_f, obndS_l, obndS_r, ilt_eq, ile_eq, ieq_eq, imax_e, imin_e, k0, k1, k2, k3, k4, k5, k6, k7, k8, k9, reduceIte, k10, k11, k12, k13, k14, k15, k16, k17, k18, k19, k20, k21, k22, k23, k24, k25, k26, k27, k28, Int.lt_irrefl]
end
end Go.Proofs.YtmbekcealcjabaaGreat.AM
