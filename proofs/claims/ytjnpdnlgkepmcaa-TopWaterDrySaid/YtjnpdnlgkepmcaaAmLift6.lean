/- Slices of structures made to be written to; functions with bound arguments. Conditions: none. -/
import Derived.Test.YtjnpdnlgkepmcaaAmLift5
import Derived.Test.YtjnpdnlgkepmcaaAmNs
namespace Go.Proofs.Ytjnpdnlgkepmcaa.AM
set_option linter.unusedSimpArgs false
set_option linter.unusedVariables false
open Go Go.RowKit
section
variable {α γ : Type} {f : α → Value} {z : Nat}
theorem chunkS [h : Sz f z] (hz : Nat.blt 1 z = true) (l : List α) : chunk l.length z (flat (l.map f)) = l.map f := by
  obtain ⟨z', rfl⟩ : ∃ z', z = z' + 2 := ⟨z - 2, by have := Nat.blt_eq.mp hz; omega⟩
  induction l with
  | nil => rfl
  | cons x r ih =>
    simp only [List.map_cons, List.length_cons, chunk, flat]
    rw [List.take_left' (h.sz x), List.drop_left' (h.sz x), ih, ← h.agg x]
theorem els_o [h : Sz f z] {l : List α} {h0 : AHeap} {b n c : Nat} {K : List Value → Prop} (hz : Nat.blt 1 z = true) (hr : h0.row b = some (flat (l.map f))) (hn : Nat.beq n l.length = true) (hk : K (l.map f)) : obind (h0.els z ⟨.blk b 0, n, c⟩) K := by
 obtain rfl := Nat.eq_of_beq_eq_true hn
 refine obind_iff.2 ⟨_, ?_, hk⟩
 unfold AHeap.els
 simp only [hr]
 rw [if_pos (by rw [flatS_len]; omega), List.drop_zero, chunkS hz l]
theorem appS_o [h : Sz f z] {m : List α} {b bytes c : Nat} {h0 : AHeap} {k : Option Value → AHeap → Prop} {X : Prop} (hf : fits bytes m.length = true) (hm : (!m.isEmpty) = true) (hc : c = z + 1)
  (hk : pput h0 b .dead fun h => pnew h (.rw (flat (m.map f))) (fun b => mkSl b 0 m.length (z + 1)) k) :
  (0 + (m.map f).length) * bytes ≤ 1099511627776 ∧ 0 + (m.map f).length ≤ 1099511627776 ∧ (((m.map f).isEmpty = false ∧ c = z + 1 ∧ 0 + 0 * z = ([] : List Value).length ∧ pput h0 b .dead fun h => fS (([] : List Value).drop 0 ++ flat (m.map f)) fun d => pnew h (.rw d) (fun b => mkSl b 0 (0 + (m.map f).length) (z + 1)) k) ∨ X) := by
 obtain ⟨h1, h2, _⟩ := fits_o (P := True) (v := ()) (x := some ()) (b := bytes) (m := 0 + (m.map f).length) (n := m.length) (by rw [hf]; rfl) (by simp) (fun _ => trivial)
 refine ⟨h1, h2, .inl ⟨by cases m with | nil => cases hm | cons _ _ => rfl, hc, by simp, ?_⟩⟩
 rw [pput_eq] at hk ⊢
 rw [fS_eq, List.drop_nil, List.nil_append, List.length_map, Nat.zero_add]
 exact hk
end
theorem ICalls.bound {E : Env} {k : Nat} {xs us : List Value} {h : AHeap} {Q : Value → AHeap → Prop} (H : ICalls E k (xs ++ us) h Q) : ICallV E (.func (.func (E.id k)) ⟨xs⟩ ⟨[]⟩) us h Q := by
  intro ι w fv' vs R hf hl
  cases hf with
  | func g _ ys _ ds hs hx hs' hx' =>
    have hd : ds = #[] := Array.eq_empty_of_size_eq_zero (by simpa using hs'.symm)
    subst hd
    have hxs : VRL ι h.next xs ys.toList := ⟨by simpa using hs, fun i u v hu hv => hx i u v (by simpa using hu) (by simpa using hv)⟩
    obtain ⟨nx, w1, h1, h2, h3, h4⟩ := H ι w (.func (.func (E.id k)) #[] #[]) (ys.toList ++ vs) R (.func _ _ _ _ _ rfl (fun i u v hu => by simp at hu) rfl (fun i u v hu => by simp at hu)) (hxs.append hl)
    refine ⟨nx, w1, ?_, h2, h3, ?_⟩
    · rw [← h1, show (ys.toList ++ vs).toArray = ys ++ vs.toArray by simp]; simp [Deferred.ofValue]
    · cases nx <;> first | exact h4 | (obtain ⟨⟨k, e⟩, _⟩ := h4; cases e)
theorem ICallV.unVT {E : Env} {fv : Value} {us : List Value} {es : List Value} {z : Nat} (hz : 0 < z) (hne : es ≠ []) (hes : ∀ u, u ∈ flat es → vrc1 u = true)
    (H : ICallV E fv us AHeap.none fun v h' => ∃ b n, v = VT z es b ∧ n = es.length ∧ h'.get b = some (.tail n z)) :
    ICallV E fv us AHeap.none fun v h' => ∃ b, v = .slice (some ⟨b, 0, none⟩) es.length 1 ∧ h'.get b = some (.rw (flat es)) := by
  intro ι w fv' vs R hf' hl
  obtain ⟨nx, w1, h1, R1, X1, h4⟩ := H ι w fv' vs R hf' hl
  refine ⟨nx, w1, h1, R1, X1, ?_⟩
  have key : ∀ e w', Lift (fun v h' => ∃ b n, v = VT z es b ∧ n = es.length ∧ h'.get b = some (.tail n z)) ι AHeap.none w1 e w' → Lift (fun v h' => ∃ b, v = .slice (some ⟨b, 0, none⟩) es.length 1 ∧ h'.get b = some (.rw (flat es))) ι AHeap.none w1 e w' := by
    rintro e w' ⟨ι', x, v, h', rfl, ⟨b, n, rfl, rfl, hg⟩, hvr, R', X'⟩
    obtain ⟨hb, hV, hle, hcur⟩ := hvr.vt_of rfl
    have hT := R'.tail b _ z hg
    have hl0 : es.length ≠ 0 := fun h0 => hne (List.eq_nil_of_length_eq_zero h0)
    have hf : (ι'.tk b).none = false := by
      cases hn : (ι'.tk b).none with
      | false => rfl
      | true => rcases hT.nil hn with h0 | h0 <;> omega
    obtain ⟨c, hv, hc1, hc2⟩ : ∃ c, v = .slice (some ⟨(ι'.tk b).r, 0, none⟩) es.length c ∧ es.length ≤ c ∧ c * (ι'.tk b).z ≤ (ι'.tk b).tot := by
      rcases hcur hT.hn.symm with ⟨h0, _⟩ | ⟨_, h0⟩
      · rw [hf] at h0; cases h0
      · exact h0
    have hfar : w1.heap.size ≤ (ι'.tk b).r := by
      rcases Nat.lt_or_ge (ι'.tk b).r w1.heap.size with hlt | hge
      · exact absurd ⟨b, _, hg, by simp [Iota.at, hf]⟩ (X'.frame _ hlt none_mut).2
      · exact hge
    have hlt : (ι'.tk b).r < w'.heap.size := R'.real b _ _ hg (by simp [Iota.at, hf])
    obtain ⟨r, f, c', _, _, hv2, hez, hec⟩ : ∃ r f c', 0 < z ∧ es.length ≤ c' ∧ v = .slice (some ⟨r, f, none⟩) es.length c' ∧ (∀ (i : Nat) (e : Value), es[i]? = some e → e.cells.size = z) ∧
        (∀ (i j : Nat) (e u : Value), es[i]? = some e → e.cells[j]? = some u → u.oneCell' = true ∧ ∃ v, ι'.im r (f + i * z + j) = some v ∧ VR ι' h'.next u v) := by
      rcases hV.vs_of with ⟨h0, _⟩ | h0
      · exact absurd h0 hne
      · exact h0
    rw [hv] at hv2
    injection hv2 with e1 e2 e3
    injection e1 with e1
    injection e1 with e1 e4
    subst e1; subst e4
    generalize hr : (ι'.tk b).r = r at *
    have him0 : ∀ r' i, r' < w1.heap.size → (if r' = r then none else ι'.im r' i) = ι.im r' i := fun r' i hlt' => by
      rw [if_neg (by omega)]; exact X'.imf r' i hlt' none_mut
    have hgp : GP (fun r' i => if r' = r then none else ι'.im r' i) := fun x hx => by
      obtain ⟨v, h5, h6⟩ := ι.gi x hx
      exact ⟨v, (him0 _ _ (R1.lt_of_im h5)).trans h5, h6⟩
    have R2 : Rel { loc := ι.loc, tk := ι.tk, im := fun r' i => if r' = r then none else ι'.im r' i, gi := hgp } AHeap.none w' := .bare (fun r' i v hv => by
      simp only at hv
      split at hv
      · cases hv
      · exact R'.im _ _ _ hv) R'.gb
    have hroom := hT.room hf
    rw [hr] at hroom
    have hflat : ∀ (i : Nat) (u : Value), (flat es)[i]? = some u → u.oneCell' = true ∧ ∃ v, ι'.im r i = some v ∧ v = u := fun i u hu => by
      obtain ⟨e, h5, h6⟩ := flat_get hz es i u hez hu
      obtain ⟨h7, v, h8, h9⟩ := hec _ _ e u h5 h6
      refine ⟨h7, v, ?_, (vrc1_id (hes u (List.mem_of_getElem? hu)) h9).symm⟩
      rw [← h8]; congr 1
      have := Nat.div_add_mod i z
      rw [Nat.mul_comm] at this
      omega
    have hfl : (flat es).length = es.length * z := by
      have : ∀ l : List Value, (∀ (i : Nat) (e : Value), l[i]? = some e → e.cells.size = z) → (flat l).length = l.length * z := by
        intro l
        induction l with
        | nil => intro _; simp [flat]
        | cons a t ih =>
          intro h
          simp only [flat, List.length_append, List.length_cons]
          rw [ih (fun i e he => h (i + 1) e (by simpa using he)), Nat.succ_mul, Array.length_toList, h 0 a rfl]; omega
      exact this es hez
    have R3 := R2.addRow (c := flat es) (l := ⟨r, 0, (ι'.tk b).tot⟩) hlt none_mut (by rw [hfl]; exact hroom.1) (fun i hi => by
      obtain ⟨h5, h6, _⟩ := hroom.2 i hi
      exact ⟨by simpa using h5, by simpa using h6, by simp⟩) fun i u hu => by
        obtain ⟨h5, v, h6, rfl⟩ := hflat i u hu
        exact ⟨h5, v, by simpa using R'.im _ _ _ h6, vrc1_vr (hes v (List.mem_of_getElem? hu))⟩
    refine ⟨_, _, v, _, rfl, ⟨0, rfl, rfl⟩, ?_, R3, ⟨Nat.zero_le _, ⟨fun b hb => absurd hb (Nat.not_lt_zero _), fun b hb => absurd hb (Nat.not_lt_zero _), fun r' i v hv => ?_⟩, X'.size, fun x hx hn => ⟨(X'.frame x hx hn).1, ?_⟩, fun x i hx hn => ?_, X'.os, X'.tape, X'.output⟩⟩
    · rw [hv]
      exact .slice 0 0 es.length 1 ⟨r, 0, none⟩ c (Nat.zero_lt_succ 0) (.inr rfl) hc1 (fun h => by cases h) (fun z h => by omega)
    · show (if r' = r then none else ι'.im r' i) = some v
      rw [him0 _ _ (R1.lt_of_im hv)]; exact hv
    · rintro ⟨b2, o2, hb2, ho2⟩
      rw [AHeap.get_alloc] at hb2
      split at hb2
      · rename_i e; subst e
        simp [AObj.live] at hb2; subst hb2
        simp only [Iota.at, upd_same] at ho2
        injection ho2 with ho2
        omega
      · exact none_get hb2
    · exact him0 x i hx
  cases nx with
  | enter f args => exact h4.mono key
  | round l f tmps as bd => exact ⟨h4.1, h4.2.mono key⟩
  | _ => exact h4
section
variable {E : Env} {α : Type} {f : α → Value} {z key : Nat} {us : List Value} {l : List α}
theorem ICalls.unS [h : Sz f z] (hz : Nat.blt 0 z = true) (hv : ∀ x u, u ∈ (f x).cells.toList → vrc1 u = true) (hne : (!l.isEmpty) = true)
  (H : ICalls E key us AHeap.none fun v h' => ∃ b n, v = VT z (l.map f) b ∧ n = (l.map f).length ∧ h'.get b = some (.tail n z)) :
  ICalls E key us AHeap.none fun v h' => ∃ b, v = .slice (some ⟨b, 0, none⟩) l.length 1 ∧ h'.get b = some (.rw (flat (l.map f))) := by
 have := ICallV.unVT (Nat.blt_eq.mp hz) (by cases l with | nil => cases hne | cons _ _ => simp) (fun u hu => by obtain ⟨x, hx⟩ := flatS_in hu; exact hv x u hx) H
 rwa [List.length_map] at this
theorem flat1 (hf : ∀ x, (f x).cells.toList = [f x]) : ∀ l : List α, flat (l.map f) = l.map f
 | [] => rfl
 | x :: r => by simp only [List.map_cons, flat]; rw [hf, flat1 hf r]; rfl
theorem ICalls.unN (hf : ∀ x, (f x).cells.toList = [f x]) (hv : ∀ x, vrc1 (f x) = true) (hne : (!l.isEmpty) = true)
  (H : ICalls E key us AHeap.none fun v h' => ∃ b n, v = VT 1 (l.map f) b ∧ n = (l.map f).length ∧ h'.get b = some (.tail n 1)) :
  ICalls E key us AHeap.none fun v h' => ∃ b, v = .slice (some ⟨b, 0, none⟩) l.length 1 ∧ h'.get b = some (.rw (l.map f)) := by
 have := ICallV.unVT (by decide) (by cases l with | nil => cases hne | cons _ _ => simp) (fun u hu => by
  rw [flat1 hf] at hu
  obtain ⟨x, _, rfl⟩ := List.mem_map.1 hu
  exact hv x) H
 rwa [List.length_map, flat1 hf] at this
end
theorem ICalls.empty {E : Env} {key : Nat} {h : AHeap} {Q : Value → AHeap → Prop} (H1 : ICalls E key [.slice none 0 0] h Q) (H2 : ICalls E key [VE 1] h Q) : ICalls E key [VS 1 []] h Q := by
 intro ι w fv' vs R hf hl
 obtain ⟨hlen, hat⟩ := hl
 obtain ⟨v, rfl⟩ : ∃ v, vs = [v] := by
   match vs, hlen with
   | [v], _ => exact ⟨v, rfl⟩
 have hv := hat 0 (VS 1 []) v rfl rfl
 have one : ∀ u, VR ι h.next u v → VRL ι h.next [u] [v] := fun u hu => ⟨rfl, fun i a b ha hb => by
   cases i with
   | zero => simp at ha hb; subst ha; subst hb; exact hu
   | succ i => simp at ha⟩
 rcases hv.vs_of with ⟨_, rfl | ⟨a', c', rfl⟩⟩ | ⟨r, f, c', _, _, rfl, _⟩
 · exact H1 ι w fv' _ R hf (one _ .nilslice)
 · exact H2 ι w fv' _ R hf (one _ (.ve 1 a' c'))
 · exact H2 ι w fv' _ R hf (one _ (.ve 1 _ _))
end Go.Proofs.Ytjnpdnlgkepmcaa.AM
