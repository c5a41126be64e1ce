/- Given data, read by value: numbers, bools, strings, structs, arrays, slices. Conditions: none. -/
import Derived.Test.YtjnpdnlgkepmcaaAmLoopR
import Derived.Deep.Slices
import Derived.WideShapes
import Derived.OpenShut
import Derived.ProofKit
namespace Go.Proofs.Ytjnpdnlgkepmcaa.AM
set_option linter.unusedSimpArgs false
set_option linter.unusedVariables false
open Go Go.RowKit Go.WideShapes
def isAggT (P : Program) (e : TypeId) : Bool := match P.underlying e with
 | some (.struct _) => true
 | some (.array _ _) => true
 | _ => false
def contig (P : Program) : Nat → List (Nat × TypeId) → Nat → Bool
 | off, [], tot => off == tot
 | off, (o, t) :: r, tot => o == off && contig P (off + P.cellsOf t) r tot
def fparts (fs : Array Field) : List (Nat × TypeId) := fs.toList.map fun f => (f.offset, f.type)
def aparts (P : Program) (e : TypeId) (n : Nat) : List (Nat × TypeId) := (List.range n).map fun i => (i * P.cellsOf e, e)
def tOK (P : Program) : Nat → TypeId → Bool
  | 0, _ => false
  | d + 1, t => match P.underlying t with
    | some .bool => true
    | some (.int _) => true
    | some .string => true
    | some (.struct fs) => contig P 0 (fparts fs) (P.cellsOf t) && fs.toList.all fun f => tOK P d f.type
    | some (.array n e) => contig P 0 (aparts P e n) (P.cellsOf t) && tOK P d e
    | some (.slice e) => decide (0 < P.cellsOf e) && tOK P d e
    | _ => false
def ofCells (g : Bool) (us : List Value) : Value := match g, us with
 | true, us => .agg ⟨us⟩
 | false, [u] => u
 | false, us => .agg ⟨us⟩
def Dat (P : Program) : Nat → TypeId → List Value → Prop
  | 0, _, _ => False
  | d + 1, t, us => match P.underlying t with
    | some .bool => ∃ b, us = [.bool b]
    | some (.int k) => ∃ n, us = [.int k n] ∧ (Lit.int k n).wf = true
    | some .string => ∃ s : ByteArray, us = [.string s] ∧ s.size ≤ maxLen
    | some (.struct fs) => us.length = P.cellsOf t ∧ ∀ p, p ∈ fparts fs → Dat P d p.2 ((us.drop p.1).take (P.cellsOf p.2))
    | some (.array n e) => us.length = P.cellsOf t ∧ ∀ p, p ∈ aparts P e n → Dat P d p.2 ((us.drop p.1).take (P.cellsOf p.2))
    | some (.slice e) => ∃ L : List (List Value), us = [VS (P.cellsOf e) (L.map (ofCells (isAggT P e)))] ∧ L.length ≤ maxLen ∧ ∀ x, x ∈ L → Dat P d e x
    | _ => False
def oneAll (us : List Value) : Prop := ∀ u, u ∈ us → u.oneCell' = true
theorem list_of {α : Type} {p : Nat → α → Prop} : ∀ (n : Nat), (∀ i, i < n → ∃ x, p i x) → ∃ l : List α, l.length = n ∧ ∀ (i : Nat) (x : α), l[i]? = some x → p i x
  | 0, _ => ⟨[], rfl, by simp⟩
  | n + 1, h => by
    obtain ⟨l, h1, h2⟩ := list_of n (fun i hi => h i (by omega))
    obtain ⟨x, hx⟩ := h n (by omega)
    refine ⟨l ++ [x], by simp [h1], fun i y hy => ?_⟩
    rcases Nat.lt_or_ge i n with hi | hi
    · rw [List.getElem?_append_left (by omega)] at hy; exact h2 i y hy
    · rw [List.getElem?_append_right (by omega), h1] at hy
      have hi0 : i - n = 0 := by have := (List.getElem?_eq_some_iff.1 hy).1; simp at this; omega
      rw [hi0] at hy
      simp at hy
      subst hy
      rw [show i = n by omega]; exact hx
section
variable {H : Type} {enc : TypeId × Value → H} {P : Program} {w : World} {base : Nat} {spare : Nat → Bool} {held : Bool} {ι : Iota} {hg : GW w}
theorem contig_le : ∀ {ps : List (Nat × TypeId)} {off tot : Nat}, contig P off ps tot = true → off ≤ tot ∧ ∀ p, p ∈ ps → off ≤ p.1 ∧ p.1 + P.cellsOf p.2 ≤ tot
  | [], off, tot, h => by simp [contig] at h; subst h; exact ⟨Nat.le_refl _, by simp⟩
  | (o, t) :: r, off, tot, h => by
    simp only [contig, Bool.and_eq_true, beq_iff_eq] at h
    obtain ⟨rfl, h⟩ := h
    obtain ⟨h1, h2⟩ := contig_le h
    refine ⟨by omega, fun p hp => ?_⟩
    rcases List.mem_cons.1 hp with rfl | hp
    · exact ⟨Nat.le_refl _, h1⟩
    · have := h2 p hp; omega
theorem asm {d : Nat} : ∀ (ps : List (Nat × TypeId)) (off tot : Nat) (cs : List Value), contig P off ps tot = true → cs.length = tot →
    (∀ p, p ∈ ps → ∃ uf, VRL ι 0 uf ((cs.drop p.1).take (P.cellsOf p.2)) ∧ Dat P d p.2 uf ∧ oneAll uf) →
    ∃ us, VRL ι 0 us (cs.drop off) ∧ (∀ p, p ∈ ps → Dat P d p.2 ((us.drop (p.1 - off)).take (P.cellsOf p.2))) ∧ oneAll us
  | [], off, tot, cs, hc, hl, _ => by
    simp [contig] at hc
    refine ⟨[], ?_, by simp, by simp [oneAll]⟩
    rw [List.drop_eq_nil_of_le (by omega)]; exact .nil
  | (o, t) :: r, off, tot, cs, hc, hl, h => by
    have hle := contig_le hc
    simp only [contig, Bool.and_eq_true, beq_iff_eq] at hc
    obtain ⟨rfl, hc⟩ := hc
    have hle2 := contig_le hc
    obtain ⟨uf, h1, h2, h3⟩ := h (o, t) (by simp)
    obtain ⟨us, h4, h5, h6⟩ := asm r _ tot cs hc hl (fun p hp => h p (List.mem_cons_of_mem _ hp))
    have hful : uf.length = P.cellsOf t := by
      rw [h1.1]; simp; omega
    refine ⟨uf ++ us, ?_, fun p hp => ?_, fun u hu => ?_⟩
    · have : cs.drop o = (cs.drop o).take (P.cellsOf t) ++ cs.drop (o + P.cellsOf t) := by
        rw [← List.drop_drop, List.take_append_drop]
      rw [this]
      exact h1.append h4
    · rcases List.mem_cons.1 hp with rfl | hp
      · simp only [Nat.sub_self, List.drop_zero]
        rw [← hful, List.take_left]; exact h2
      · have := (hle2.2 p hp).1
        rw [show p.1 - o = uf.length + (p.1 - (o + P.cellsOf t)) by omega, List.drop_append, List.drop_eq_nil_of_le (by omega)]
        simp only [List.nil_append, Nat.add_sub_cancel_left]
        exact h5 p hp
    · rcases List.mem_append.1 hu with hu | hu
      · exact h3 u hu
      · exact h6 u hu
theorem ofCells_cells {g : Bool} {us : List Value} (h1 : oneAll us) : (ofCells g us).cells.toList = us := by
 unfold ofCells
 split
 · rfl
 · rename_i u; rw [cells_one (h1 u (by simp))]
 · rfl
theorem dat_of : ∀ (d : Nat) (fuel : Nat) (t : TypeId) (cs : List Value) (x : DataW H × List MemPlace), tOK P d t = true → DataW.trod enc P w base spare held fuel t cs = some x →
    ∃ us, VRL (fullI ι w hg) 0 us cs ∧ Dat P d t us ∧ oneAll us
  | 0, _, _, _, _, ht, _ => by simp [tOK] at ht
  | d + 1, fuel, t, cs, x, ht, h => by
    unfold tOK at ht
    unfold Dat
    split at ht
    · rename_i hu
      obtain ⟨b, rfl, _⟩ := DataW.trod_bool hu h
      exact ⟨[.bool b], .cons (.bool b) .nil, ⟨b, rfl⟩, by simp [oneAll, Value.oneCell']⟩
    · rename_i k hu
      obtain ⟨n, rfl, _, hw⟩ := DataW.trod_int hu h
      exact ⟨[.int k n], .cons (.int k n) .nil, ⟨n, rfl, hw⟩, by simp [oneAll, Value.oneCell']⟩
    · rename_i hu
      obtain ⟨s, rfl, _, hs⟩ := DataW.trod_string hu h
      exact ⟨[.string s], .cons (.str s) .nil, ⟨s, rfl, hs⟩, by simp [oneAll, Value.oneCell']⟩
    · rename_i fs hu
      simp only [Bool.and_eq_true, List.all_eq_true] at ht
      obtain ⟨xs, n, rfl, _, hcl, hxl, hf⟩ := DataW.trod_struct hu h
      obtain ⟨us, h1, h2, h3⟩ := asm (ι := fullI ι w hg) (d := d) (fparts fs) 0 (P.cellsOf t) cs ht.1 hcl (fun p hp => by
        simp only [fparts, List.mem_map] at hp
        obtain ⟨f, hfm, rfl⟩ := hp
        obtain ⟨i, hi⟩ := List.getElem?_of_mem hfm
        have hi' : fs[i]? = some f := by simpa using hi
        have h4 := hf i f hi'
        have hlt : i < xs.length := by rw [hxl]; exact (Array.getElem?_eq_some_iff.1 hi').1
        rw [List.getElem?_eq_getElem hlt] at h4
        exact dat_of d n f.type _ _ (ht.2 f hfm) h4)
      rw [List.drop_zero] at h1
      exact ⟨us, h1, ⟨h1.1.trans hcl, fun p hp => by have := h2 p hp; simpa using this⟩, h3⟩
    · rename_i n e hu
      simp only [Bool.and_eq_true] at ht
      obtain ⟨xs, m, rfl, _, hcl, hxl, hf⟩ := DataW.trod_array hu h
      obtain ⟨us, h1, h2, h3⟩ := asm (ι := fullI ι w hg) (d := d) (aparts P e n) 0 (P.cellsOf t) cs ht.1 hcl (fun p hp => by
        simp only [aparts, List.mem_map, List.mem_range] at hp
        obtain ⟨i, hi, rfl⟩ := hp
        have h4 := hf i hi
        have hlt : i < xs.length := by omega
        rw [List.getElem?_eq_getElem hlt] at h4
        exact dat_of d m e _ _ ht.2 h4)
      rw [List.drop_zero] at h1
      exact ⟨us, h1, ⟨h1.1.trans hcl, fun p hp => by have := h2 p hp; simpa using this⟩, h3⟩
    · rename_i e hu
      simp only [Bool.and_eq_true, decide_eq_true_eq] at ht
      rcases DataW.trod_slice hu h with ⟨rfl, _⟩ | ⟨a, len, cap, elems, rest, n, rfl, rfl, _, hb, hl, hm, hlen, hel, _, _⟩
      · exact ⟨[VS (P.cellsOf e) []], .cons (.vsn _) .nil, ⟨[], rfl, by simp [maxLen], by simp⟩, by simp [oneAll, Value.oneCell', VS]⟩
      · obtain ⟨L, hL1, hL2⟩ := list_of (α := List Value) (p := fun i us => ∃ cs', w.cells? base (a.add (i * P.cellsOf e)) (P.cellsOf e) = some cs' ∧ VRL (fullI ι w hg) 0 us cs' ∧ Dat P d e us ∧ oneAll us) len (fun i hi => by
          have h4 := hel i hi
          rw [List.getElem?_eq_getElem (by omega)] at h4
          obtain ⟨cs', h5, h6⟩ := Option.bind_eq_some_iff.1 h4
          obtain ⟨us, h7, h8, h9⟩ := dat_of d n e cs' _ ht.2 h6
          exact ⟨us, cs', h5, h7, h8, h9⟩)
        refine ⟨[VS (P.cellsOf e) (L.map (ofCells (isAggT P e)))], .cons ?_ .nil, ⟨L, rfl, by omega, fun x hx => ?_⟩, by simp [oneAll, Value.oneCell', VS]⟩
        · by_cases h0 : L = []
          · subst h0
            simp at hL1
            subst hL1
            exact .vs0 _ _ _
          · have hpos : 0 < L.length := List.length_pos_iff.2 h0
            have hspot : a.spot = none := by
              obtain ⟨us, hus⟩ : ∃ us, L[0]? = some us := ⟨L[0], List.getElem?_eq_getElem hpos⟩
              obtain ⟨cs', h4, h5, _⟩ := hL2 0 us hus
              obtain ⟨_, h6, h7⟩ := World.cells?_some h4
              have := h7 0 ht.1
              rw [List.getElem?_eq_getElem (by omega)] at this
              simp only [Nat.zero_mul, Addr.add, if_true] at this
              unfold World.cell? at this
              split at this
              · split at this
                · cases this
                · rename_i hh; simpa using hh
              · cases this
            obtain ⟨ab, ao, asp⟩ := a
            simp only at hspot
            subst hspot
            have hlm : (L.map (ofCells (isAggT P e))).length = len := by simp [hL1]
            have hcell : ∀ (i j : Nat) (us : List Value) (u : Value), L[i]? = some us → us[j]? = some u → u.oneCell' = true ∧ ∃ v, w.cell? ⟨ab, ao + i * P.cellsOf e + j, none⟩ = some v ∧ VR (fullI ι w hg) 0 u v := fun i j us u hus hu => by
              obtain ⟨cs', h4, h5, _, h6⟩ := hL2 i us hus
              obtain ⟨_, h7, h8⟩ := World.cells?_some h4
              obtain ⟨v, h9, h10⟩ := h5.get hu
              have hj : j < P.cellsOf e := by rw [← h7]; exact (List.getElem?_eq_some_iff.1 h9).1
              have := h8 j hj
              rw [h9, Addr.add_lit, Addr.add_lit] at this
              exact ⟨h6 u (mem_of_at hu), v, this, h10⟩
            have hel2 : ∀ (i : Nat) (e' : Value), (L.map (ofCells (isAggT P e)))[i]? = some e' → ∃ us, L[i]? = some us ∧ e' = ofCells (isAggT P e) us ∧ e'.cells.toList = us := fun i e' he => by
              rw [List.getElem?_map, Option.map_eq_some_iff] at he
              obtain ⟨us, hus, rfl⟩ := he
              obtain ⟨_, _, _, _, h6⟩ := hL2 i us hus
              exact ⟨us, hus, rfl, ofCells_cells h6⟩
            have := VR.vs_mk (ι := fullI ι w hg) (N := 0) (z := P.cellsOf e) (r := ab) (f := ao) (c' := cap) (es := L.map (ofCells (isAggT P e))) ht.1 (by omega) (fun i e' he => by
              obtain ⟨us, hus, _, h10⟩ := hel2 i e' he
              obtain ⟨cs', h4, h5, _, _⟩ := hL2 i us hus
              obtain ⟨_, h7, _⟩ := World.cells?_some h4
              have hc : e'.cells.toList.length = us.length := by rw [h10]
              rw [Array.length_toList] at hc
              rw [hc, h5.1, h7]) (fun i j e' u he hu => by
              obtain ⟨us, hus, _, h10⟩ := hel2 i e' he
              have hu' : us[j]? = some u := by rw [← h10]; simpa using hu
              exact hcell i j us u hus hu')
            rw [hlm] at this
            exact this
        · obtain ⟨i, hi⟩ := List.getElem?_of_mem hx
          obtain ⟨_, _, _, h8, _⟩ := hL2 i x hi
          exact h8
    · cases ht
def DatV (P : Program) (d : Nat) (t : TypeId) (u : Value) : Prop := ∃ us, u = ofCells (isAggT P t) us ∧ Dat P d t us
theorem dat_arg {d : Nat} {t : TypeId} {v : Value} {D : DataW H} {p : List MemPlace} {r : Reach} {b0 : Nat} (ht : tOK P d t = true) (hv : Value.okWide P w r b0 t v) (h : DataW.Trod enc P w base spare held t v D p) :
    ∃ u, VR (fullI ι w hg) 0 u v ∧ DatV P d t u := by
  obtain ⟨fuel, hf⟩ := h
  obtain ⟨us, h1, h2, h3⟩ := dat_of (ι := ι) (hg := hg) d fuel t _ _ ht hf
  refine ⟨ofCells (isAggT P t) us, ?_, us, rfl, h2⟩
  have hagg : (∃ cs, v = .agg cs) → isAggT P t = true → VR (fullI ι w hg) 0 (ofCells (isAggT P t) us) v := by
    rintro ⟨cs, rfl⟩ hg
    rw [hg]
    simp only [ofCells]
    have : (Value.agg cs).cells.toList = cs.toList := rfl
    rw [this] at h1
    exact h1.toArray
  have hone : (∀ cs, v ≠ .agg cs) → VR (fullI ι w hg) 0 (ofCells (isAggT P t) us) v ∨ isAggT P t = true := by
    intro hn
    cases hg : isAggT P t with
    | true => exact .inr rfl
    | false =>
      left
      have e1 : v.cells = #[v] := by cases v <;> first | rfl | exact absurd rfl (hn _)
      rw [e1] at h1
      match us, h1 with
      | [u], h1 => exact h1.head
      | [], h1 => exact absurd h1.1 (by simp)
      | _ :: _ :: _, h1 => exact absurd h1.1 (by simp)
  cases d with
  | zero => simp [tOK] at ht
  | succ d =>
    unfold tOK at ht
    split at ht
    · rename_i hu
      obtain ⟨b, rfl⟩ := okWide_bool hu hv
      exact (hone (fun _ e => by cases e)).resolve_right (by simp [isAggT, hu])
    · rename_i hu
      obtain ⟨b, rfl⟩ := okWide_int hu hv
      exact (hone (fun _ e => by cases e)).resolve_right (by simp [isAggT, hu])
    · rename_i hu
      obtain ⟨b, rfl⟩ := okWide_string hu hv
      exact (hone (fun _ e => by cases e)).resolve_right (by simp [isAggT, hu])
    · rename_i fs hu
      obtain ⟨cs, rfl, _⟩ := okWide_struct hu hv
      exact hagg ⟨_, rfl⟩ (by simp [isAggT, hu])
    · rename_i n e hu
      have : ∃ cs, v = .agg cs := by
        unfold Value.okWide at hv
        rw [hu] at hv
        obtain ⟨cs, h, _⟩ := hv
        exact ⟨cs, h⟩
      exact hagg this (by simp [isAggT, hu])
    · rename_i e hu
      obtain ⟨a, l, c, rfl⟩ := okWide_slice hu hv
      exact (hone (fun _ e => by cases e)).resolve_right (by simp [isAggT, hu])
    · cases ht
theorem dat_int {d : Nat} {t : TypeId} {k : IntKind} {us : List Value} (hu : P.underlying t = some (.int k)) (h : Dat P d t us) : ∃ n, us = [.int k n] ∧ (Lit.int k n).wf = true := by
 cases d with
 | zero => exact h.elim
 | succ d => unfold Dat at h; rw [hu] at h; exact h
theorem dat_string {d : Nat} {t : TypeId} {us : List Value} (hu : P.underlying t = some .string) (h : Dat P d t us) : ∃ s : ByteArray, us = [.string s] ∧ s.size ≤ maxLen := by
 cases d with
 | zero => exact h.elim
 | succ d => unfold Dat at h; rw [hu] at h; exact h
theorem dat_bool {d : Nat} {t : TypeId} {us : List Value} (hu : P.underlying t = some .bool) (h : Dat P d t us) : ∃ b, us = [.bool b] := by
 cases d with
 | zero => exact h.elim
 | succ d => unfold Dat at h; rw [hu] at h; exact h
theorem dat_slice {d : Nat} {t e : TypeId} {us : List Value} (hu : P.underlying t = some (.slice e)) (h : Dat P (d + 1) t us) : ∃ (L : List (List Value)), us = [VS (P.cellsOf e) (L.map (ofCells (isAggT P e)))] ∧ L.length ≤ maxLen ∧ ∀ x, x ∈ L → Dat P d e x := by
 unfold Dat at h; rw [hu] at h; exact h
theorem dat_struct {d : Nat} {t : TypeId} {fs : Array Field} {us : List Value} (hu : P.underlying t = some (.struct fs)) (h : Dat P (d + 1) t us) : us.length = P.cellsOf t ∧ ∀ p, p ∈ fparts fs → Dat P d p.2 ((us.drop p.1).take (P.cellsOf p.2)) := by
 unfold Dat at h; rw [hu] at h; exact h
end
end Go.Proofs.Ytjnpdnlgkepmcaa.AM
