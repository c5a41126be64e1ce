/- Functions that turn the slice that they are given; pointers into memory that is known for good. Conditions: none. -/
import Derived.Test.YtgfglinlmnbjbaaAmLift5
import Derived.Test.YtgfglinlmnbjbaaAmLift4
import Derived.Test.YtgfglinlmnbjbaaAmCast
import Derived.Shelf.Abstract
import Derived.Sort.Row
import Derived.Sort.Grow
namespace Go.Proofs.Ytgfglinlmnbjbaa.AM
section
set_option linter.unusedSimpArgs false
set_option linter.unusedVariables false
open Go Go.RowKit

/-- nil, or a slice of a whole block. -/
def nsv (b : Nat) (o : Option (List Int)) (c : Nat) : Value := match o with
  | none => .slice none 0 0
  | some l => .slice (some ⟨b, 0, none⟩) l.length c
/-- Its block. -/
def nso (o : Option (List Int)) : AObj := match o with
  | none => .dead
  | some l => .rw (l.map eI)
/-- Its elements. -/
def nsl (o : Option (List Int)) : List Int := o.getD []
def ocase {β : Type} (o : Option (List Int)) (x : Option β) (y : List Int → Option β) : Option β := match o with
  | none => x
  | some l => y l
section
variable {β : Type} {v : β} {o : Option (List Int)}
theorem ocase_o {x : Option β} {y : List Int → Option β} {P : Prop} (H : ocase o x y = some v) (h1 : o = none → x = some v → P) (h2 : ∀ l, o = some l → y l = some v → P) : P := by
  cases o with
  | none => exact h1 rfl H
  | some l => exact h2 l rfl H
theorem ocase_none {x : Option β} {y : List Int → Option β} : ocase none x y = x := rfl
theorem ocase_some {x : Option β} {y : List Int → Option β} {l : List Int} : ocase (some l) x y = y l := rfl
end
section
variable {n b b2 k c : Nat} {o : Option (List Int)}
theorem Bnd.ns (h : b < n) : Bnd n (nsv b o c) := by
  cases o with
  | none => exact (Bnd.cl : Bnd n (.slice none 0 0))
  | some l => exact Bnd.slice h
theorem OBnd.ns (h : b < n) : OBnd n b (nso o) := by
  cases o with
  | none => trivial
  | some l => exact OBnd.rwc h (oneL_map fun _ => rfl)
theorem MvV.ns {d : Nat} (h : d ≠ b2) (hc : d < n) : MvV b b2 n (nsv d o k) (nsv d o k) := by
  cases o with
  | none => exact (MvV.cl : MvV b b2 n (.slice none 0 0) (.slice none 0 0))
  | some l => exact MvV.slice h hc
theorem MvV.nsm (hc : b2 < n) : MvV b b2 n (nsv b o k) (nsv b2 o k) := by
  cases o with
  | none => exact (MvV.cl : MvV b b2 n (.slice none 0 0) (.slice none 0 0))
  | some l => exact MvV.slicem hc
/-- Of the room behind nothing is known any more. -/
theorem MvV.slc {m : Nat} (hc : b2 < n) : MvV b b2 n (.slice (some ⟨b, 0, none⟩) m k) (.slice (some ⟨b2, 0, none⟩) m 1) := fun ι N v hv => by
  cases hv with
  | slice _ _ _ _ a' c' hb ha hn hc0 hr => exact .slice _ _ _ _ a' c' hc (by rw [upd_same]; exact ha) hn (fun h => by cases h) (fun z h => by omega)
theorem MvO.ns {l : List (Nat × AObj)} {j : Nat} (hb : j ≠ b) (h2 : j ≠ b2) (hk : j < n) (hg : look l j = some (nso o)) : MvO b b2 n l j (nso o) := by
  cases o with
  | none => exact .dead
  | some r => exact .rw hb h2 hk hg (oneL_map fun _ => rfl) .cl
theorem MvO.nsm {l : List (Nat × AObj)} (hk : b2 < n) (hg : look l b = some (nso o)) : MvO b b2 n l b2 (nso o) := by
  cases o with
  | none => exact .dead
  | some r => exact .mv rfl hk hg (oneL_map fun _ => rfl) .cl
theorem Fz.ns {h : AHeap} {D : Nat → Bool} {m : Nat} (hD : D b = true) (hg : h.get b = (nso o).live) : Fz h D m (nsv b o c) (VS 1 ((nsl o).map eI)) := by
  cases o with
  | none => exact .nil _
  | some l => exact .slm hD hg (Nat.beq_refl _) (fun _ => rfl)
/-- The beginning of a block. -/
theorem Fz.slp {α : Type} {f : α → Value} [hf : ∀ x, Cl (f x)] {h : AHeap} {D : Nat → Bool} {m : Nat} {l : List α} (hD : D b = true) (hg : h.get b = some (.rw (l.map f))) (hm : Nat.ble m l.length = true) (h1 : ∀ x, (f x).oneCell' = true) : Fz h D n (.slice (some ⟨b, 0, none⟩) m k) (VS 1 ((l.take m).map f)) := by
  have hm := Nat.le_of_ble_eq_true hm
  exact Fz.sl1 (b := b) (o := 0) (k := k) hD hg (by simp; omega) (by simpa using hm) (by rw [List.drop_zero, ← List.map_take]) (fun v hv => by obtain ⟨x, _, rfl⟩ := List.mem_map.1 hv; exact h1 x)
end
theorem nsv_one {b : Nat} {o : Option (List Int)} {c : Nat} : (nsv b o c).oneCell' = true := by cases o <;> rfl
theorem oneL_c {v : Value} {r : List Value} (h : v.oneCell' = true) (hr : oneL r = true) : oneL (v :: r) = true := by simp only [oneL, h, hr, Bool.and_self]
theorem vsl_nsv (b : Nat) (o : Option (List Int)) (c : Nat) : ∃ a d, vsl (nsv b o c) = some ⟨a, (nsl o).length, d⟩ := by
  cases o with
  | none => exact ⟨_, _, rfl⟩
  | some l => exact ⟨_, _, rfl⟩
/-- More elements behind a slice that fills its block: a new block. -/
theorem appg_o {γ : Type} {v : γ} {x : Option γ} {l m : List Int} {n b bytes : Nat} {h0 : AHeap} {k : Option Value → AHeap → Prop} {X : Prop} (H : ogrd (fits bytes (l.length + m.length)) x = some v) (hn : Nat.beq n l.length = true) (hm : m.isEmpty = false)
    (hk : x = some v → pput h0 b .dead fun h => pnew h (.rw ((l ++ m).map eI)) (fun b => mkSl b 0 (l ++ m).length 2) k) :
    (n + (m.map eI).length) * bytes ≤ 1099511627776 ∧ n + (m.map eI).length ≤ 1099511627776 ∧ (((m.map eI).isEmpty = false ∧ 2 = 1 + 1 ∧ 0 + n * 1 = (l.map eI).length ∧ pput h0 b .dead fun h => fS ((l.map eI).drop 0 ++ flat (m.map eI)) fun d => pnew h (.rw d) (fun b => mkSl b 0 (n + (m.map eI).length) 2) k) ∨ X) := by
  obtain rfl := Nat.eq_of_beq_eq_true hn
  obtain ⟨h1, h2, h3⟩ := fits_o (m := l.length + (m.map eI).length) H (by simp) id
  have hk := hk h3
  refine ⟨h1, h2, .inl ⟨by cases m with | nil => cases hm | cons _ _ => rfl, rfl, by simp, ?_⟩⟩
  rw [pput_eq] at hk ⊢
  rw [fS_eq, flat_ints, List.drop_zero, ← List.map_append, List.length_map, ← List.length_append]
  exact hk
/-! ### Parts of a written slice -/
section
variable {E : Env} {t : List (Nat × Value)} {h : AHeap} {K : Option Value × AHeap → Prop}
theorem she_o {b N : Nat} {i : Int} {lo : Opd} (hlo : (St.mk t h).ev E lo = some (.int .i64 i)) (h0 : ile 0 i = true) (h1 : ile i (N : Int) = true) (H : K (some (mkSl b (0 + i.toNat * 1) (N - i.toNat) 1), h)) :
    obind (xev E ⟨t, h⟩ (.sliceV 1 (.c (mkSl b 0 N 1)) (some lo) none none)) K := by
  rw [ile_eq, decide_eq_true_eq] at h0 h1
  refine obind_iff.2 ⟨_, ?_, H⟩
  have hc : (St.mk t h).ev E (.c (mkSl b 0 N 1)) = some (mkSl b 0 N 1) := rfl
  simp only [xev, pev, bnd, hlo, hc]
  simp [vsl, mkSl, resl, vany, h0, h1]
theorem shp_o {b N : Nat} {i : Int} {hi : Opd} (hhi : (St.mk t h).ev E hi = some (.int .i64 i)) (h0 : ile 0 i = true) (h1 : ile i (N : Int) = true) (H : K (some (mkSl b 0 i.toNat 1), h)) :
    obind (xev E ⟨t, h⟩ (.sliceV 1 (.c (mkSl b 0 N 1)) none (some hi) none)) K := by
  rw [ile_eq, decide_eq_true_eq] at h0 h1
  refine obind_iff.2 ⟨_, ?_, H⟩
  have hc : (St.mk t h).ev E (.c (mkSl b 0 N 1)) = some (mkSl b 0 N 1) := rfl
  simp only [xev, pev, bnd, hhi, hc]
  simp [vsl, mkSl, resl, vany, h0, h1]
/-- A list whose end is zero. -/
def clrL (l : List Int) (n : Nat) : List Int := l.take n ++ List.replicate (l.length - n) 0
theorem clrL_len {l : List Int} {m n : Nat} (h : Nat.beq m l.length = true) : Nat.beq m (clrL l n).length = true := by
  obtain rfl := Nat.eq_of_beq_eq_true h
  rw [Nat.beq_eq, clrL, List.length_append, List.length_take, List.length_replicate]; omega
theorem clr_o {l : List Int} {b N : Nat} {i : Int} {x : Opd} (hx : (St.mk t h).ev E x = some (mkSl b (0 + i.toNat * 1) (N - i.toNat) 1)) (hg : h.get b = some (.rw (l.map eI))) (hn : Nat.beq N l.length = true) (h0 : ile 0 i = true) (h1 : ilt i (N : Int) = true)
    (H : K (some (.tuple #[]), h.put b (.rw ((clrL l i.toNat).map eI)))) : obind (xev E ⟨t, h⟩ (.clr 1 [.int .i64 0] x)) K := by
  obtain rfl := Nat.eq_of_beq_eq_true hn
  rw [ile_eq, decide_eq_true_eq] at h0
  rw [ilt_eq, decide_eq_true_eq] at h1
  refine obind_iff.2 ⟨_, ?_, H⟩
  have hr : ∀ k, replL k [Value.int .i64 0] = (List.replicate k (0 : Int)).map eI := fun k => replL_map (f := eI) (x := 0) (k := k)
  have hs : setCells (l.map eI) (0 + i.toNat * 1) (replL (l.length - i.toNat) [Value.int .i64 0]) = (clrL l i.toNat).map eI := by
    rw [hr, ← flat_ints (l := List.replicate _ _), show 0 + i.toNat * 1 = i.toNat by omega, set_ints (by rw [List.length_replicate]; omega)]
    rw [clrL, List.length_replicate, List.drop_of_length_le (by omega), List.append_nil]
  simp only [xev, wev, hx]
  simp only [Option.bind_some, vsl, mkSl, hg]
  rw [if_pos (by refine ⟨?_, ?_⟩ <;> first | omega | (rw [List.length_map]; omega)), hs]
end
/-! ### The memory, with less in it; other ways to make slices -/
theorem Recast.deadn (b : Nat) {K n n2 : Nat} {m : Bool} {t : List (Nat × Value)} {l : List (Nat × AObj)} (hK : K ≤ n2) (hn : n ≤ n2) : Recast K ⟨t, ⟨n, l, m⟩⟩ ⟨t, ⟨n2, (b, .dead) :: l, m⟩⟩ := by
  have hget : ∀ x o, AHeap.get ⟨n2, (b, .dead) :: l, m⟩ x = some o → AHeap.get ⟨n, l, m⟩ x = some o := fun x o hx => by
    unfold AHeap.get at hx ⊢
    simp only [look] at hx
    split at hx
    · simp [AObj.live] at hx
    · exact hx
  refine .inr ⟨hK, fun ι w rt R T => ⟨ι, ⟨fun x o hx => Nat.lt_of_lt_of_le (R.lt x o (hget x o hx)) hn, fun x o r hx hr => R.real x o r (hget x o hx) hr, fun x c hx => ?_, fun x k z hx => R.tail x k z (hget x _ hx), fun x L hx => ?_, fun x o x' o' r hx hr hx' hne => R.sep x o x' o' r (hget x o hx) hr (hget x' o' hx') hne, R.im, R.gb⟩, T.more hn .refl, .refl, fun r ⟨x, o, hx, hr⟩ => ⟨x, o, hget x o hx, hr⟩, fun _ _ _ => rfl⟩⟩
  · obtain ⟨h1, h2, h3⟩ := R.rw x c (hget x _ hx)
    exact ⟨h1, h2, h3.more hn .refl rfl fun _ _ h => h⟩
  · obtain ⟨o, h1, h2⟩ := R.loop x L (hget x _ hx)
    exact ⟨o, h1, h2.more hn .refl⟩
theorem ICalls.modeT {E : Env} {key : Nat} {us : List Value} {Q : Value → AHeap → Prop} (H : ICalls E key us ⟨0, [], true⟩ Q) : ICalls E key us AHeap.none Q := ICallV.modeH H
/-- A result that is known more weakly. -/
theorem ICallV.wres {E : Env} {fv : Value} {us : List Value} {h : AHeap} {Q Q' : Value → AHeap → Prop} (H : ICallV E fv us h Q) (hQ : ∀ v h', Q v h' → ∃ v', Q' v' h' ∧ ∀ (ι : Iota) (N : Nat) (x : Value), VR ι N v x → VR ι N v' x) : ICallV E fv us h Q' := by
  intro ι w fv' vs R hf hl
  obtain ⟨nx, w1, h1, h2, h3, h4⟩ := H ι w fv' vs R hf hl
  refine ⟨nx, w1, h1, h2, h3, ?_⟩
  have key : ∀ e w', Lift Q ι h w1 e w' → Lift Q' ι h w1 e w' := by
    rintro e w' ⟨ι', v, x, h', rfl, hq, hvr, R', X'⟩
    obtain ⟨v', h5, h6⟩ := hQ v h' hq
    exact ⟨ι', v', x, h', rfl, h5, h6 _ _ _ hvr, R', X'⟩
  cases nx with
  | enter f args => exact h4.mono key
  | round l f tmps az bd => exact ⟨h4.1, h4.2.mono key⟩
  | _ => exact h4
theorem VR.sl1 {ι : Iota} {N b m c : Nat} {x : Value} (hv : VR ι N (.slice (some ⟨b, 0, none⟩) m c) x) : VR ι N (.slice (some ⟨b, 0, none⟩) m 1) x := by
  cases hv with
  | slice _ _ _ _ a' c' hb ha hn hc0 hr => exact .slice _ _ _ _ a' c' hb ha hn (fun h => by cases h) (fun z h => by omega)
theorem ICalls.goNS1 {E : Env} {key : Nat} {us us' : List Value} {l : List Int} [hus : ClL us']
    (H : ICalls E key us' AHeap.none fun v h' => ∃ b c, v = nsv b (some l) c ∧ h'.get b = (nso (some l)).live) (hw : WkL us us') {h : AHeap} {Q : Value → AHeap → Prop}
    (hq : Q (.slice (some ⟨h.next, 0, none⟩) l.length 1) (h.alloc (.rw (l.map eI)))) : PCalls E key us h Q :=
  ICalls.goN (f := eI) (l := l) (c := 1) (ICallV.wres H fun v h' ⟨b, c, e1, e2⟩ => ⟨.slice (some ⟨b, 0, none⟩) l.length 1, ⟨b, rfl, e2⟩, fun ι N x hv => by rw [e1] at hv; exact hv.sl1⟩) hw hq
theorem ICalls.goNS0 {E : Env} {key : Nat} {us us' : List Value} [hus : ClL us']
    (H : ICalls E key us' AHeap.none fun v h' => ∃ b c, v = nsv b none c ∧ h'.get b = (nso none).live) (hw : WkL us us') {h : AHeap} {Q : Value → AHeap → Prop}
    (hq : Q (.slice none 0 0) h) : PCalls E key us h Q :=
  ICalls.goW (ICallV.wres (Q' := fun v _ => v = .slice none 0 0) H fun v h' ⟨b, c, e1, e2⟩ => ⟨_, rfl, fun ι N x hv => by rw [e1] at hv; exact hv⟩) hw hq
end
section
set_option linter.unusedSimpArgs false
set_option linter.unusedVariables false
open Go Go.RowKit

variable {E : Env}
def Iota.mix (ι ι2 : Iota) (N : Nat) : Iota := ⟨fun b => if b < N then ι2.loc b else ι.loc b, fun b => if b < N then ι2.tk b else ι.tk b, ι2.im, ι2.gi⟩
theorem mix_lo {ι ι2 : Iota} {N b : Nat} (h : b < N) : (ι.mix ι2 N) b = ι2 b := if_pos h
theorem mix_hi {ι ι2 : Iota} {N b : Nat} (h : N ≤ b) : (ι.mix ι2 N) b = ι b := if_neg (by omega)
theorem mix_tlo {ι ι2 : Iota} {N b : Nat} (h : b < N) : (ι.mix ι2 N).tk b = ι2.tk b := if_pos h
theorem mix_thi {ι ι2 : Iota} {N b : Nat} (h : N ≤ b) : (ι.mix ι2 N).tk b = ι.tk b := if_neg (by omega)
theorem mix_alo {ι ι2 : Iota} {N b : Nat} {o : AObj} (h : b < N) : (ι.mix ι2 N).at b o = ι2.at b o := by
  cases o <;> simp only [Iota.at, mix_lo h, mix_tlo h]
theorem mix_ahi {ι ι2 : Iota} {N b : Nat} {o : AObj} (h : N ≤ b) : (ι.mix ι2 N).at b o = ι.at b o := by
  cases o <;> simp only [Iota.at, mix_hi h, mix_thi h]
theorem mix_self {ι : Iota} {N : Nat} : ι.mix ι N = ι := by
  obtain ⟨a, b, c, d⟩ := ι
  simp only [Iota.mix, ite_self]
theorem frame_grow {ι ι2 : Iota} {h h0 h2 hm : AHeap} {w w2 : World} (R : Rel ι h w) (hN : h0.next ≤ h.next) (hbase : ∀ b, b < h0.next → h.get b = h0.get b) (hlt : ∀ b o, h0.get b = some o → b < h0.next)
    (e2 : h2.next = h0.next) (em : hm.next = h.next) (m1 : ∀ b, b < h0.next → hm.get b = h2.get b) (m2 : ∀ b, h0.next ≤ b → hm.get b = h.get b) (X : Ext ι h0 w ι2 h2 w2) (R2 : Rel ι2 h2 w2) :
    Rel (ι.mix ι2 h0.next) hm w2 ∧ Ext ι h w (ι.mix ι2 h0.next) hm w2 := by
  have up2 : Up h2.next ι2 (ι.mix ι2 h0.next) := ⟨fun b hb => mix_lo (by omega), fun b hb => .inl (mix_tlo (by omega)), fun _ _ _ h => h⟩
  have up : Up h.next ι (ι.mix ι2 h0.next) := by
    refine ⟨fun b hb => ?_, fun b hb => ?_, X.up.im⟩
    · by_cases hb0 : b < h0.next
      · rw [mix_lo hb0]; exact X.up.loc b hb0
      · exact mix_hi (by omega)
    · by_cases hb0 : b < h0.next
      · rw [mix_tlo hb0]; exact X.up.tk b hb0
      · exact .inl (mix_thi (by omega))
  have own : ∀ b o r, h0.next ≤ b → h.get b = some o → ι.at b o = some r → ¬ MutAt ι h0 r := by
    rintro b o r hb ho hr ⟨b', o', hb', ho'⟩
    have hl := hlt b' o' hb'
    exact R.sep b o b' o' r ho hr (by rw [hbase b' hl]; exact hb') (by omega) ho'
  have ownr : ∀ b o r, h0.next ≤ b → h.get b = some o → ι.at b o = some r → r < w.heap.size ∧ w2.heap[r]? = w.heap[r]? ∧ (¬ MutAt ι2 h2 r) ∧ ∀ i, ι2.im r i = ι.im r i := by
    intro b o r hb ho hr
    have h1 := own b o r hb ho hr
    have h2 := R.real b o r ho hr
    exact ⟨h2, (X.frame r h2 h1).1, (X.frame r h2 h1).2, fun i => X.imf r i h2 h1⟩
  have hc : ∀ (r i : Nat), w2.heap[r]? = w.heap[r]? → w2.cell? ⟨r, i, none⟩ = w.cell? ⟨r, i, none⟩ := fun r i e => by unfold World.cell?; rw [show (⟨r, i, none⟩ : Addr).block = r from rfl, e]
  have hfz : ∀ (r i : Nat), w2.heap[r]? = w.heap[r]? → w2.frozen? ⟨r, i, none⟩ = w.frozen? ⟨r, i, none⟩ := fun r i e => by unfold World.frozen?; rw [show (⟨r, i, none⟩ : Addr).block = r from rfl, e]
  refine ⟨⟨fun b o hb => ?_, fun b o r hb hr => ?_, fun b c hb => ?_, fun b n z hb => ?_, fun b l hb => ?_, fun b o b' o' r hb hr hb' hne => ?_, R2.im, R2.gb⟩, ⟨by omega, up, X.size, fun r hr hn => ?_, fun r i hr hn => ?_, X.os, X.tape, X.output⟩⟩
  · rw [em]
    by_cases hb0 : b < h0.next
    · omega
    · rw [m2 b (by omega)] at hb; exact R.lt b o hb
  · by_cases hb0 : b < h0.next
    · rw [m1 b hb0] at hb; rw [mix_alo hb0] at hr; exact R2.real b o r hb hr
    · rw [m2 b (by omega)] at hb; rw [mix_ahi (by omega)] at hr; exact Nat.lt_of_lt_of_le (R.real b o r hb hr) X.size
  · by_cases hb0 : b < h0.next
    · rw [m1 b hb0] at hb
      obtain ⟨h5, h6, h7⟩ := R2.rw b c hb
      rw [mix_lo hb0]
      exact ⟨h5, h6, h7.more (by omega) up2 (mix_lo hb0) fun _ _ h => h⟩
    · have hb1 : h0.next ≤ b := by omega
      rw [m2 b hb1] at hb
      obtain ⟨h5, h6, h7⟩ := R.rw b c hb
      obtain ⟨h8, h9, _, h10⟩ := ownr b _ _ hb1 hb rfl
      rw [mix_hi hb1]
      refine ⟨h5, fun i hi => ?_, h7.more (by omega) up (mix_hi hb1) fun i v hv => by rw [hc _ _ h9]; exact hv⟩
      rw [hc _ _ h9, hfz _ _ h9]
      exact ⟨(h6 i hi).1, (h6 i hi).2.1, by show ι2.im _ _ = none; rw [h10]; exact (h6 i hi).2.2⟩
  · by_cases hb0 : b < h0.next
    · rw [m1 b hb0] at hb
      rw [mix_tlo hb0]; exact R2.tail b n z hb
    · have hb1 : h0.next ≤ b := by omega
      rw [m2 b hb1] at hb
      rw [mix_thi hb1]
      refine (R.tail b n z hb).more (fun hf i _ => ?_) (fun hf i hh2 => ?_)
      · obtain ⟨_, h9, _, _⟩ := ownr b _ (ι.tk b).r hb1 hb (by simp [Iota.at, hf])
        rw [hc _ _ h9, hfz _ _ h9]; exact ⟨fun h => h, rfl⟩
      · obtain ⟨_, _, _, h10⟩ := ownr b _ (ι.tk b).r hb1 hb (by simp [Iota.at, hf])
        show ι2.im _ _ = none
        rw [h10]; exact hh2
  · by_cases hb0 : b < h0.next
    · rw [m1 b hb0] at hb
      rw [mix_lo hb0]
      obtain ⟨o, h5, h6⟩ := R2.loop b l hb
      exact ⟨o, h5, h6.more (by omega) up2⟩
    · have hb1 : h0.next ≤ b := by omega
      rw [m2 b hb1] at hb
      rw [mix_hi hb1]
      obtain ⟨o, h5, h6⟩ := R.loop b l hb
      obtain ⟨_, h9, _, _⟩ := ownr b _ _ hb1 hb rfl
      exact ⟨o, by rw [h9]; exact h5, h6.more (by omega) up⟩
  · by_cases hb0 : b < h0.next <;> by_cases hb0' : b' < h0.next
    · rw [m1 b hb0] at hb; rw [m1 b' hb0'] at hb'; rw [mix_alo hb0] at hr; rw [mix_alo hb0']
      exact R2.sep b o b' o' r hb hr hb' hne
    · rw [m1 b hb0] at hb; rw [m2 b' (by omega)] at hb'; rw [mix_alo hb0] at hr; rw [mix_ahi (by omega)]
      intro hr'
      exact (ownr b' o' r (by omega) hb' hr').2.2.1 ⟨b, o, hb, hr⟩
    · rw [m2 b (by omega)] at hb; rw [m1 b' hb0'] at hb'; rw [mix_ahi (by omega)] at hr; rw [mix_alo hb0']
      intro hr'
      exact (ownr b o r (by omega) hb hr).2.2.1 ⟨b', o', hb', hr'⟩
    · rw [m2 b (by omega)] at hb; rw [m2 b' (by omega)] at hb'; rw [mix_ahi (by omega)] at hr; rw [mix_ahi (by omega)]
      exact R.sep b o b' o' r hb hr hb' hne
  · have hn0 : ¬ MutAt ι h0 r := fun ⟨b, o, hb, ho⟩ => hn ⟨b, o, by rw [hbase b (hlt b o hb)]; exact hb, ho⟩
    obtain ⟨h5, h6⟩ := X.frame r hr hn0
    refine ⟨h5, fun ⟨b, o, hb, ho⟩ => ?_⟩
    by_cases hb0 : b < h0.next
    · rw [m1 b hb0] at hb; rw [mix_alo hb0] at ho; exact h6 ⟨b, o, hb, ho⟩
    · rw [m2 b (by omega)] at hb; rw [mix_ahi (by omega)] at ho; exact hn ⟨b, o, hb, ho⟩
  · exact X.imf r i hr fun ⟨b, o, hb, ho⟩ => hn ⟨b, o, by rw [hbase b (hlt b o hb)]; exact hb, ho⟩
theorem get_live {h : AHeap} {b : Nat} {o : AObj} (hg : h.get b = some o) : o ≠ .dead := by
  unfold AHeap.get at hg
  obtain ⟨x, _, h2⟩ := bind_some hg
  intro e; subst e
  cases x <;> simp [AObj.live] at h2
theorem ICallV.frame {fv : Value} {us : List Value} {u : Value} {h h0 h0' h' : AHeap} (hN : h0.next ≤ h.next) (e2 : h0'.next = h0.next) (em : h'.next = h.next) (hbase : ∀ b, b < h0.next → h.get b = h0.get b)
    (hob : ∀ b o, h0.get b = some o → OBnd h0.next b o) (m1 : ∀ b, b < h0.next → h'.get b = h0'.get b) (m2 : ∀ b, h0.next ≤ b → h'.get b = h.get b) (hfv : Bnd h0.next fv) (hus : ∀ x, x ∈ us → Bnd h0.next x)
    (H : ICallV E fv us h0 fun v h'' => v = u ∧ h'' = h0') : ICallV E fv us h fun v h'' => v = u ∧ h'' = h' := by
  intro ι w fv' vs R hf hl
  have hlt : ∀ b o, h0.get b = some o → b < h0.next := fun b o hb => by
    have := hob b o hb
    cases o with
    | rw c => exact this.1
    | tail n z => exact this
    | dead => exact absurd rfl (get_live hb)
    | loop L => exact this.1
  have hup : ∀ b o, h0.get b = some o → h.get b = some o := fun b o hb => by rw [hbase b (hlt b o hb)]; exact hb
  have R0 : Rel ι h0 w := by
    refine ⟨hlt, fun b o r hb hr => R.real b o r (hup b o hb) hr, fun b c hb => ?_, fun b n z hb => R.tail b n z (hup b _ hb), fun b l hb => ?_, fun b o b' o' r hb hr hb' hne => R.sep b o b' o' r (hup b o hb) hr (hup b' o' hb') hne, R.im, R.gb⟩
    · obtain ⟨h5, h6, h7⟩ := R.rw b c (hup b _ hb)
      have hbo := hob b _ hb
      refine ⟨h5, h6, fun i u hu => ?_⟩
      obtain ⟨h8, v, h9, h10⟩ := h7 i u hu
      exact ⟨h8, v, h9, hbo.2.2 u (mem_of_at hu) _ _ _ h10⟩
    · obtain ⟨o, h5, ⟨rt, d, fn, h6, h7, h8⟩⟩ := R.loop b l (hup b _ hb)
      have hbo := hob b _ hb
      refine ⟨o, h5, ⟨rt, d, fn, h6, fun t u hu => ?_, h8⟩⟩
      obtain ⟨v, h9, h10⟩ := h7 t u hu
      exact ⟨v, h9, hbo.2 t u hu _ _ _ h10⟩
  obtain ⟨nx, w1, h1, h2, h3, h4⟩ := H ι w fv' vs R0 (hfv _ _ _ hf) ⟨hl.1, fun i a b ha hb => hus a (mem_of_at ha) _ _ _ (hl.2 i a b ha hb)⟩
  obtain ⟨R1, X1⟩ := frame_grow R hN hbase hlt rfl rfl hbase (fun _ _ => rfl) h3 h2
  rw [mix_self] at R1 X1
  refine ⟨nx, w1, h1, R1, X1, ?_⟩
  have key : ∀ e w', Lift (fun v h'' => v = u ∧ h'' = h0') ι h0 w1 e w' → Lift (fun v h'' => v = u ∧ h'' = h') ι h w1 e w' := by
    rintro e w' ⟨ι', x, v, h'', rfl, ⟨rfl, rfl⟩, hvr, R', X'⟩
    obtain ⟨R3, X3⟩ := frame_grow R1 hN hbase hlt e2 em m1 m2 X' R'
    refine ⟨_, x, v, h', rfl, ⟨rfl, rfl⟩, ?_, R3, X3⟩
    exact hvr.more (by omega) ⟨fun b hb => mix_lo (by omega), fun b hb => .inl (mix_tlo (by omega)), fun _ _ _ h => h⟩
  cases nx with
  | enter f args => exact h4.mono key
  | round l f tmps az bd => exact ⟨h4.1, h4.2.mono key⟩
  | _ => exact h4
theorem ICalls.frame2 {k : Nat} {us : List Value} {u : Value} {h h0 h0' h' : AHeap} (hN : h0.next ≤ h.next) (e2 : h0'.next = h0.next) (em : h'.next = h.next) (hbase : ∀ b, b < h0.next → h.get b = h0.get b)
    (hob : ∀ b o, h0.get b = some o → OBnd h0.next b o) (m1 : ∀ b, b < h0.next → h'.get b = h0'.get b) (m2 : ∀ b, h0.next ≤ b → h'.get b = h.get b) (hus : ∀ x, x ∈ us → Bnd h0.next x)
    (H : ICalls E k us h0 fun v h'' => v = u ∧ h'' = h0') : ICalls E k us h fun v h'' => v = u ∧ h'' = h' :=
  ICallV.frame hN e2 em hbase hob m1 m2 ((Clo.func _ [] [] (fun v h => by cases h) (fun v h => by cases h)).bnd) hus H
/-- The same, where one row turns. -/
theorem ICalls.frame {k : Nat} {us : List Value} {u : Value} {h h0 : AHeap} {c : Nat} {x : AObj} (hc : c < h0.next) (hN : h0.next ≤ h.next) (hbase : ∀ b, b < h0.next → h.get b = h0.get b)
    (hob : ∀ b o, h0.get b = some o → OBnd h0.next b o) (hus : ∀ x, x ∈ us → Bnd h0.next x)
    (H : ICalls E k us h0 fun v h'' => v = u ∧ h'' = h0.put c x) : ICalls E k us h fun v h'' => v = u ∧ h'' = h.put c x := by
  refine ICallV.frame (h0' := h0.put c x) hN rfl rfl hbase hob (fun b hb => ?_) (fun b hb => ?_) ((Clo.func _ [] [] (fun v h => by cases h) (fun v h => by cases h)).bnd) hus H
  · rw [AHeap.get_put, AHeap.get_put, hbase b hb]
  · rw [AHeap.get_put, if_neg (by omega)]
end
section
set_option linter.unusedSimpArgs false
set_option linter.unusedVariables false
open Go Go.RowKit Go.Sort

theorem vr_fn1 {ι : Iota} {N : Nat} {g : FuncId} {v : Value} (h : VR ι N (.func (.func g) #[] #[]) v) : v = .func (.func g) #[] #[] := by
  generalize hx : Value.func _ _ _ = x at h
  cases h with
  | func g' xs ys us vs hs h1 hs' h2 =>
    injection hx with e1 e2 e3
    subst e2; subst e3
    injection e1 with e1; subst e1
    rw [Array.eq_empty_of_size_eq_zero (xs := ys) (by simpa using hs.symm), Array.eq_empty_of_size_eq_zero (xs := vs) (by simpa using hs'.symm)]
  | _ => first | (cases hx; done) | (unfold VS at hx; cases hx; done) | (unfold VT at hx; cases hx; done) | (unfold VP at hx; cases hx; done) | (unfold VZ at hx; cases hx; done) | (unfold VE at hx; cases hx; done)
theorem run_ext1 {E : Env} {f : FuncId} (he : Go.Proofs.Enters E.P f) (vs : List Value) (w : World) :
    ((do let d ← Deferred.ofValue (.func (.func f) #[] #[]) vs.toArray; invoke d.target d.args) : Sem Next).run E.P w = .ok (.enter f vs.toArray) w := by
  have h := he vs.toArray w
  simp only [Deferred.ofValue, Sem.run_bind, Sem.run_pure, Result.andThen, invoke]
  simpa using h
/-- A function of which there is a contract, at any memory. -/
theorem ICalls.extH {E : Env} {k : Nat} {f : FuncId} (hid : E.id k = f) (he : Go.Proofs.Enters E.P f) {us : List Value} {h : AHeap} {Q : Value → AHeap → Prop}
    (H : ∀ ι w vs, Rel ι h w → VRL ι h.next us vs → Calls E.P f vs.toArray w fun e w' => Lift Q ι h w e w') : ICalls E k us h Q := by
  intro ι w fv' vs R hf hl
  rw [hid] at hf
  obtain rfl := vr_fn1 hf
  exact ⟨.enter f vs.toArray, w, run_ext1 he vs w, R, Ext.refl _ _ _, callsIn_wide.2 (H ι w vs R hl)⟩
section
variable {ι : Iota} {h : AHeap} {w : World}
theorem heap_putRow {enc : Int → Value} {b off r : Nat} {d : Array Int} (hr : r ≠ b) : (putRow enc w b off d).heap[r]? = w.heap[r]? := by
  show (w.heap.modify b _)[r]? = _
  rw [Array.getElem?_modify, if_neg (fun e => hr e.symm)]
theorem osz_putRow {enc : Int → Value} {b off r : Nat} {d : Array Int} : osz (putRow enc w b off d) r = osz w r := by
  by_cases hr : r = b
  · subst hr
    unfold osz
    have : (putRow enc w r off d).heap[r]? = (w.heap[r]?).map (onCells (putCells enc off d)) := by
      show (w.heap.modify r _)[r]? = _
      rw [Array.getElem?_modify, if_pos rfl]
    rw [this]
    cases w.heap[r]? with
    | none => rfl
    | some o => cases o <;> simp [onCells, putCells]
  · unfold osz; rw [heap_putRow hr]
theorem holds_row (R : Rel ι h w) {b : Nat} {l : List Int} (hb : h.get b = some (.rw (l.map eI))) : Holds (Value.int .i64) w (ι b).r (ι b).f l.toArray := by
  intro j hj
  have hj : j < l.length := by simpa using hj
  obtain ⟨h1, h2, h3⟩ := R.rw b _ hb
  obtain ⟨_, v, h4, h5⟩ := h3 j (eI l[j]) (by simp [hj])
  have hv : v = .int .i64 l[j] := by cases h5; rfl
  refine ⟨by rw [h4, hv]; simp [hj], (h2 j (by simp at h1; omega)).2.1⟩
/-- A row of numbers is written. -/
theorem Rel.putRow (R : Rel ι h w) {b : Nat} {l l2 l3 : List Int} (hb : h.get b = some (.rw (l.map eI))) (hl : l2.length = l.length) (hp : l3 <+: l2) :
    Rel ι (h.put b (.rw (l3.map eI))) (putRow (Value.int .i64) w (ι b).r (ι b).f l2.toArray) ∧ Ext ι h w ι (h.put b (.rw (l3.map eI))) (putRow (Value.int .i64) w (ι b).r (ι b).f l2.toArray) := by
  have hH := holds_row R hb
  obtain ⟨hlen, htot, hCR⟩ := R.rw b _ hb
  have hblt := R.lt b _ hb
  have hlen2 : l.length ≤ (ι b).tot := by simpa using hlen
  have hget : ∀ x, (h.put b (.rw (l3.map eI))).get x = if x = b then some (.rw (l3.map eI)) else h.get x := fun x => by rw [AHeap.get_put]; rfl
  have hold : ∀ x ox, (h.put b (.rw (l3.map eI))).get x = some ox → x ≠ b → h.get x = some ox := fun x ox hx hxb => by rw [hget, if_neg hxb] at hx; exact hx
  have hatb : ∀ ox, (h.put b (.rw (l3.map eI))).get b = some ox → ox = .rw (l3.map eI) := fun ox hx => by rw [hget, if_pos rfl] at hx; injection hx with hx; exact hx.symm
  have hcell : ∀ r i, r ≠ (ι b).r → (Sort.putRow (Value.int .i64) w (ι b).r (ι b).f l2.toArray).cell? ⟨r, i, none⟩ = w.cell? ⟨r, i, none⟩ := fun r i hne => cell?_putRow_other _ _ _ _ _ _ (.inl hne)
  have hin : ∀ j, j < l2.length → (Sort.putRow (Value.int .i64) w (ι b).r (ι b).f l2.toArray).cell? ⟨(ι b).r, (ι b).f + j, none⟩ = some (.int .i64 (l2.toArray[j]!)) := fun j hj => cell?_putRow _ _ _ _ _ _ hH (by simp [hl]) j (by simpa using hj)
  have hoth : ∀ x ox rx, (h.put b (.rw (l3.map eI))).get x = some ox → x ≠ b → ι.at x ox = some rx → rx ≠ (ι b).r := fun x ox rx hx hxb hrx => R.other hb rfl (hold x ox hx hxb) hxb hrx
  have hheap : ∀ r, r ≠ (ι b).r → (Sort.putRow (Value.int .i64) w (ι b).r (ι b).f l2.toArray).heap[r]? = w.heap[r]? := fun r hr => heap_putRow hr
  refine ⟨⟨?_, ?_, ?_, ?_, ?_, ?_, ?_, R.gb.of fun r _ _ => osz_putRow⟩, ⟨Nat.le_refl _, .refl, by rw [size_putRow]; exact Nat.le_refl _, ?_, fun _ _ _ _ => rfl, rfl, rfl, rfl⟩⟩
  · intro x y hx
    by_cases hxb : x = b
    · subst hxb; exact hblt
    · exact R.lt x y (hold x y hx hxb)
  · intro x y r hx hr
    rw [size_putRow]
    by_cases hxb : x = b
    · subst hxb; obtain rfl := hatb y hx; exact R.real x _ r hb hr
    · exact R.real x y r (hold x y hx hxb) hr
  · intro x cx hx
    by_cases hxb : x = b
    · subst hxb
      have := hatb _ hx
      injection this with this; subst this
      refine ⟨by have := hp.length_le; simp; omega, fun i hi => ⟨?_, by rw [frozen?_putRow]; exact (htot i hi).2⟩, fun i y hy => ?_⟩
      · by_cases hio : i < l2.length
        · exact ⟨_, hin i hio⟩
        · obtain ⟨z, hz⟩ := (htot i hi).1
          exact ⟨z, by rw [cell?_putRow_other _ _ _ _ _ _ (.inr (.inr (by simp; omega)))]; exact hz⟩
      · rw [List.getElem?_map] at hy
        obtain ⟨z, hz, rfl⟩ := Option.map_eq_some_iff.1 hy
        obtain ⟨hi, rfl⟩ := List.getElem?_eq_some_iff.1 hz
        have hi2 : i < l2.length := Nat.lt_of_lt_of_le hi hp.length_le
        have he : l3[i] = l2[i] := hp.getElem hi
        exact ⟨rfl, _, hin i hi2, by simp [hi2, he]; exact .int _ _⟩
    · have hne := hoth x _ _ hx hxb rfl
      obtain ⟨h2, h4, h5⟩ := R.rw x cx (hold x _ hx hxb)
      exact ⟨h2, fun i hi => ⟨by rw [hcell _ _ hne]; exact (h4 i hi).1, by rw [frozen?_putRow]; exact (h4 i hi).2⟩, h5.more (Nat.le_refl _) .refl rfl fun i z hz => by rw [hcell _ _ hne]; exact hz⟩
  · intro x n z hx
    have hxb : x ≠ b := fun e => by subst e; cases hatb _ hx
    have hT := R.tail x n z (hold x _ hx hxb)
    refine hT.more (fun hf i hi => ?_) (fun _ _ h => h)
    have hne := hoth x _ (ι.tk x).r hx hxb (by simp [Iota.at, hf])
    rw [hcell _ _ hne, frozen?_putRow]
    exact ⟨fun h => h, rfl⟩
  · intro x l hx
    have hxb : x ≠ b := fun e => by subst e; cases hatb _ hx
    obtain ⟨ob, h1, h2⟩ := R.loop x l (hold x _ hx hxb)
    exact ⟨ob, by rw [hheap _ (hoth x _ _ hx hxb rfl)]; exact h1, h2⟩
  · intro x ox y oy r hx hm hy hne
    have hx' : ∃ o2, h.get x = some o2 ∧ ι.at x o2 = some r := by
      by_cases hxb : x = b
      · subst hxb; obtain rfl := hatb ox hx; exact ⟨_, hb, hm⟩
      · exact ⟨_, hold x ox hx hxb, hm⟩
    obtain ⟨o1, h1, h2⟩ := hx'
    by_cases hyb : y = b
    · subst hyb; obtain rfl := hatb oy hy; exact R.sep x o1 y (.rw (l.map eI)) r h1 h2 hb hne
    · exact R.sep x o1 y oy r h1 h2 (hold y oy hy hyb) hne
  · intro r i y hy
    by_cases hr : r = (ι b).r
    · subst hr
      have him := R.im _ _ _ hy
      rcases Nat.lt_or_ge i (ι b).f with h1 | h1
      · rw [cell?_putRow_other _ _ _ _ _ _ (.inr (.inl h1))]; exact him
      · rcases Nat.lt_or_ge i ((ι b).f + l2.length) with h2 | h2
        · have := (htot (i - (ι b).f) (by omega)).2.2
          rw [show (ι b).f + (i - (ι b).f) = i by omega, hy] at this; cases this
        · rw [cell?_putRow_other _ _ _ _ _ _ (.inr (.inr (by simpa using h2)))]; exact him
    · rw [hcell _ _ hr]; exact R.im _ _ _ hy
  · intro r hr' hn
    refine ⟨hheap r (fun heq => hn ⟨b, _, hb, by rw [heq]; rfl⟩), ?_⟩
    rintro ⟨x, ox, hx, hm⟩
    by_cases hxb : x = b
    · subst hxb; obtain rfl := hatb ox hx; exact hn ⟨x, _, hb, hm⟩
    · exact hn ⟨x, ox, hold x ox hx hxb, hm⟩
/-- What lies behind a row grows, numbers are drawn. -/
theorem Rel.ahead_grow (R : Rel ι h w) (n : Nat) (os : Array Obj) : Rel ι h (grow (Go.Sort.ahead w n) os) ∧ Ext ι h w ι h (grow (Go.Sort.ahead w n) os) := by
  have hh : ∀ r, r < w.heap.size → (grow (Go.Sort.ahead w n) os).heap[r]? = w.heap[r]? := fun r hr => by simp only [grow, Go.Sort.ahead]; rw [Array.getElem?_append_left hr]
  have hc : ∀ r i v, ι.im r i = some v → (grow (Go.Sort.ahead w n) os).cell? ⟨r, i, none⟩ = some v := fun r i v hv => by
    have := R.im r i v hv
    unfold World.cell? at this ⊢
    rw [hh _ (R.lt_of_im hv)]; exact this
  have hs : w.heap.size ≤ (grow (Go.Sort.ahead w n) os).heap.size := by simp [grow, Go.Sort.ahead]
  exact ⟨R.same (κ := ι) hs hh (fun _ _ _ => rfl) hc, ⟨Nat.le_refl _, .refl, hs, fun r hr hn => ⟨hh r hr, hn⟩, fun _ _ _ _ => rfl, rfl, rfl, rfl⟩⟩
end
theorem vrl_one {ι : Iota} {N : Nat} {u : Value} {vs : List Value} (h : VRL ι N [u] vs) : ∃ v, vs = [v] ∧ VR ι N u v := by
  obtain ⟨h1, h2⟩ := h
  match vs, h1 with
  | [v], _ => exact ⟨v, rfl, h2 0 _ _ rfl rfl⟩
theorem vr_tup0 {ι : Iota} {N : Nat} : VR ι N (.tuple #[]) (.tuple #[]) := .tuple #[] #[] rfl fun i u v h _ => by simp at h
def srt (l : List Int) : List Int := l.mergeSort fun x y => decide (x ≤ y)
theorem srt_length {l : List Int} : (srt l).length = l.length := by unfold srt; exact List.length_mergeSort _
theorem srt_len {l : List Int} {n : Nat} (h : Nat.beq n l.length = true) : Nat.beq n (srt l).length = true := by rw [srt_length]; exact h
end
section
set_option linter.unusedSimpArgs false
set_option linter.unusedVariables false
open Go Go.RowKit

variable {E : Env}
def Iota.ren (ι ι2 : Iota) (b : Nat) : Iota := ⟨fun x => if x = b then ι2.loc 0 else ι.loc x, fun x => if x = b then ι2.tk 0 else ι.tk x, ι2.im, ι2.gi⟩
theorem ren_b {ι ι2 : Iota} {b : Nat} : (ι.ren ι2 b) b = ι2 0 := if_pos rfl
theorem ren_o {ι ι2 : Iota} {b x : Nat} (h : x ≠ b) : (ι.ren ι2 b) x = ι x := if_neg h
theorem ren_tb {ι ι2 : Iota} {b : Nat} : (ι.ren ι2 b).tk b = ι2.tk 0 := if_pos rfl
theorem ren_to {ι ι2 : Iota} {b x : Nat} (h : x ≠ b) : (ι.ren ι2 b).tk x = ι.tk x := if_neg h
theorem ren_ao {ι ι2 : Iota} {b x : Nat} {o : AObj} (h : x ≠ b) : (ι.ren ι2 b).at x o = ι.at x o := by
  cases o <;> simp only [Iota.at, ren_o h, ren_to h]
/-- The part of the memory that is one row. -/
def one (ι : Iota) (b : Nat) : Iota := ⟨fun _ => ι.loc b, fun _ => ι.tk b, ι.im, ι.gi⟩
def hOne (l : List Int) : AHeap := ⟨1, [(0, .rw (l.map eI))], true⟩
theorem hOne_get {l : List Int} {x : Nat} : (hOne l).get x = if x = 0 then some (.rw (l.map eI)) else none := by
  by_cases h : x = 0
  · subst h; rfl
  · rw [if_neg h]
    match x, h with
    | 0, h => exact absurd rfl h
    | x + 1, _ => rfl
theorem one_rel {ι : Iota} {h : AHeap} {w : World} {b : Nat} {l : List Int} (R : Rel ι h w) (hb : h.get b = some (.rw (l.map eI))) : Rel (one ι b) (hOne l) w := by
  refine ⟨fun x o hx => ?_, fun x o r hx hr => ?_, fun x c hx => ?_, fun x n z hx => ?_, fun x L hx => ?_, fun x o x' o' r hx hr hx' hne => ?_, R.im, R.gb⟩
  · rw [hOne_get] at hx
    by_cases h0 : x = 0
    · subst h0; exact Nat.lt_succ_self 0
    · rw [if_neg h0] at hx; cases hx
  · rw [hOne_get] at hx
    by_cases h0 : x = 0
    · subst h0
      rw [if_pos rfl] at hx; injection hx with hx; subst hx
      exact R.real b _ r hb hr
    · rw [if_neg h0] at hx; cases hx
  · rw [hOne_get] at hx
    by_cases h0 : x = 0
    · subst h0
      rw [if_pos rfl] at hx; injection hx with hx; injection hx with hx; subst hx
      obtain ⟨h5, h6, h7⟩ := R.rw b _ hb
      refine ⟨h5, h6, fun i u hu => ?_⟩
      obtain ⟨h8, v, h9, h10⟩ := h7 i u hu
      refine ⟨h8, v, h9, ?_⟩
      have hm := mem_of_at hu
      rw [List.mem_map] at hm
      obtain ⟨n, _, rfl⟩ := hm
      cases h10
      exact .int ..
    · rw [if_neg h0] at hx; cases hx
  · rw [hOne_get] at hx
    by_cases h0 : x = 0
    · rw [if_pos h0] at hx; cases hx
    · rw [if_neg h0] at hx; cases hx
  · rw [hOne_get] at hx
    by_cases h0 : x = 0
    · rw [if_pos h0] at hx; cases hx
    · rw [if_neg h0] at hx; cases hx
  · rw [hOne_get] at hx hx'
    by_cases h0 : x = 0
    · by_cases h1 : x' = 0
      · omega
      · rw [if_neg h1] at hx'; cases hx'
    · rw [if_neg h0] at hx; cases hx
theorem ren_grow {ι ι2 : Iota} {h hm : AHeap} {w w2 : World} {b : Nat} {l l2 : List Int} (R : Rel ι h w) (hb : h.get b = some (.rw (l.map eI))) (em : hm.next = h.next)
    (hg : ∀ x, hm.get x = if x = b then some (.rw (l2.map eI)) else h.get x) (X : Ext (one ι b) (hOne l) w ι2 (hOne l2) w2) (R2 : Rel ι2 (hOne l2) w2) :
    Rel (ι.ren ι2 b) hm w2 ∧ Ext ι h w (ι.ren ι2 b) hm w2 := by
  have hbl := R.lt b _ hb
  have hl0 : ι2 0 = ι b := X.up.loc 0 (Nat.lt_succ_self 0)
  have up : Up h.next ι (ι.ren ι2 b) := by
    refine ⟨fun x hx => ?_, fun x hx => ?_, X.up.im⟩
    · by_cases h0 : x = b
      · subst h0; rw [ren_b]; exact hl0
      · exact ren_o h0
    · by_cases h0 : x = b
      · subst h0; rw [ren_tb]; exact X.up.tk 0 (Nat.lt_succ_self 0)
      · exact .inl (ren_to h0)
  have g0 : (hOne l).get 0 = some (.rw (l.map eI)) := rfl
  have g2 : (hOne l2).get 0 = some (.rw (l2.map eI)) := rfl
  have mut1 : ∀ r, MutAt (one ι b) (hOne l) r → ι.at b (.rw (l.map eI)) = some r := by
    rintro r ⟨x, o, hx, hr⟩
    rw [hOne_get] at hx
    by_cases h0 : x = 0
    · rw [if_pos h0] at hx; injection hx with hx; subst hx; exact hr
    · rw [if_neg h0] at hx; cases hx
  have own : ∀ x o r, x ≠ b → h.get x = some o → ι.at x o = some r → ¬ MutAt (one ι b) (hOne l) r := by
    intro x o r hx ho hr hm
    exact R.sep x o b _ r ho hr hb (Ne.symm hx) (mut1 r hm)
  have ownr : ∀ x o r, x ≠ b → h.get x = some o → ι.at x o = some r → r < w.heap.size ∧ w2.heap[r]? = w.heap[r]? ∧ (¬ MutAt ι2 (hOne l2) r) ∧ ∀ i, ι2.im r i = ι.im r i := by
    intro x o r hx ho hr
    have h1 := own x o r hx ho hr
    have h2 := R.real x o r ho hr
    exact ⟨h2, (X.frame r h2 h1).1, (X.frame r h2 h1).2, fun i => X.imf r i h2 h1⟩
  have hc : ∀ (r i : Nat), w2.heap[r]? = w.heap[r]? → w2.cell? ⟨r, i, none⟩ = w.cell? ⟨r, i, none⟩ := fun r i e => by unfold World.cell?; rw [show (⟨r, i, none⟩ : Addr).block = r from rfl, e]
  have hfz : ∀ (r i : Nat), w2.heap[r]? = w.heap[r]? → w2.frozen? ⟨r, i, none⟩ = w.frozen? ⟨r, i, none⟩ := fun r i e => by unfold World.frozen?; rw [show (⟨r, i, none⟩ : Addr).block = r from rfl, e]
  refine ⟨⟨fun x o hx => ?_, fun x o r hx hr => ?_, fun x c hx => ?_, fun x n z hx => ?_, fun x L hx => ?_, fun x o x' o' r hx hr hx' hne => ?_, R2.im, R2.gb⟩, ⟨by omega, up, X.size, fun r hr hn => ?_, fun r i hr hn => ?_, X.os, X.tape, X.output⟩⟩
  · rw [em]
    by_cases h0 : x = b
    · omega
    · rw [hg, if_neg h0] at hx; exact R.lt x o hx
  · by_cases h0 : x = b
    · subst h0
      rw [hg, if_pos rfl] at hx; injection hx with hx; subst hx
      refine R2.real 0 _ r g2 ?_
      rw [← hr]; simp only [Iota.at, ren_b]
    · rw [hg, if_neg h0] at hx; rw [ren_ao h0] at hr; exact Nat.lt_of_lt_of_le (R.real x o r hx hr) X.size
  · by_cases h0 : x = b
    · subst h0
      rw [hg, if_pos rfl] at hx; injection hx with hx; injection hx with hx; subst hx
      obtain ⟨h5, h6, h7⟩ := R2.rw 0 _ g2
      rw [ren_b]
      refine ⟨h5, h6, fun i u hu => ?_⟩
      obtain ⟨h8, v, h9, h10⟩ := h7 i u hu
      refine ⟨h8, v, by rw [show (ι.ren ι2 x).loc x = ι2.loc 0 from ren_b]; exact h9, ?_⟩
      have hm := mem_of_at hu
      rw [List.mem_map] at hm
      obtain ⟨n, _, rfl⟩ := hm
      cases h10
      exact .int ..
    · rw [hg, if_neg h0] at hx
      obtain ⟨h5, h6, h7⟩ := R.rw x c hx
      obtain ⟨h8, h9, _, h10⟩ := ownr x _ _ h0 hx rfl
      rw [ren_o h0]
      refine ⟨h5, fun i hi => ?_, h7.more (by omega) up (ren_o h0) fun i v hv => by rw [hc _ _ h9]; exact hv⟩
      rw [hc _ _ h9, hfz _ _ h9]
      exact ⟨(h6 i hi).1, (h6 i hi).2.1, by show ι2.im _ _ = none; rw [h10]; exact (h6 i hi).2.2⟩
  · by_cases h0 : x = b
    · subst h0; rw [hg, if_pos rfl] at hx; cases hx
    · rw [hg, if_neg h0] at hx
      rw [ren_to h0]
      refine (R.tail x n z hx).more (fun hf i _ => ?_) (fun hf i hh2 => ?_)
      · obtain ⟨_, h9, _, _⟩ := ownr x _ (ι.tk x).r h0 hx (by simp [Iota.at, hf])
        rw [hc _ _ h9, hfz _ _ h9]; exact ⟨fun h => h, rfl⟩
      · obtain ⟨_, _, _, h10⟩ := ownr x _ (ι.tk x).r h0 hx (by simp [Iota.at, hf])
        show ι2.im _ _ = none
        rw [h10]; exact hh2
  · by_cases h0 : x = b
    · subst h0; rw [hg, if_pos rfl] at hx; cases hx
    · rw [hg, if_neg h0] at hx
      rw [ren_o h0]
      obtain ⟨o, h5, h6⟩ := R.loop x L hx
      obtain ⟨_, h9, _, _⟩ := ownr x _ _ h0 hx rfl
      exact ⟨o, by rw [h9]; exact h5, h6.more (by omega) up⟩
  · by_cases h0 : x = b <;> by_cases h1 : x' = b
    · omega
    · subst h0
      rw [hg, if_pos rfl] at hx; injection hx with hx; subst hx
      rw [hg, if_neg h1] at hx'; rw [ren_ao h1]
      intro hr'
      refine (ownr x' o' r h1 hx' hr').2.2.1 ⟨0, _, g2, ?_⟩
      rw [← hr]; simp only [Iota.at, ren_b]
    · subst h1
      rw [hg, if_neg h0] at hx; rw [ren_ao h0] at hr
      rw [hg, if_pos rfl] at hx'; injection hx' with hx'; subst hx'
      intro hr'
      refine (ownr x o r h0 hx hr).2.2.1 ⟨0, _, g2, ?_⟩
      rw [← hr']; simp only [Iota.at, ren_b]
    · rw [hg, if_neg h0] at hx; rw [ren_ao h0] at hr
      rw [hg, if_neg h1] at hx'; rw [ren_ao h1]
      exact R.sep x o x' o' r hx hr hx' hne
  · have hn0 : ¬ MutAt (one ι b) (hOne l) r := fun hm => hn ⟨b, _, hb, mut1 r hm⟩
    obtain ⟨h5, h6⟩ := X.frame r hr hn0
    refine ⟨h5, fun ⟨x, o, hx, ho⟩ => ?_⟩
    by_cases h0 : x = b
    · subst h0
      rw [hg, if_pos rfl] at hx; injection hx with hx; subst hx
      refine h6 ⟨0, _, g2, ?_⟩
      rw [← ho]; simp only [Iota.at, ren_b]
    · rw [hg, if_neg h0] at hx; rw [ren_ao h0] at ho; exact hn ⟨x, o, hx, ho⟩
  · exact X.imf r i hr fun hm => hn ⟨b, _, hb, mut1 r hm⟩
theorem ren_self {ι : Iota} {b : Nat} : ι.ren (one ι b) b = ι := by
  obtain ⟨a, c, d, e⟩ := ι
  simp only [Iota.ren, one]
  congr 1
  · funext x; split
    · next h => subst h; rfl
    · rfl
  · funext x; split
    · next h => subst h; rfl
    · rfl
/-- A call of a function that turns the slice that it is given, at any block. -/
theorem ICallV.renB {fv : Value} {us : List Value} {u : Value} {h : AHeap} {b n c : Nat} {l l2 : List Int} (hb : h.get b = some (.rw (l.map eI))) (hfv : Clo fv) (hus : CloL us) (hu : Clo u)
    (H : ICallV E fv (.slice (some ⟨0, 0, none⟩) n 1 :: us) (hOne l) fun v h'' => v = u ∧ h'' = hOne l2) : ICallV E fv (.slice (some ⟨b, 0, none⟩) n c :: us) h fun v h'' => v = u ∧ h'' = h.put b (.rw (l2.map eI)) := by
  intro ι w fv' vs R hf hl
  have hbl := R.lt b _ hb
  have hl' : VRL (one ι b) (hOne l).next (.slice (some ⟨0, 0, none⟩) n 1 :: us) vs := by
    refine ⟨hl.1, fun i x y hx hy => ?_⟩
    cases i with
    | zero =>
      injection hx with hx; subst hx
      have hv := hl.2 0 _ y rfl hy
      cases hv with
      | slice _ _ _ _ a' c' hb1 ha hn hc0 hr => exact .slice _ _ _ _ a' c' (Nat.lt_succ_self 0) ha hn (fun h => by cases h) (fun z h => by omega)
    | succ i => exact Clo.vr (ι := ι) (ι' := one ι b) (hus x (mem_of_at hx)) (fun _ _ _ h => h) (hl.2 (i + 1) x y hx hy)
  obtain ⟨nx, w1, h1, h2, h3, h4⟩ := H (one ι b) w fv' vs (one_rel R hb) (Clo.vr (ι := ι) (ι' := one ι b) hfv (fun _ _ _ h => h) hf) hl'
  have hgs : ∀ x, h.get x = if x = b then some (.rw (l.map eI)) else h.get x := by
    intro x
    by_cases h0 : x = b
    · rw [if_pos h0, h0]; exact hb
    · rw [if_neg h0]
  obtain ⟨R1, X1⟩ := ren_grow (hm := h) (l2 := l) R hb rfl hgs h3 h2
  rw [ren_self] at R1 X1
  refine ⟨nx, w1, h1, R1, X1, ?_⟩
  have key : ∀ e w', Lift (fun v h'' => v = u ∧ h'' = hOne l2) (one ι b) (hOne l) w1 e w' → Lift (fun v h'' => v = u ∧ h'' = h.put b (.rw (l2.map eI))) ι h w1 e w' := by
    rintro e w' ⟨ι', x, v, h'', rfl, ⟨rfl, rfl⟩, hvr, R', X'⟩
    obtain ⟨R3, X3⟩ := ren_grow (hm := h.put b (.rw (l2.map eI))) R1 hb rfl (fun x => by rw [AHeap.get_put]; rfl) X' R'
    exact ⟨ι.ren ι' b, x, v, _, rfl, ⟨rfl, rfl⟩, Clo.vr (ι := ι') (ι' := ι.ren ι' b) hu (fun _ _ _ h => h) hvr, R3, X3⟩
  cases nx with
  | enter f args => exact h4.mono key
  | round l f tmps az bd => exact ⟨h4.1, h4.2.mono key⟩
  | _ => exact h4
end
section
set_option linter.unusedSimpArgs false
set_option linter.unusedVariables false
open Go Go.RowKit

variable {E : Env}
theorem ogrd_i {b : Bool} (h : b = true) : ogrd b (some ()) = some () := by subst h; rfl
/-- A call of a function that turns the slice that it is given. -/
theorem ICalls.goB {key : Nat} {us : List Value} {l l2 : List Int} [hus : ClL us]
    (H : ICalls E key (.slice (some ⟨0, 0, none⟩) l.length 1 :: us) (hOne l) fun v h'' => v = .tuple #[] ∧ h'' = hOne l2) {h : AHeap} {b n c : Nat} {Q : Value → AHeap → Prop}
    (hb : h.get b = some (.rw (l.map eI))) (hn : Nat.beq n l.length = true) (hq : Q (.tuple #[]) (h.put b (.rw (l2.map eI)))) : PCalls E key (.slice (some ⟨b, 0, none⟩) n c :: us) h Q := by
  obtain rfl := Nat.eq_of_beq_eq_true hn
  exact ⟨(ICallV.renB hb (.func _ [] [] (fun v h => by cases h) (fun v h => by cases h)) hus.out (.tuple [] fun v h => by cases h) H).mono fun v h' e => by rw [e.1, e.2]; exact hq⟩
/-- A pointer to a block of closed cells. -/
theorem Fz.ptrc {h : AHeap} {D : Nat → Bool} {n b o : Nat} {c : List Value} [hc : ClL c] (hD : D b = true) (hg : h.get b = some (.rw c)) (h1 : oneL c = true) : Fz h D n (.pointer (some ⟨b, o, none⟩)) (VP (.agg ⟨c⟩) o) :=
  .ptr b o c _ hD hg (fun j u hu => by
    have hu' : c[j]? = some u := by simpa [Value.cells] using hu
    exact ⟨oneL_at h1 hu', u, hu'⟩) fun j u u' hu hu' => by
    have hu2 : c[j]? = some u' := by simpa [Value.cells] using hu
    rw [hu2] at hu'; injection hu' with hu'; subst hu'
    exact .same _ ((hc.out _ (mem_of_at hu2)).bnd)
/-- A call that yields a new block, with a value beside it. -/
theorem ICallV.newT {fv : Value} {us : List Value} {m c : Nat} {es : List Value} {r : Value} (hf : Clo fv) (hus : CloL us) (hes : CloL es) (hrc : Clo r)
    (H : ICallV E fv us AHeap.none fun v h' => ∃ b, v = .tuple ⟨[.slice (some ⟨b, 0, none⟩) m c, r]⟩ ∧ h'.get b = some (.rw es)) (h : AHeap) : ICallV E fv us h fun v h' => v = .tuple ⟨[.slice (some ⟨h.next, 0, none⟩) m c, r]⟩ ∧ h' = h.alloc (.rw es) := by
  intro ι w fv' vs R hf' hl
  obtain ⟨nx, w1, h1, h2, h3, h4⟩ := H ι w fv' vs (.bare R.im R.gb) (hf.vr (fun _ _ _ h => h) hf') (hus.vrl (fun _ _ _ h => h) hl)
  have hat : ∀ (κ : Iota) b o, ({ ι with im := κ.im, gi := κ.gi } : Iota).at b o = ι.at b o := fun κ b o => by cases o <;> rfl
  have grow : ∀ ι2 h2 w2, Ext ι AHeap.none w ι2 h2 w2 → Rel ι2 h2 w2 → Rel { ι with im := ι2.im, gi := ι2.gi } h w2 ∧ Ext ι h w { ι with im := ι2.im, gi := ι2.gi } h w2 := by
    intro ι2 h2 w2 X R2
    have hh : ∀ r, r < w.heap.size → w2.heap[r]? = w.heap[r]? := fun r hr => (X.frame r hr none_mut).1
    have hi : ∀ r i, r < w.heap.size → ι2.im r i = ι.im r i := fun r i hr => X.imf r i hr none_mut
    refine ⟨R.same X.size hh hi R2.im, ⟨Nat.le_refl _, ⟨fun _ _ => rfl, fun _ _ => .inl rfl, X.up.im⟩, X.size, fun r hr hn => ⟨hh r hr, fun ⟨b, o, hb, ho⟩ => hn ⟨b, o, hb, by rw [hat] at ho; exact ho⟩⟩, fun r i hr _ => hi r i hr, X.os, X.tape, X.output⟩⟩
  refine ⟨nx, w1, h1, (grow ι _ w1 h3 h2).1, (grow ι _ w1 h3 h2).2, ?_⟩
  have key : ∀ e w', Lift (fun v h' => ∃ b, v = .tuple ⟨[.slice (some ⟨b, 0, none⟩) m c, r]⟩ ∧ h'.get b = some (.rw es)) ι AHeap.none w1 e w' → Lift (fun v h' => v = .tuple ⟨[.slice (some ⟨h.next, 0, none⟩) m c, r]⟩ ∧ h' = h.alloc (.rw es)) ι h w1 e w' := by
    rintro e w' ⟨ι', x, v, h', rfl, ⟨b, rfl, hg⟩, hvr, R', X'⟩
    obtain ⟨R2, X2⟩ := grow ι' h' w' (h3.trans X') R'
    have X2' : Ext ι h w1 { ι with im := ι'.im, gi := ι'.gi } h w' := ⟨Nat.le_refl _, ⟨fun _ _ => rfl, fun _ _ => .inl rfl, X'.up.im⟩, X'.size, fun r hr hn => ⟨(X'.frame r hr none_mut).1, fun ⟨b, o, hb, ho⟩ => hn ⟨b, o, hb, by rw [hat] at ho; exact ho⟩⟩, fun r i hr _ => X'.imf r i hr none_mut, X'.os, X'.tape, X'.output⟩
    obtain ⟨hlen, htot, hCR⟩ := R'.rw b es hg
    have hfar : w1.heap.size ≤ (ι' b).r := by
      rcases Nat.lt_or_ge (ι' b).r w1.heap.size with hlt | hge
      · exact absurd ⟨b, _, hg, rfl⟩ (X'.frame _ hlt none_mut).2
      · exact hge
    have hnm : ¬ MutAt { ι with im := ι'.im, gi := ι'.gi } h (ι' b).r := fun ⟨b2, o2, hb2, ho2⟩ => by
      rw [hat] at ho2
      have := R.real b2 o2 _ hb2 ho2
      have := h3.size
      omega
    have R3 := R2.addRow (c := es) (l := ι' b) (R'.real b _ _ hg rfl) hnm hlen htot fun i u hu => by
      obtain ⟨h5, v, h6, h7⟩ := hCR i u hu
      exact ⟨h5, v, h6, Clo.vr (ι := ι') (ι' := { ι with im := ι'.im, gi := ι'.gi }) (N := h'.next) (N' := h.next) (hes u (mem_of_at hu)) (fun r i x hx => hx) h7⟩
    refine ⟨_, _, v, _, rfl, ⟨rfl, rfl⟩, ?_, R3, ⟨by have := X2'.next; simp, X2'.up.trans .upd X2'.next, X2'.size, fun x hx hn => ⟨(X2'.frame x hx hn).1, fun ⟨b2, o2, hb2, ho2⟩ => ?_⟩, X2'.imf, X2'.os, X2'.tape, X2'.output⟩⟩
    · cases hvr with
      | tuple _ ys hs hh =>
        refine .tuple _ ys hs fun i a d ha hd => ?_
        match i, ha with
        | 0, ha =>
          have e : Value.slice (some ⟨b, 0, none⟩) m c = .slice (some ⟨b, 0, none⟩) m c := rfl
          have hv := hh 0 (.slice (some ⟨b, 0, none⟩) m c) d rfl hd
          injection ha with ha; subst ha
          cases hv with
          | slice _ _ _ _ a' c' hb ha hn hc0 hr =>
            exact .slice _ _ _ _ a' c' (by simp) (by rw [upd_same]; exact ha) hn hc0 (by rw [upd_same]; exact hr)
        | 1, ha =>
          have hv := hh 1 r d rfl hd
          injection ha with ha; subst ha
          show VR _ _ r d
          refine Clo.vr (ι := ι') (N := h'.next) hrc (fun r i x hx => ?_) hv
          exact hx
        | i + 2, ha => cases ha
    · by_cases e : b2 = h.next
      · subst e
        rw [AHeap.get_alloc, if_pos rfl] at hb2
        simp [AObj.live] at hb2; subst hb2
        simp only [Iota.at, upd_same] at ho2
        injection ho2 with ho2
        omega
      · rw [AHeap.get_alloc, if_neg e] at hb2
        rw [at_upd e] at ho2
        exact (X2'.frame x hx hn).2 ⟨b2, o2, hb2, ho2⟩
  cases nx with
  | enter f args => exact h4.mono key
  | round l f tmps az bd => exact ⟨h4.1, h4.2.mono key⟩
  | _ => exact h4
theorem VR.tup2 {ι : Iota} {N : Nat} {u u' r x : Value} (hv : VR ι N (.tuple ⟨[u, r]⟩) x) (h : ∀ y, VR ι N u y → VR ι N u' y) : VR ι N (.tuple ⟨[u', r]⟩) x := by
  cases hv with
  | tuple _ ys hs hh =>
    refine .tuple _ ys hs fun i a d ha hd => ?_
    match i, ha with
    | 0, ha => injection ha with ha; subst ha; exact h d (hh 0 u d rfl hd)
    | 1, ha => injection ha with ha; subst ha; exact hh 1 r d rfl hd
    | i + 2, ha => cases ha
theorem ICalls.goT1 {key : Nat} {us us' : List Value} {l : List Int} {o : Option (List Int)} {r : Value} [hus : ClL us'] [hr : Cl r] (ho : o = some l)
    (H : ICalls E key us' AHeap.none fun v h' => ∃ b c, v = .tuple ⟨[nsv b o c, r]⟩ ∧ h'.get b = (nso o).live) (hw : WkL us us') {h : AHeap} {Q : Value → AHeap → Prop}
    (hq : Q (.tuple ⟨[.slice (some ⟨h.next, 0, none⟩) l.length 1, r]⟩) (h.alloc (.rw (l.map eI)))) : PCalls E key us h Q := by
  subst ho
  exact ⟨ICalls.weak (ICalls.use2 (ICallV.newT (m := l.length) (c := 1) (es := l.map eI) (r := r) (.func _ [] [] (fun v h => by cases h) (fun v h => by cases h)) hus.out (ClL.out (l := l.map eI)) hr.out
    (ICallV.wres H fun v h' ⟨b, c, e1, e2⟩ => ⟨.tuple ⟨[.slice (some ⟨b, 0, none⟩) l.length 1, r]⟩, ⟨b, rfl, e2⟩, fun ι N x hv => by rw [e1] at hv; exact hv.tup2 fun y hy => VR.sl1 hy⟩) h) hq) hw⟩
theorem ICalls.goT0 {key : Nat} {us us' : List Value} {o : Option (List Int)} {r : Value} [hus : ClL us'] [hr : Cl r] (ho : o = none)
    (H : ICalls E key us' AHeap.none fun v h' => ∃ b c, v = .tuple ⟨[nsv b o c, r]⟩ ∧ h'.get b = (nso o).live) (hw : WkL us us') {h : AHeap} {Q : Value → AHeap → Prop}
    (hq : Q (.tuple ⟨[.slice none 0 0, r]⟩) h) : PCalls E key us h Q := by
  subst ho
  exact ICalls.goW (ICallV.wres (Q' := fun v _ => v = .tuple ⟨[.slice none 0 0, r]⟩) H fun v h' ⟨b, c, e1, e2⟩ => ⟨_, rfl, fun ι N x hv => by rw [e1] at hv; exact hv⟩) hw hq
end
end Go.Proofs.Ytgfglinlmnbjbaa.AM
