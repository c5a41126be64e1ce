/- A matrix: a row of slices of structures that change places, each slice in a block of its own. Conditions: none. -/
import Derived.Test.YtgfglinlmnbjbaaGreatAmLift4
namespace Go.Proofs.YtgfglinlmnbjbaaGreat.AM
section
set_option linter.unusedSimpArgs false
set_option linter.unusedVariables false
open Go Go.RowKit
section
variable {α β : Type} {v : β} {f : α → Value} {z : Nat}
class Sz (f : α → Value) (z : outParam Nat) : Prop where
 sz : ∀ x, (f x).cells.toList.length = z
 one : ∀ x u, u ∈ (f x).cells.toList → u.oneCell' = true
 agg : ∀ x, f x = .agg ⟨(f x).cells.toList⟩
 cl : ∀ x u, u ∈ (f x).cells.toList → Clo u
theorem flatS_len [h : Sz f z] : ∀ {l : List α}, (flat (l.map f)).length = l.length * z
  | [] => by simp [flat]
  | x :: r => by
    simp only [List.map_cons, flat, List.length_append, List.length_cons]
    rw [h.sz, flatS_len, Nat.succ_mul]; omega
theorem flatS_drop [h : Sz f z] : ∀ {l : List α} {n : Nat}, (flat (l.map f)).drop (n * z) = flat ((l.drop n).map f)
  | l, 0 => by simp
  | [], n + 1 => by simp [flat]
  | x :: r, n + 1 => by
    simp only [List.map_cons, flat, List.drop_succ_cons]
    rw [List.drop_append, h.sz, List.drop_of_length_le (by rw [h.sz, Nat.succ_mul]; omega), List.nil_append, show (n + 1) * z - z = n * z by rw [Nat.succ_mul]; omega, flatS_drop]
theorem flatS_take [h : Sz f z] {l : List α} {n : Nat} {x : α} (hx : l[n]? = some x) : ((flat (l.map f)).drop (n * z)).take z = (f x).cells.toList := by
 rw [flatS_drop]
 obtain ⟨hn, rfl⟩ := List.getElem?_eq_some_iff.1 hx
 rw [List.drop_eq_getElem_cons hn, List.map_cons, flat, List.take_append, h.sz, List.take_of_length_le (by rw [h.sz]; omega)]
 simp
theorem flatS_in [h : Sz f z] {l : List α} {u : Value} (hu : u ∈ flat (l.map f)) : ∃ x, u ∈ (f x).cells.toList := by
  induction l with
  | nil => cases hu
  | cons x r ih =>
    rw [List.map_cons, flat, List.mem_append] at hu
    rcases hu with hu | hu
    · exact ⟨x, hu⟩
    · exact ih hu
instance [h : Sz f z] {l : List α} : ClL (flat (l.map f)) := ⟨fun u hu => by
 obtain ⟨x, hx⟩ := flatS_in hu; exact h.cl x u hx⟩
theorem oneL_of : ∀ {l : List Value}, (∀ v, v ∈ l → v.oneCell' = true) → oneL l = true
  | [], _ => rfl
  | v :: r, h => by
    simp only [oneL, Bool.and_eq_true]
    exact ⟨h v List.mem_cons_self, oneL_of fun u hu => h u (List.mem_cons_of_mem _ hu)⟩
theorem oneL_flat [h : Sz f z] {l : List α} : oneL (flat (l.map f)) = true := oneL_of fun u hu => by
 obtain ⟨x, hx⟩ := flatS_in hu; exact h.one x u hx
theorem ld_st [h : Sz f z] {l : List α} {n : Nat} {F : α → Option β} {K : List Value → Prop} (H : obnd (l[n]?) F = some v) (hk : ∀ x, l[n]? = some x → F x = some v → K (f x).cells.toList) :
  pbr (Nat.ble (0 + n * z + z) (flat (l.map f)).length) (fS (((flat (l.map f)).drop (0 + n * z)).take z) K) False := by
 obtain ⟨x, hx, H⟩ := obnd_some H
 have hn := (List.getElem?_eq_some_iff.1 hx).1
 rw [flatS_len, show 0 + n * z + z = (n + 1) * z by rw [Nat.succ_mul]; omega, show Nat.ble ((n + 1) * z) (l.length * z) = true from Nat.ble_eq.mpr (Nat.mul_le_mul_right _ hn)]
 show fS _ K
 rw [fS_eq, Nat.zero_add, flatS_take hx]
 exact hk x hx H
end
end
section
set_option linter.unusedSimpArgs false
set_option linter.unusedVariables false
open Go Go.RowKit
def nsv (b : Nat) (o : Option (List Int)) (c : Nat) : Value := match o with
 | none => .slice none 0 0
 | some l => .slice (some ⟨b, 0, none⟩) l.length c
def nso (o : Option (List Int)) : AObj := match o with
 | none => .dead
 | some l => .rw (l.map eI)
def nsl (o : Option (List Int)) : List Int := o.getD []
def ocase {β : Type} (o : Option (List Int)) (x : Option β) (y : List Int → Option β) : Option β := match o with
 | none => x
 | some l => y l
section
variable {β : Type} {v : β} {o : Option (List Int)}
end
section
variable {n b b2 k c : Nat} {o : Option (List Int)}
end
section
variable {E : Env} {t : List (Nat × Value)} {h : AHeap} {K : Option Value × AHeap → Prop}
def clrL (l : List Int) (n : Nat) : List Int := l.take n ++ List.replicate (l.length - n) 0
end
theorem ICalls.modeT {E : Env} {key : Nat} {us : List Value} {Q : Value → AHeap → Prop} (H : ICalls E key us ⟨0, [], true⟩ Q) : ICalls E key us AHeap.none Q := ICallV.modeH H
theorem VR.sl1 {ι : Iota} {N b m c : Nat} {x : Value} (hv : VR ι N (.slice (some ⟨b, 0, none⟩) m c) x) : VR ι N (.slice (some ⟨b, 0, none⟩) m 1) x := by
 cases hv with
 | slice _ _ _ _ a' c' hb ha hn hc0 hr => exact .slice _ _ _ _ a' c' hb ha hn (fun h => by cases h) (fun z h => by omega)
end
section
set_option linter.unusedSimpArgs false
set_option linter.unusedVariables false
open Go Go.RowKit
section
variable {α β : Type} {v : β} (f : α → Value)
def mso (o : Option (List α)) : AObj := match o with
 | none => .dead
 | some r => .rw (r.map f)
def fam (B : Nat) : List (Option (List α)) → List (Nat × AObj)
 | [] => []
 | o :: R => (B, mso f o) :: fam (B + 1) R
def msv (b : Nat) (o : Option Nat) : Value := match o with
 | none => .slice none 0 0
 | some n => .slice (some ⟨b, 0, none⟩) n 1
def outQ (B : Nat) : List (Option Nat) → List Value
 | [] => []
 | o :: R => msv B o :: outQ (B + 1) R
end
section
variable {α β : Type} {v : β} {f : α → Value}
theorem look_ne {k x : Nat} {o : AObj} {r : List (Nat × AObj)} (h : k ≠ x) : look ((k, o) :: r) x = look r x := by simp only [look]; rw [if_neg (fun e => h e.symm)]
theorem hput_ne {k x : Nat} {o o' : AObj} {r : List (Nat × AObj)} (h : k ≠ x) : hput ((k, o) :: r) x o' = (k, o) :: hput r x o' := by simp only [hput]; rw [if_neg (fun e => h e.symm)]
theorem outQ_len : ∀ {S : List (Option Nat)} {B : Nat}, (outQ B S).length = S.length
 | [], _ => rfl
 | o :: R, B => by simp only [outQ, List.length_cons]; rw [outQ_len]
theorem outQ_at : ∀ {S : List (Option Nat)} {B i : Nat} {o : Option Nat}, S[i]? = some o → (outQ B S)[i]? = some (msv (B + i) o)
  | [], _, _, _, h => by simp at h
  | a :: R, B, 0, o, h => by simp at h; subst h; simp [outQ]
  | a :: R, B, i + 1, o, h => by
    simp only [outQ, List.getElem?_cons_succ]
    rw [outQ_at (i := i) (o := o) (by simpa using h)]; congr 2; omega
theorem pputm {h h1 : AHeap} {b : Nat} {o : AObj} {k : AHeap → Prop} (e : h.put b o = h1) (H : k h1) : pput h b o k := by rw [pput_eq, e]; exact H
theorem OBnd.mso [hf : ∀ x, Cl (f x)] {n b : Nat} {o : Option (List α)} (h : b < n) (h1 : ∀ x, (f x).oneCell' = true) : OBnd n b (mso f o) := by
 cases o with
 | none => trivial
 | some l => exact OBnd.rwc h (oneL_map h1)
theorem FzHL.fam [hf : ∀ x, Cl (f x)] {h : AHeap} {D : Nat → Bool} {n : Nat} (h1 : ∀ x, (f x).oneCell' = true) : ∀ {M : List (Option (List α))} {B : Nat}, (∀ i o, M[i]? = some o → look h.objs (B + i) = some (mso f o)) → (∀ i, i < M.length → D (B + i) = false) → B + M.length ≤ n → FzHL h D n (fam f B M)
  | [], _, _, _, _ => .nil
  | o :: R, B, hl, hD, hn => by
    simp only [List.length_cons] at hn hD
    refine .cons (.same (hD 0 (by omega)) (hl 0 o rfl) (.mso (by omega) h1)) (FzHL.fam h1 (fun i o' h2 => ?_) (fun i hi => ?_) (by omega))
    · rw [show B + 1 + i = B + (i + 1) by omega]; exact hl (i + 1) o' (by simpa using h2)
    · rw [show B + 1 + i = B + (i + 1) by omega]; exact hD (i + 1) (by omega)
section
variable {b b2 n : Nat}
theorem MvO.mso [hf : ∀ x, Cl (f x)] {l : List (Nat × AObj)} {j : Nat} {o : Option (List α)} (h1 : ∀ x, (f x).oneCell' = true) (hb : j ≠ b) (h2 : j ≠ b2) (hk : j < n) (hg : look l j = some (mso f o)) : MvO b b2 n l j (mso f o) := by
 cases o with
 | none => exact .dead
 | some r => exact .rw hb h2 hk hg (oneL_map h1) .cl
theorem MvHL.fam [hf : ∀ x, Cl (f x)] {l : List (Nat × AObj)} (h1 : ∀ x, (f x).oneCell' = true) : ∀ {M : List (Option (List α))} {B : Nat}, (∀ i o, M[i]? = some o → look l (B + i) = some (mso f o)) → (∀ i, i < M.length → B + i ≠ b ∧ B + i ≠ b2) → B + M.length ≤ n → MvHL b b2 n l (fam f B M)
  | [], _, _, _, _ => .nil
  | o :: R, B, hl, hD, hn => by
    simp only [List.length_cons] at hn hD
    refine .cons (.mso h1 (hD 0 (by omega)).1 (hD 0 (by omega)).2 (by omega) (hl 0 o rfl)) (MvHL.fam h1 (fun i o' h2 => ?_) (fun i hi => ?_) (by omega))
    · rw [show B + 1 + i = B + (i + 1) by omega]; exact hl (i + 1) o' (by simpa using h2)
    · rw [show B + 1 + i = B + (i + 1) by omega]; exact hD (i + 1) (by omega)
theorem msv_mv {k B : Nat} {o : Option Nat} (h : B ≠ b2) (hc : B < n) : MvV b b2 n (msv B o) (msv B o) := by
 cases o with
 | none => exact (MvV.cl : MvV b b2 n (.slice none 0 0) (.slice none 0 0))
 | some k => exact MvV.slice h hc
theorem MvR.out {S : List (Option Nat)} {B : Nat} (hn : B + S.length ≤ n) (h2 : ∀ j, j < S.length → B + j ≠ b2) : MvR b b2 n (outQ B S) (outQ B S) := by
 refine ⟨Nat.le_refl _, fun i u hu => ⟨u, hu, ?_⟩⟩
 have hi : i < S.length := by have := (List.getElem?_eq_some_iff.1 hu).1; rwa [outQ_len] at this
 rw [outQ_at (List.getElem?_eq_getElem hi)] at hu
 injection hu with hu; subst hu
 exact msv_mv (k := 0) (h2 i hi) (by omega)
end
theorem oneL_out : ∀ {S : List (Option Nat)} {B : Nat}, oneL (outQ B S) = true
  | [], _ => rfl
  | o :: R, B => by
    simp only [outQ, oneL, Bool.and_eq_true]
    exact ⟨by cases o <;> rfl, oneL_out⟩
theorem Bnd.msv {n B : Nat} {o : Option Nat} (h : B < n) : Bnd n (msv B o) := by
 cases o with
 | none => exact (Bnd.cl : Bnd n (.slice none 0 0))
 | some k => exact Bnd.slice h
theorem OBnd.out {S : List (Option Nat)} {B n b : Nat} (hb : b < n) (hn : B + S.length ≤ n) : OBnd n b (.rw (outQ B S)) := by
 refine ⟨hb, oneL_out, fun v hv => ?_⟩
 obtain ⟨i, hi, e⟩ := List.getElem_of_mem hv
 rw [outQ_len] at hi
 have := outQ_at (B := B) (List.getElem?_eq_getElem hi)
 rw [List.getElem?_eq_getElem (by rw [outQ_len]; exact hi), e] at this
 injection this with this; subst this
 exact Bnd.msv (by omega)
theorem Recast.getle {K n n2 : Nat} {m m2 : Bool} {t : List (Nat × Value)} {l l2 : List (Nat × AObj)} (hK : K ≤ n2) (hn : n ≤ n2) (hl : ∀ x o, look l2 x = some o → o = .dead ∨ look l x = some o) : Recast K ⟨t, ⟨n, l, m⟩⟩ ⟨t, ⟨n2, l2, m2⟩⟩ := by
 have hget : ∀ x o, AHeap.get ⟨n2, l2, m2⟩ x = some o → AHeap.get ⟨n, l, m⟩ x = some o := fun x o hx => by
   unfold AHeap.get at hx ⊢
   obtain ⟨o', h1, h2⟩ := bind_some hx
   rcases hl x o' h1 with rfl | h3
   · simp [AObj.live] at h2
   · show (look l x).bind _ = _
     rw [h3]; exact h2
 refine .inr ⟨hK, fun ι w rt R T => ⟨ι, ⟨fun x o hx => Nat.lt_of_lt_of_le (R.lt x o (hget x o hx)) hn, fun x o r hx hr => R.real x o r (hget x o hx) hr, fun x c hx => ?_, fun x k z hx => R.tail x k z (hget x _ hx), fun x L hx => ?_, fun x o x' o' r hx hr hx' hne => R.sep x o x' o' r (hget x o hx) hr (hget x' o' hx') hne, R.im, R.gb⟩, T.more hn .refl, .refl, fun r ⟨x, o, hx, hr⟩ => ⟨x, o, hget x o hx, hr⟩, fun _ _ _ => rfl⟩⟩
 · obtain ⟨h1, h2, h3⟩ := R.rw x c (hget x _ hx)
   exact ⟨h1, h2, h3.more hn .refl rfl fun _ _ h => h⟩
 · obtain ⟨o, h1, h2⟩ := R.loop x L (hget x _ hx)
   exact ⟨o, h1, h2.more hn .refl⟩
theorem lt_at {γ : Type} {M : List γ} {i : Nat} {o : γ} (h : M[i]? = some o) : i < M.length := (List.getElem?_eq_some_iff.1 h).1
end
end
section
set_option linter.unusedSimpArgs false
set_option linter.unusedVariables false
open Go Go.RowKit
section
variable {α β : Type} {v : β} {f : α → Value} {z : Nat}
def rsl (w z b : Nat) : Value := .slice (some ⟨4 * b + 1, 0, none⟩) w (z + 1)
def famS (f : α → Value) : Nat → List (List α) → List (Nat × AObj)
 | _, [] => []
 | i, r :: R => (4 * i + 1, .rw (flat (r.map f))) :: famS f (i + 1) R
theorem famS_at : ∀ {R : List (List α)} {k i : Nat} {r : List α}, R[i]? = some r → look (famS f k R) (4 * (k + i) + 1) = some (.rw (flat (r.map f)))
  | [], _, _, _, h => by simp at h
  | a :: R, k, 0, r, h => by
    simp at h; subst h; simp [famS, look]
  | a :: R, k, i + 1, r, h => by
    simp only [famS, look]
    rw [if_neg (by omega), show k + (i + 1) = k + 1 + i by omega]
    exact famS_at (by simpa using h)
theorem famS_at0 {R : List (List α)} {i : Nat} {r : List α} (h : R[i]? = some r) : look (famS f 0 R) (4 * i + 1) = some (.rw (flat (r.map f))) := by
 have := famS_at (f := f) (k := 0) h
 rwa [Nat.zero_add] at this
theorem famS_put : ∀ {R : List (List α)} {k i : Nat} {r r' : List α}, R[i]? = some r → hput (famS f k R) (4 * (k + i) + 1) (.rw (flat (r'.map f))) = famS f k (R.set i r')
  | [], _, _, _, _, h => by simp at h
  | a :: R, k, 0, r, r', h => by simp [famS, hput]
  | a :: R, k, i + 1, r, r', h => by
    simp only [famS, hput, List.set_cons_succ]
    rw [if_neg (by omega), show k + (i + 1) = k + 1 + i by omega, famS_put (by simpa using h)]
theorem mlook {k i : Nat} {o : AObj} {r : List (Nat × AObj)} (h : (Nat.beq k 0 || Nat.ble 5000 k) = true) (hi : i < 1000) : look ((k, o) :: r) (4 * i + 1) = look r (4 * i + 1) := look_ne (by
 rw [Bool.or_eq_true, Nat.beq_eq, Nat.ble_eq] at h; omega)
theorem mput {k i : Nat} {o o' : AObj} {r : List (Nat × AObj)} (h : (Nat.beq k 0 || Nat.ble 5000 k) = true) (hi : i < 1000) : hput ((k, o) :: r) (4 * i + 1) o' = (k, o) :: hput r (4 * i + 1) o' := hput_ne (by
 rw [Bool.or_eq_true, Nat.beq_eq, Nat.ble_eq] at h; omega)
theorem ldF [Sz f z] {h : AHeap} {R : List (List α)} {x i : Nat} {F : α → Option β} {K : List Value → Prop} (H : obnd (R[x]?) (fun r => obnd (r[i]?) F) = some v)
  (hl : ∀ r, R[x]? = some r → look h.objs (4 * x + 1) = some (.rw (flat (r.map f)))) (hk : ∀ r q, R[x]? = some r → r[i]? = some q → F q = some v → K (f q).cells.toList) :
  obind (h.row (4 * x + 1)) fun c => pbr (Nat.ble (0 + i * z + z) c.length) (fS ((c.drop (0 + i * z)).take z) K) False := by
 obtain ⟨r, h1, H⟩ := obnd_some H
 refine obind_intro (a := flat (r.map f)) ?_ (ld_st H fun q h2 h3 => hk r q h1 h2 h3)
 unfold AHeap.row AHeap.get; rw [hl _ h1]; rfl
theorem getF {h : AHeap} {R : List (List α)} {x : Nat} {r : List α} (hr : R[x]? = some r) (hl : ∀ r, R[x]? = some r → look h.objs (4 * x + 1) = some (.rw (flat (r.map f)))) : h.get (4 * x + 1) = some (.rw (flat (r.map f))) := by
 unfold AHeap.get; rw [hl _ hr]; rfl
theorem levF [Sz f z] {h : AHeap} {R : List (List α)} {x i : Nat} {r : List α} {q : α} (hr : R[x]? = some r) (hq : r[i]? = some q) (hl : ∀ r, R[x]? = some r → look h.objs (4 * x + 1) = some (.rw (flat (r.map f)))) : levh h z true (4 * x + 1) (0 + i * z) = some (.agg ⟨(f q).cells.toList⟩) := by
 unfold levh AHeap.row
 rw [getF hr hl, Nat.zero_add]
 have hn := (List.getElem?_eq_some_iff.1 hq).1
 have hm := Nat.mul_le_mul_right z (show i + 1 ≤ r.length from hn)
 rw [Nat.succ_mul] at hm
 simp only [AObj.row, Option.bind_some, if_true]
 rw [if_pos (by rw [flatS_len]; omega), flatS_take hq]
theorem setCells_at {c l : List Value} {o : Nat} (h : o + l.length ≤ c.length) : setCells c o l = c.take o ++ l ++ c.drop (o + l.length) := by
 have h1 := setCells_app (l := l) (p := c.take o) (q := c.drop o) (by rw [List.length_drop]; omega)
 rw [List.take_append_drop, List.length_take, Nat.min_eq_left (by omega), List.drop_drop] at h1
 exact h1
theorem flatS_cons {x : α} {l : List α} : flat ((x :: l).map f) = (f x).cells.toList ++ flat (l.map f) := rfl
theorem flatS_app : ∀ {a b : List α}, flat ((a ++ b).map f) = flat (a.map f) ++ flat (b.map f)
 | [], b => rfl
 | x :: a, b => by rw [List.cons_append, flatS_cons, flatS_cons, flatS_app, List.append_assoc]
theorem flatS_set1 [h : Sz f z] {y : α} {l : List α} {n : Nat} (hn : n < l.length) : setCells (flat (l.map f)) (n * z) (f y).cells.toList = flat ((l.set n y).map f) := by
 have hm := Nat.mul_le_mul_right z (show n + 1 ≤ l.length from hn)
 rw [Nat.succ_mul] at hm
 rw [setCells_at (by rw [flatS_len, h.sz]; omega), h.sz, show n * z + z = (n + 1) * z by rw [Nat.succ_mul], flatS_drop, List.set_eq_take_append_cons_drop, if_pos hn, flatS_app, flatS_cons, ← List.append_assoc]
 congr 2
 have e : flat (l.map f) = flat ((l.take n).map f) ++ flat ((l.drop n).map f) := by rw [← flatS_app, List.take_append_drop]
 rw [e, List.take_append, flatS_len, List.length_take, Nat.min_eq_left (by omega), Nat.sub_self, List.take_zero, List.append_nil, List.take_of_length_le (by rw [flatS_len, List.length_take, Nat.min_eq_left (by omega)]; exact Nat.le_refl _)]
theorem setF [h : Sz f z] {l : List α} {n : Nat} {y : α} {K : List Value → Prop} (hn : Nat.blt n l.length = true) (hk : K (flat ((l.set n y).map f))) :
  pbr (Nat.ble (0 + n * z + z) (flat (l.map f)).length) (pbr (oneL (f y).cells.toList) (fS (setCells (flat (l.map f)) (0 + n * z) (f y).cells.toList) K) False) False := by
 have hn := Nat.blt_eq.mp hn
 have hm := Nat.mul_le_mul_right z (show n + 1 ≤ l.length from hn)
 rw [Nat.succ_mul] at hm
 rw [flatS_len, show Nat.ble (0 + n * z + z) (l.length * z) = true from Nat.ble_eq.mpr (by omega), oneL_of fun u hu => h.one y u hu]
 show fS _ K
 rw [fS_eq, Nat.zero_add, flatS_set1 hn]; exact hk
def prmB (P : List Nat) : Bool := P.all fun b => Nat.blt b 1000
theorem prmB_at {P : List Nat} {i b : Nat} (h : prmB P = true) (hb : P[i]? = some b) : b < 1000 := by
 unfold prmB at h
 rw [List.all_eq_true] at h
 exact Nat.blt_eq.mp (h b (List.mem_of_getElem? hb))
theorem Bnd.rsl {w b : Nat} (h : b < 1000) {n : Nat} (hn : 5000 ≤ n) : Bnd n (AM.rsl w z b) := Bnd.slice (by omega)
theorem OBnd.prm {n k w : Nat} {P : List Nat} (hk : k < n) (hn : 5000 ≤ n) (hP : prmB P = true) : OBnd n k (.rw (P.map (AM.rsl w z))) := by
 refine ⟨hk, oneL_map fun _ => rfl, fun v hv => ?_⟩
 obtain ⟨b, hb, rfl⟩ := List.mem_map.1 hv
 obtain ⟨i, hi, rfl⟩ := List.getElem_of_mem hb
 exact Bnd.rsl (prmB_at hP (List.getElem?_eq_getElem hi)) hn
theorem FzHL.famS [h : Sz f z] {h0 : AHeap} {n : Nat} (hn : 5000 ≤ n) : ∀ {R : List (List α)} {k : Nat}, (∀ i r, R[i]? = some r → look h0.objs (4 * (k + i) + 1) = some (.rw (flat (r.map f)))) → k + R.length ≤ 1000 → FzHL h0 (fun _ => false) n (AM.famS f k R)
  | [], _, _, _ => .nil
  | r :: R, k, hl, hk => by
    simp only [List.length_cons] at hk
    refine .cons (.same rfl (hl 0 r rfl) (OBnd.rwc (by omega) oneL_flat)) (FzHL.famS hn (fun i r' h2 => ?_) (by omega))
    rw [show k + 1 + i = k + (i + 1) by omega]; exact hl (i + 1) r' (by simpa using h2)
theorem famS_put0 {R : List (List α)} {i : Nat} {r r' : List α} (h : R[i]? = some r) : hput (famS f 0 R) (4 * i + 1) (.rw (flat (r'.map f))) = famS f 0 (R.set i r') := by
 have := famS_put (f := f) (k := 0) (r' := r') h
 rwa [Nat.zero_add] at this
theorem FzHL.famS0 [h : Sz f z] {h0 : AHeap} {D : Nat → Bool} {n : Nat} (hn : 5000 ≤ n) {R : List (List α)} (hD : ∀ i, i < 1000 → D (4 * i + 1) = false) (hl : ∀ i r, R[i]? = some r → look h0.objs (4 * i + 1) = some (.rw (flat (r.map f)))) (hk : Nat.ble R.length 1000 = true) : FzHL h0 D n (AM.famS f 0 R) := by
  have key : ∀ (R : List (List α)) (k : Nat), (∀ i r, R[i]? = some r → look h0.objs (4 * (k + i) + 1) = some (.rw (flat (r.map f)))) → k + R.length ≤ 1000 → FzHL h0 D n (AM.famS f k R) := by
    intro R
    induction R with
    | nil => intro k _ _; exact .nil
    | cons r R ih =>
      intro k hl hk
      simp only [List.length_cons] at hk
      refine .cons (.same (hD k (by omega)) (hl 0 r rfl) (OBnd.rwc (by omega) oneL_flat)) (ih (k + 1) (fun i r' h2 => ?_) (by omega))
      rw [show k + 1 + i = k + (i + 1) by omega]; exact hl (i + 1) r' (by simpa using h2)
  exact key R 0 (fun i r h2 => by rw [Nat.zero_add]; exact hl i r h2) (by have := Nat.le_of_ble_eq_true hk; omega)
theorem lt1000 {γ : Type} {R : List γ} {i : Nat} {r : γ} (h : R[i]? = some r) (hk : Nat.ble R.length 1000 = true) : i < 1000 := by
 have := lt_at h; have := Nat.le_of_ble_eq_true hk; omega
end
end
end Go.Proofs.YtgfglinlmnbjbaaGreat.AM
