/- The matrix that Solve works on is made. Conditions: none. -/
import Derived.Test.YtgfglinlmnbjbaaGreatAmMtx
import Derived.Test.YtgfglinlmnbjbaaGreatAmHas
import Derived.Test.YtgfglinlmnbjbaaGreatAmP0
namespace Go.Proofs.YtgfglinlmnbjbaaGreat.AM
set_option linter.unusedSimpArgs false
set_option linter.unusedVariables false
open Go Go.RowKit
attribute [local irreducible] ICallV ICalls Recast rng
abbrev R4 : Type := Int × List Int × Int × List Int
abbrev e_IL1IIL1I (x : Int × (List Int) × Int × (List Int)) : Value := .agg ⟨[(.int .i64 x.1), (VS 1 (x.2.1.map eI)), (.int .i64 x.2.2.1), (VS 1 (x.2.2.2.map eI))]⟩
instance {x : Int × (List Int) × Int × (List Int)} : Cl (e_IL1IIL1I x) := inferInstanceAs (Cl (.agg ⟨[(.int .i64 x.1), (VS 1 (x.2.1.map eI)), (.int .i64 x.2.2.1), (VS 1 (x.2.2.2.map eI))]⟩))
abbrev e_L4IL1IIL1Ie (x : (List (Int × (List Int) × Int × (List Int)))) : Value := VS 4 (x.map e_IL1IIL1I)
instance {x : (List (Int × (List Int) × Int × (List Int)))} : Cl (e_L4IL1IIL1Ie x) := inferInstanceAs (Cl (VS 4 (x.map e_IL1IIL1I)))
instance : Sz e_IL1IIL1I 4 where
 sz _ := rfl
 one x u hu := by
  replace hu : u ∈ [(.int .i64 x.1), (VS 1 (x.2.1.map eI)), (.int .i64 x.2.2.1), (VS 1 (x.2.2.2.map eI))] := hu
  simp only [List.mem_cons, List.not_mem_nil, or_false] at hu
  rcases hu with rfl | rfl | rfl | rfl <;> rfl
 agg _ := rfl
 cl x u hu := by
  replace hu : u ∈ [(.int .i64 x.1), (VS 1 (x.2.1.map eI)), (.int .i64 x.2.2.1), (VS 1 (x.2.2.2.map eI))] := hu
  exact ClL.out (l := [(.int .i64 x.1), (VS 1 (x.2.1.map eI)), (.int .i64 x.2.2.1), (VS 1 (x.2.2.2.map eI))]) u hu
def mtxW (a0 : List (List R4)) : Option Nat := if 1 ≤ a0.length ∧ a0.length ≤ 1000 ∧ 1 ≤ (a0.headD []).length ∧ (a0.headD []).length ≤ 1000 ∧ (∀ r, r ∈ a0 → r.length = (a0.headD []).length) then some (a0.headD []).length else none
def irL : ICode :=
(.seq (.seq (.ops [⟨(some 16), none, .mov (.t 6)⟩,
⟨(some 17), none, .mov (.t 4)⟩,
⟨(some 18), none, .ibin .lss .i64 (.t 16) (.t 17)⟩] (some [0, 4, 5, 6, 18]))
(.cond (.t 18)
.skip
(.exit 0)))
(.seq (.block 1 (.ops [⟨(some 21), none, .mov (.t 5)⟩,
⟨(some 22), none, .bslice 0 4 [(.int .i64 0), (.slice none 0 0), (.int .i64 0), (.slice none 0 0)] []⟩,
⟨(some 23), none, .mov (.t 0)⟩,
⟨(some 24), none, .mov (.t 6)⟩,
⟨(some 25), none, .iaddr 1 (.t 23) (.t 24)⟩,
⟨(some 26), none, .load 1 false (.t 25)⟩,
⟨(some 27), none, .append 4 64 (.t 22) (.t 26)⟩,
⟨(some 28), none, .bslice 1 1 [(.slice none 0 0)] [(0, 1, (.t 27))]⟩,
⟨(some 29), none, .append 1 24 (.t 21) (.t 28)⟩,
⟨(some 5), none, .mov (.t 29)⟩] (some [0, 4, 5, 6])))
(.ops [⟨(some 19), none, .mov (.t 6)⟩,
⟨(some 20), none, .ibin .add .i64 (.t 19) (.c (.int .i64 1))⟩,
⟨(some 6), none, .mov (.t 20)⟩] (some [0, 4, 5, 6]))))
def mzT (a0 : List (List R4)) (w k N : Nat) : St := ⟨[(0, VS 1 (a0.map e_L4IL1IIL1Ie)), (4, .int .i64 (((a0.map e_L4IL1IIL1Ie).length : Nat) : Int)), (5, .slice (some ⟨0, 0, none⟩) k 2), (6, .int .i64 (k : Int))], ⟨N, (0, .rw ((List.range k).map (rsl w 4))) :: famS e_IL1IIL1I 0 (a0.take k), true⟩⟩
def mzS (a0 : List (List R4)) (w : Nat) : Nat → St
 | 0 => ⟨[(0, VS 1 (a0.map e_L4IL1IIL1Ie)), (4, .int .i64 (((a0.map e_L4IL1IIL1Ie).length : Nat) : Int)), (5, .slice none 0 0), (6, .int .i64 0)], ⟨0, [], true⟩⟩
 | k + 1 => mzT a0 w (k + 1) (4 * (k + 1))
variable {Q : IExit → St → Prop} {rest : ICode} {a0 : List (List R4)} {w : Nat}
theorem w_succ' {i : Nat} (h : i < 1000000) : IntKind.i64.wrap ((i : Int) + 1) = ((i + 1 : Nat) : Int) := by rw [wrap_in (by omega) (by omega)]; omega
theorem get_hd {n b : Nat} {o : AObj} {l : List (Nat × AObj)} {m : Bool} : AHeap.get ⟨n, (b, o) :: l, m⟩ b = o.live := by simp [AHeap.get, look]
theorem put_hd {n b : Nat} {o o' : AObj} {l : List (Nat × AObj)} {m : Bool} : AHeap.put ⟨n, (b, o) :: l, m⟩ b o' = ⟨n, (b, o') :: l, m⟩ := by simp [AHeap.put, hput]
theorem put_tl {n b x : Nat} {o o' : AObj} {l l' : List (Nat × AObj)} {m : Bool} (h : x ≠ b) (e : AHeap.put ⟨n, l, m⟩ x o' = ⟨n, l', m⟩) : AHeap.put ⟨n, (b, o) :: l, m⟩ x o' = ⟨n, (b, o) :: l', m⟩ := by
 simp only [AHeap.put, hput] at e ⊢
 rw [if_neg h]
 injection e with _ e _
 rw [e]
theorem els_hd {n b c : Nat} {x : Value} {l : List (Nat × AObj)} {m : Bool} (h : x.oneCell' = true) : AHeap.els ⟨n, (b, .rw [x]) :: l, m⟩ 1 ⟨.blk b 0, 1, c⟩ = some [x] := by
 simp only [AHeap.els, AHeap.row, get_hd, AObj.live, AObj.row, Option.bind_some]
 rw [if_pos (by simp)]
 simp [chunk, h]
theorem MvHL.famS {b b2 n : Nat} {l : List (Nat × AObj)} : ∀ {R : List (List R4)} {k : Nat}, (∀ i r, R[i]? = some r → look l (4 * (k + i) + 1) = some (.rw (flat (r.map e_IL1IIL1I)))) → (∀ i, i < R.length → 4 * (k + i) + 1 ≠ b ∧ 4 * (k + i) + 1 ≠ b2 ∧ 4 * (k + i) + 1 < n) → MvHL b b2 n l (AM.famS e_IL1IIL1I k R)
  | [], _, _, _ => .nil
  | r :: R, k, hl, hn => by
    simp only [List.length_cons] at hn
    have h0 := hn 0 (by omega)
    refine .cons (.rw (c := flat (r.map e_IL1IIL1I)) h0.1 h0.2.1 h0.2.2 (hl 0 r rfl) oneL_flat .cl) (MvHL.famS (fun i r' h2 => ?_) fun i hi => ?_)
    · rw [show k + 1 + i = k + (i + 1) by omega]; exact hl (i + 1) r' (by simpa using h2)
    · rw [show k + 1 + i = k + (i + 1) by omega]; exact hn (i + 1) (by omega)
theorem MvR.prm {b n k : Nat} {m w : Nat} (h : 4 * m ≤ n) : MvR b 0 n ((List.range m).map (rsl w 4)) ((List.range m).map (rsl w 4)) := by
 refine ⟨Nat.le_refl _, fun i u hu => ⟨u, hu, ?_⟩⟩
 obtain ⟨c, hc, rfl⟩ := List.mem_map.1 (List.mem_of_getElem? hu)
 rw [List.mem_range] at hc
 exact MvV.slice (by omega) (by omega)
theorem mnext {k M : Nat} {r : List R4} (hN : M + 1 = 4 * (k + 1)) (hk : a0[k + 1]? = some r) (hr : r.length = w) {T : List (Nat × AObj)} {x : Value} {c : Int} (hc : c = ((k + 2 : Nat) : Int)) {P : List Value} (hP : P = (List.range (k + 2)).map (rsl w 4)) {m : Nat} (hm : m = k + 2)
   {o1 : AObj} : Recast 0 ⟨[(0, VS 1 (a0.map e_L4IL1IIL1Ie)), (4, .int .i64 (((a0.map e_L4IL1IIL1Ie).length : Nat) : Int)), (5, mkSl (M + 4) 0 m 2), (6, .int .i64 c)],
     ⟨M + 5, (M + 4, .rw P) :: (M + 3, o1) :: (M + 2, .rw (flat (r.map e_IL1IIL1I))) :: (M + 1, .dead) :: (0, .dead) :: famS e_IL1IIL1I 0 (a0.take (k + 1)), true⟩⟩ (mzT a0 w (k + 2) (M + 5)) := by
 subst hc; subst hP; subst hm
 have hkl := (List.getElem?_eq_some_iff.1 hk).1
 unfold mzT
 refine Recast.mv (M + 4) 0 (Nat.le_refl _) (Nat.zero_le _) (.cons (.mv rfl (by omega) (by simp [look]) (oneL_map fun _ => rfl) (MvR.prm (k := 0) (by omega))) (MvHL.famS (fun i r' hi => ?_) fun i hi => ?_))
   (.cons rfl .cl (.cons rfl .cl (.cons rfl (.slicem (by omega)) (.cons rfl .cl .nil))))
 · rw [Nat.zero_add]
   have hi2 := (List.getElem?_eq_some_iff.1 hi).1
   rw [List.length_take] at hi2
   rw [List.getElem?_take] at hi
   rw [if_pos (by omega)] at hi
   by_cases e : i = k + 1
   · subst e
     rw [hk] at hi; injection hi with hi; subst hi
     rw [look_ne (by omega), look_ne (by omega), show 4 * (k + 1) + 1 = M + 2 by omega]
     simp [look]
   · rw [look_ne (by omega), look_ne (by omega), look_ne (by omega), look_ne (by omega), look_ne (by omega)]
     exact famS_at0 (by rw [List.getElem?_take, if_pos (by omega)]; exact hi)
 · rw [List.length_take] at hi
   omega
theorem mroundS {Q : IExit → St → Prop} {k M : Nat} {r : List R4} (hN : M + 1 = 4 * (k + 1)) (hk : a0[k + 1]? = some r) (hr : r.length = w) (hw1 : 1 ≤ w) (hw2 : w ≤ 1000) (hl : a0.length ≤ 1000)
   (hQ : ∀ s', Recast 0 s' (mzT a0 w (k + 2) (M + 5)) → Q .normal s') : PW E irL Q (mzT a0 w (k + 1) (M + 1)) := by
 unfold irL mzT
 have t1 : ilt ((k + 1 : Nat) : Int) (((a0.map e_L4IL1IIL1Ie).length : Nat) : Int) = true := ilt_t (by have := (List.getElem?_eq_some_iff.1 hk).1; rw [List.length_map]; omega)
 obtain ⟨q, t, rfl⟩ : ∃ q t, r = q :: t := by cases r with | nil => simp at hr; omega | cons q t => exact ⟨q, t, rfl⟩
 refine pw_seq ?_; refine pw_so ?_; refine po_all ?_; (conv => whnf)
 refine pw_cond ?_; (conv => whnf); refine pbr_t t1 ?_; (conv => whnf)
 refine pw_skip ?_; (conv => whnf); refine pw_seq ?_; refine pw_block ?_; refine pw_ops ?_; refine po_all ?_; (conv => whnf)
 refine nth_p (l := a0) (f := e_L4IL1IIL1Ie) hk ?_
 (conv => whnf)
 rw [get_hd]
 (conv => whnf)
 refine ⟨by simp at hr ⊢; omega, by simp at hr ⊢; omega, .inl ⟨rfl, rfl, rfl, ?_⟩⟩
 rw [pput_eq, put_hd, fS_eq, pnew_eq]
 dsimp only [AHeap.alloc]
 (conv => whnf)
 rw [els_hd rfl]
 (conv => whnf)
 have hkl := (List.getElem?_eq_some_iff.1 hk).1
 refine ⟨by simp; omega, by simp; omega, .inl ⟨rfl, rfl, by simp, ?_⟩⟩
 rw [pput_eq, put_tl (show (0 : Nat) ≠ (M + 2).succ by omega) (put_tl (show (0 : Nat) ≠ M.succ + 1 by omega) (put_tl (show (0 : Nat) ≠ M.succ by omega) put_hd)), fS_eq, pnew_eq]
 dsimp only [AHeap.alloc]
 (conv => whnf)
 refine pw_ops ?_; refine po_all ?_; (conv => whnf)
 refine hQ _ (mnext (r := q :: t) (x := .nilFunc) (T := []) hN hk hr ?_ ?_ ?_)
 · rw [w_succ' (by omega)]
 · rw [List.range_succ (n := k + 1), List.map_append]
   show List.map (rsl w 4) (List.range (k + 1)) ++ [mkSl (M.succ + 1) 0 (0 + (List.map e_IL1IIL1I (q :: t)).length) (4 + 1)] = _
   congr 2
   show mkSl _ _ _ _ = rsl w 4 (k + 1)
   unfold rsl mkSl
   rw [show M.succ + 1 = 4 * (k + 1) + 1 by omega, Nat.zero_add, List.length_map, hr]
 · simp
theorem mround0 {Q : IExit → St → Prop} {r : List R4} (hk : a0[0]? = some r) (hr : r.length = w) (hw1 : 1 ≤ w) (hw2 : w ≤ 1000)
  (hQ : ∀ s', Recast 0 s' (mzT a0 w 1 4) → Q .normal s') : PW E irL Q (mzS a0 w 0) := by
 unfold irL mzS
 have hkl := (List.getElem?_eq_some_iff.1 hk).1
 have t1 : ilt (0 : Int) (((a0.map e_L4IL1IIL1Ie).length : Nat) : Int) = true := ilt_t (by rw [List.length_map]; omega)
 obtain ⟨q, t, rfl⟩ : ∃ q t, r = q :: t := by cases r with | nil => simp at hr; omega | cons q t => exact ⟨q, t, rfl⟩
 refine pw_seq ?_; refine pw_so ?_; refine po_all ?_; (conv => whnf)
 refine pw_cond ?_; (conv => whnf); refine pbr_t t1 ?_; (conv => whnf)
 refine pw_skip ?_; (conv => whnf); refine pw_seq ?_; refine pw_block ?_; refine pw_ops ?_; refine po_all ?_; (conv => whnf)
 refine nth_p (l := a0) (f := e_L4IL1IIL1Ie) hk ?_
 (conv => whnf)
 refine ⟨by simp at hr ⊢; omega, by simp at hr ⊢; omega, .inl ⟨rfl, rfl, rfl, ?_⟩⟩
 rw [pput_eq, put_hd, fS_eq, pnew_eq]
 dsimp only [AHeap.alloc]
 (conv => whnf)
 refine ⟨(by decide : (1 : Nat) * 24 ≤ 1099511627776), (by decide : (1 : Nat) ≤ 1099511627776), ?_⟩
 (conv => whnf)
 refine pw_ops ?_; refine po_all ?_; (conv => whnf)
 refine hQ _ ?_
 have e0 : mkSl (Nat.zero + 1) 0 (0 + (List.map e_IL1IIL1I (q :: t)).length) (4 + 1) = rsl w 4 0 := by
  unfold rsl mkSl
  rw [List.length_map, hr, show 0 + w = w from Nat.zero_add w]
 have e1 : a0.take 1 = [q :: t] := by cases a0 with | nil => cases hk | cons a b => simp at hk; rw [hk]; rfl
 unfold mzT
 rw [e1]
 refine Recast.mv 3 0 (Nat.le_refl _) (Nat.zero_le _) (.cons (.mv rfl (by omega) rfl rfl (.of (.cons ?_ .nil))) (.cons (.rw (c := flat ((q :: t).map e_IL1IIL1I)) (by omega) (by omega) (by omega) rfl oneL_flat .cl) .nil)) (.cons rfl .cl (.cons rfl .cl (.cons rfl (.slicem (by omega)) (.cons rfl .cl .nil))))
 show MvV 3 0 4 (mkSl (Nat.zero + 1) 0 (0 + (List.map e_IL1IIL1I (q :: t)).length) (4 + 1)) (rsl w 4 0)
 rw [e0]; exact MvV.slice (by omega) (by omega)
theorem mtx_init {Q : IExit → St → Prop} {t : List (Nat × Value)} (hw : mtxW a0 = some w) (h0 : look t 0 = some (VS 1 (a0.map e_L4IL1IIL1Ie))) (h4 : look t 4 = some (.int .i64 (((a0.map e_L4IL1IIL1Ie).length : Nat) : Int))) (h5 : look t 5 = some (.slice none 0 0))
   (h : PW E rest Q ⟨[(4, .int .i64 (((a0.map e_L4IL1IIL1Ie).length : Nat) : Int)), (5, .slice (some ⟨0, 0, none⟩) a0.length 2)], ⟨5000, ([(0, .rw ((List.range a0.length).map (rsl w 4)))] ++ famS e_IL1IIL1I 0 a0), false⟩⟩) :
   PW E (.seq (.seq (.ops [⟨(some 6), none, .mov (.c (.int .i64 0))⟩] none) (.block 0 (.loop irL))) rest) Q ⟨t, ⟨0, [], true⟩⟩ := by
 unfold mtxW at hw
 split at hw
 · next hc =>
   injection hw with hw; subst hw
   obtain ⟨c1, c2, c3, c4, c5⟩ := hc
   have hloop : oloop (fun k : Nat => if k < a0.length then some (.inl (k + 1)) else if k = a0.length then some (.inr () : Nat ⊕ Unit) else none) 0 = some () := by
     refine oloop_all (fun i => i) a0.length rfl (fun i hi => if_pos hi) ?_
     show (if a0.length < a0.length then _ else _) = _
     rw [if_neg (by omega), if_pos rfl]
   refine pw_seqR ?_
   refine (PW.sub (s2 := ⟨[(0, VS 1 (a0.map e_L4IL1IIL1Ie)), (4, .int .i64 (((a0.map e_L4IL1IIL1Ie).length : Nat) : Int)), (5, .slice none 0 0)], ⟨0, [], true⟩⟩) ?_ ⟨.cons h0 (.cons h4 (.cons h5 .nil)), rfl⟩)
   refine pw_so ?_; refine po_all ?_; (conv => whnf)
   refine pw_block ?_
   refine pw_loop (τ := Nat) (mzS a0 (a0.headD []).length) hloop ?_ (fun _ => Nat.zero_le _) ?_
   · exact .sub' (Nat.le_of_ble_eq_true rfl) (.cons rfl (.cons rfl (.cons rfl (.cons rfl .nil))))
   · intro k x hx
     by_cases hk : k < a0.length
     · simp only [if_pos hk] at hx
       injection hx with hx; subst hx
       have hg : a0[k]? = some a0[k] := List.getElem?_eq_getElem hk
       have hl := c5 _ (List.getElem_mem hk)
       cases k with
       | zero => exact mround0 hg hl c3 c4 fun s' hR => ⟨_, rfl, hR⟩
       | succ k => exact mroundS (M := 4 * k + 3) (by omega) hg hl c3 c4 c2 fun s' hR => ⟨_, rfl, hR⟩
     · simp only [if_neg hk] at hx
       split at hx
       · next he =>
         injection hx with hx; subst hx
         subst he
         obtain ⟨j, hj⟩ : ∃ j, a0.length = j + 1 := ⟨a0.length - 1, by omega⟩
         have hS : mzS a0 (a0.headD []).length a0.length = mzT a0 (a0.headD []).length a0.length (4 * a0.length) := by
          rw [hj]; rfl
         rw [hS]
         unfold irL mzT
         have t1 : ilt (a0.length : Int) (((a0.map e_L4IL1IIL1Ie).length : Nat) : Int) = false := ilt_f (by rw [List.length_map]; omega)
         refine pw_seq ?_; refine pw_so ?_; refine po_all ?_; (conv => whnf)
         refine pw_cond ?_; (conv => whnf); refine pbr_f t1 ?_; (conv => whnf)
         refine pw_exit ?_; (conv => whnf)
         refine ⟨_, rfl, fun _ => ⟨_, ?_, h⟩⟩
         refine Recast.trans (s' := ⟨[(4, .int .i64 (((a0.map e_L4IL1IIL1Ie).length : Nat) : Int)), (5, .slice (some ⟨0, 0, none⟩) a0.length 2)], ⟨4 * a0.length, (0, .rw ((List.range a0.length).map (rsl (a0.headD []).length 4))) :: famS e_IL1IIL1I 0 (a0.take a0.length), true⟩⟩) (Recast.sub' (Nat.zero_le _) (.cons rfl (.cons rfl .nil))) ?_
         rw [List.take_length]
         exact Recast.getle (Nat.zero_le _) (by omega) (fun x o hx => .inr hx)
       · cases hx
 · cases hw
end Go.Proofs.YtgfglinlmnbjbaaGreat.AM
