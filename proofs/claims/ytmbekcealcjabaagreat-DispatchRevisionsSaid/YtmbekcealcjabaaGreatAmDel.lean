/- slices.Clone and slices.Delete of numbers. Conditions: none. -/
import Derived.Test.YtmbekcealcjabaaGreatAmLift4
import Derived.Test.YtmbekcealcjabaaGreatAmHas
import Derived.Test.YtmbekcealcjabaaGreatAmRep
namespace Go.Proofs.YtmbekcealcjabaaGreat.AM
set_option linter.unusedSimpArgs false
set_option linter.unusedVariables false
open Go Go.RowKit

theorem hput_hput : ∀ (t : List (Nat × AObj)) (b : Nat) (x y : AObj), hput (hput t b x) b y = hput t b y
  | [], b, x, y => by simp [hput]
  | (k, u) :: r, b, x, y => by
    by_cases h : b = k
    · simp [hput, h]
    · simp [hput, h, hput_hput r b x y]
theorem put_put {h : AHeap} {b : Nat} {x y : AObj} : (h.put b x).put b y = h.put b y := by
  unfold AHeap.put; simp [hput_hput]
theorem none_E {b : Nat} {o : AObj} (h : AHeap.none.get b = some o) : False := none_get h
/-- A block of numbers that a call has written becomes a value. -/
theorem ICallV.eat {fv : Value} {us : List Value} {h : AHeap} {b m k : Nat} {l : List Int} (hm : m ≤ l.length)
    (H : ICallV E fv us h fun v h' => v = mkSl b 0 m k ∧ h' = h.put b (.rw (l.map eI))) : ICallV E fv us h fun v h' => v = VS 1 ((l.take m).map eI) ∧ h' = h.put b .dead := by
  intro ι w fv' vs R hf hl
  obtain ⟨nx, w1, h1, h2, h3, h4⟩ := H ι w fv' vs R hf hl
  refine ⟨nx, w1, h1, h2, h3, ?_⟩
  have key : ∀ e w', Lift (fun v h' => v = mkSl b 0 m k ∧ h' = h.put b (.rw (l.map eI))) ι h w1 e w' → Lift (fun v h' => v = VS 1 ((l.take m).map eI) ∧ h' = h.put b .dead) ι h w1 e w' := by
    rintro e w' ⟨ι', x, v, h', rfl, ⟨rfl, rfl⟩, hvr, R', X'⟩
    have hg : (h.put b (.rw (l.map eI))).get b = some (.rw (l.map eI)) := by rw [AHeap.get_put, if_pos rfl]; rfl
    obtain ⟨Rk, Xk⟩ := R'.kill b
    rw [put_put] at Rk Xk
    have hnm : ¬ MutAt ι' (h.put b .dead) (ι' b).r := by
      rintro ⟨b2, o2, hb2, ho2⟩
      rw [AHeap.get_put] at hb2
      split at hb2
      · simp [AObj.live] at hb2
      · rename_i hne
        exact R'.sep b _ b2 o2 _ hg rfl (by rw [AHeap.get_put, if_neg hne]; exact hb2) hne ho2
    have R2 := Rk.imx (r := (ι' b).r) (g := fun i => w'.cell? ⟨(ι' b).r, i, none⟩) hnm (fun i v hv => hv)
    have hr : w1.heap.size ≤ (ι' b).r ∨ MutAt ι h (ι' b).r := by
      by_cases hlt : (ι' b).r < w1.heap.size
      · by_cases hmu : MutAt ι h (ι' b).r
        · exact .inr hmu
        · exact absurd ⟨b, _, hg, rfl⟩ (X'.frame _ hlt hmu).2
      · exact .inl (by omega)
    have X2 := (X'.trans Xk).imx (r := (ι' b).r) (g := fun i => w'.cell? ⟨(ι' b).r, i, none⟩) hr
    refine ⟨_, _, v, _, rfl, ⟨rfl, rfl⟩, ?_, R2, X2⟩
    unfold mkSl at hvr
    cases hvr with
    | slice _ _ _ _ a' c' hb ha hn hc0 =>
      have hlen : ((l.take m).map eI).length = m := by simp [hm]
      by_cases h0 : m = 0
      · subst h0; simp only [List.take_zero, List.map_nil]; exact .vs0 1 _ _
      · rw [ha.resolve_left (by omega)]
        obtain ⟨hle, him, hCR⟩ := R'.rw b _ hg
        refine (VR.vs_mk (z := 1) (es := (l.take m).map eI) (r := (ι' b).r) (f := (ι' b).f + 0) (c' := c') (by omega) (by omega) (fun i e he => ?_) (fun i j e u he hu => ?_) : VR _ _ (VS 1 ((l.take m).map eI)) (.slice (some ⟨(ι' b).r, (ι' b).f + 0, none⟩) ((l.take m).map eI).length c')) |> fun H => by rw [hlen] at H; exact H
        · rw [List.getElem?_map] at he
          obtain ⟨x, _, rfl⟩ := Option.map_eq_some_iff.1 he
          rfl
        · rw [List.getElem?_map] at he
          obtain ⟨x, hx, rfl⟩ := Option.map_eq_some_iff.1 he
          have hu' : j = 0 ∧ u = eI x := by
            have : (eI x).cells = #[eI x] := rfl
            rw [this] at hu
            match j, hu with
            | 0, hu => exact ⟨rfl, by simpa using hu.symm⟩
            | j + 1, hu => simp at hu
          obtain ⟨rfl, rfl⟩ := hu'
          have hi : i < m := by
            have := (List.getElem?_eq_some_iff.1 hx).1
            simp at this; omega
          have hx' : (l.map eI)[i]? = some (eI x) := by
            rw [List.getElem?_map]
            rw [List.getElem?_take, if_pos hi] at hx
            rw [hx]; rfl
          obtain ⟨h5, v, h6, h7⟩ := hCR i _ hx'
          have hil : i < (l.map eI).length := (List.getElem?_eq_some_iff.1 hx').1
          refine ⟨h5, v, ?_, h7.more (by simp) .imx⟩
          rw [show (ι' b).f + 0 + i * 1 + 0 = (ι' b).f + i by omega, imx_new (him i (by omega)).2.2]
          exact h6
  cases nx with
  | enter f args => exact h4.mono key
  | round l0 f tmps ts bd => exact ⟨h4.1, h4.2.mono key⟩
  | _ => exact h4
theorem ICalls.eat {key : Nat} {us : List Value} {h : AHeap} {b m k : Nat} {l : List Int} (hm : m ≤ l.length)
    (H : ICalls E key us h fun v h' => v = mkSl b 0 m k ∧ h' = h.put b (.rw (l.map eI))) : ICalls E key us h fun v h' => v = VS 1 ((l.take m).map eI) ∧ h' = h.put b .dead := ICallV.eat hm H
theorem ICalls.modeH {key : Nat} {us : List Value} {Q : Value → AHeap → Prop} {m m' : Bool} (H : ICalls E key us ⟨0, [], m⟩ Q) : ICalls E key us ⟨0, [], m'⟩ Q := ICallV.modeH H
/-- An empty slice: nil or not. -/
theorem ICalls.empty {key : Nat} {h : AHeap} {Q : Value → AHeap → Prop} (H1 : ICalls E key [.slice none 0 0] h Q) (H2 : ICalls E key [VE 1] h Q) : ICalls E key [VS 1 []] h Q := by
  intro ι w fv' vs R hf hl
  obtain ⟨hlen, hat⟩ := hl
  obtain ⟨v, rfl⟩ : ∃ v, vs = [v] := by
    match vs, hlen with
    | [v], _ => exact ⟨v, rfl⟩
  have hv := hat 0 (VS 1 []) v rfl rfl
  have one : ∀ u, VR ι h.next u v → VRL ι h.next [u] [v] := fun u hu => ⟨rfl, fun i a b ha hb => by
    cases i with
    | zero => simp at ha hb; subst ha; subst hb; exact hu
    | succ i => simp at ha⟩
  rcases hv.vs_of with ⟨_, rfl | ⟨a', c', rfl⟩⟩ | ⟨r, f, c', _, _, rfl, _⟩
  · exact H1 ι w fv' _ R hf (one _ .nilslice)
  · exact H2 ι w fv' _ R hf (one _ (.ve 1 a' c'))
  · exact H2 ι w fv' _ R hf (one _ (.ve 1 _ _))
attribute [local irreducible] ICallV ICalls Recast rng

theorem sl3_o {t : List (Nat × Value)} {h : AHeap} {K : Option Value × AHeap → Prop} {b N k x lo hi mx : Nat} (hx : look t x = some (mkSl b 0 N 2)) (hlo : look t lo = some (.int .i64 (k : Int))) (hhi : look t hi = some (.int .i64 ((k : Int) + 1))) (hmx : look t mx = some (.int .i64 (N : Int))) (hk : k < N)
    (H : ∀ c, K (some (mkSl b (0 + k * 1) (k + 1 - k) c), h)) : obind (xev E ⟨t, h⟩ (.sliceV 1 (.t x) (some (.t lo)) (some (.t hi)) (some (.t mx)))) K := by
  refine obind_iff.2 ⟨_, ?_, H (resl true 1 2 (N == k + 1))⟩
  have e1 : (0 : Int) ≤ (k : Int) + 1 := by omega
  have e2 : ((k : Int) + 1).toNat = k + 1 := by omega
  have e3 : k + 1 ≤ N := hk
  simp [xev, pev, bnd, hx, hlo, hhi, hmx, St.ev, vsl, mkSl, e1, e2, e3]
theorem slo2_o {t : List (Nat × Value)} {h : AHeap} {K : Option Value × AHeap → Prop} {b N k lo : Nat} (hlo : look t lo = some (.int .i64 ((k : Int) + 1))) (hk : k < N) (H : K (some (mkSl b (0 + (k + 1) * 1) (N - (k + 1)) 2), h)) : obind (xev E ⟨t, h⟩ (.sliceV 1 (.c (mkSl b 0 N 2)) (some (.t lo)) none none)) K := by
  refine obind_iff.2 ⟨_, ?_, H⟩
  have e1 : (0 : Int) ≤ (k : Int) + 1 := by omega
  have e2 : ((k : Int) + 1).toNat = k + 1 := by omega
  have e3 : k + 1 ≤ N := hk
  simp [xev, pev, bnd, hlo, St.ev, vsl, mkSl, e1, e2, e3, resl]
theorem shi2_o {t : List (Nat × Value)} {h : AHeap} {K : Option Value × AHeap → Prop} {b N k hi : Nat} (hhi : look t hi = some (.int .i64 (k : Int))) (hk : k ≤ N) (H : K (some (mkSl b 0 k 2), h)) : obind (xev E ⟨t, h⟩ (.sliceV 1 (.c (mkSl b 0 N 2)) none (some (.t hi)) none)) K := by
  refine obind_iff.2 ⟨_, ?_, H⟩
  simp [xev, pev, bnd, hhi, St.ev, vsl, mkSl, hk, resl]
theorem iops_c {op : IOp} {d : Option Nat} {s : St} {v : Option Value} {h' : AHeap} {r : List IOpG} {K : St → Prop} (hop : ∀ k, istep E op s k = obind (xev E s op) fun r => k r.1 r.2) (h : xev E s op = some (v, h')) (H : iops E r K ⟨aputO s.t d v, h'⟩) : iops E (⟨d, none, op⟩ :: r) K s := by
  have : istep E op s fun v h' => iops E r K ⟨aputO s.t d v, h'⟩ := by rw [hop]; exact obind_iff.2 ⟨_, h, H⟩
  exact this
theorem iops_s {e : Nat} {x : Opd} {lo hi mx : Option Opd} {d : Option Nat} {s : St} {v : Value} {r : List IOpG} {K : St → Prop} (h : sev E s e x lo hi mx = some v) (H : iops E r K ⟨aputO s.t d (some v), s.h⟩) : iops E (⟨d, none, .sliceV e x lo hi mx⟩ :: r) K s :=
  .inr (obind_iff.2 ⟨_, h, H⟩)
theorem chunk_one' {n : Nat} {c : List Value} (h : n = c.length) : chunk n 1 c = c := by
  subst h
  induction c with
  | nil => rfl
  | cons v r ih => simp only [List.length_cons, chunk]; rw [ih]
theorem del_walk {l : List Int} {k b : Nat} {h : AHeap} (hk : k < l.length) (hb : l.length * 8 ≤ 1099511627776) (hg : h.get b = some (.rw (l.map eI))) :
    ICalls E 228 [mkSl b 0 l.length 2, .int .i64 (k : Int), .int .i64 ((k : Int) + 1)] h fun v h' => v = mkSl b 0 (l.length - 1) 2 ∧ h' = h.put b (.rw ((l.eraseIdx k ++ [0]).map eI)) := by
  refine icalls_fn (pfnw ?_); (conv=>whnf); refine pw_so ?_; refine po_all ?_; (conv=>whnf); refine pw_so ?_; refine po_all ?_; (conv=>whnf)
  refine sl3_o (b := b) (N := l.length) (k := k) rfl rfl rfl rfl hk fun c => ?_
  (conv=>whnf); refine pw_seq ?_; refine pw_so ?_; refine po_all ?_; (conv=>whnf); refine pw_cond ?_; (conv=>whnf)
  refine pbr_f (ieq_f (show (k : Int) ≠ (k : Int) + 1 by omega)) ?_; (conv=>whnf); refine pw_skip ?_; (conv=>whnf); refine pw_so ?_; refine po_all ?_; (conv=>whnf)
  refine pw_sd ?_; (conv=>whnf); refine shi2_o (k := k) rfl (Nat.le_of_lt hk) ?_; (conv=>whnf)
  refine slo2_o (k := k) rfl hk ?_; (conv=>whnf)
  refine ⟨?_, trivial⟩
  (conv=>whnf)
  refine obind_iff.2 ⟨(l.drop (k + 1)).map eI, ?_, ?_⟩
  · have e1 : 0 + (k + 1) * 1 + (l.length - (k + 1)) * 1 ≤ (l.map eI).length := by simp; omega
    unfold AHeap.els AHeap.row
    simp only [hg]
    show (if 0 + (k + 1) * 1 + (l.length - (k + 1)) * 1 ≤ (l.map eI).length then some (chunk (l.length - (k + 1)) 1 ((l.map eI).drop (0 + (k + 1) * 1))) else none) = _
    rw [if_pos e1, chunk_one' (by simp)]
    simp [List.map_drop]
  (conv=>whnf)
  rw [hg]
  (conv=>whnf)
  refine appin_o (γ := Unit) (v := ()) (x := some ()) (l := l) (m := l.drop (k + 1)) (n := k) (b := b) (bytes := 8) (h0 := h) ?_ hg fun _ => ?_
  · have : fits 8 (k + (l.drop (k + 1)).length) = true := by simp [fits]; omega
    rw [this]
    have : Nat.ble (k + (l.drop (k + 1)).length) l.length = true := by simp; omega
    rw [this]; rfl
  rw [pput_eq]
  (conv=>whnf)
  refine ⟨?_, ?_⟩
  · exact trivial
  (conv=>whnf)
  refine ⟨?_, trivial⟩
  (conv=>whnf)
  refine ⟨?_, ?_⟩
  · exact trivial
  (conv=>whnf)
  have hn1 : k + (l.drop (k + 1)).length = l.length - 1 := by simp; omega
  rw [hn1]
  generalize hR : l.take k ++ l.drop (k + 1) ++ l.drop (l.length - 1) = R
  have hRl : R.length = l.length := by rw [← hR]; simp; omega
  have hRe : R.take (l.length - 1) = l.eraseIdx k := by
    rw [← hR, List.eraseIdx_eq_take_drop_succ, List.take_left']
    simp; omega
  refine pw_so ⟨?_⟩
  have hg2 : (h.put b (.rw (R.map eI))).get b = some (.rw (R.map eI)) := by rw [AHeap.get_put, if_pos rfl]; rfl
  have hN : 1 ≤ l.length := by omega
  refine iops_c (v := some (mkSl b 0 (l.length - 1) 2)) (h' := h.put b (.rw (R.map eI))) (fun _ => rfl) rfl ?_
  refine iops_c (v := some (mkSl b 0 (l.length - 1) 2)) (h' := h.put b (.rw (R.map eI))) (fun _ => rfl) rfl ?_
  refine iops_c (v := some (.int .i64 ((l.length - 1 : Nat) : Int))) (h' := h.put b (.rw (R.map eI))) (fun _ => rfl) rfl ?_
  refine iops_c (v := some (.int .i64 (l.length : Int))) (h' := h.put b (.rw (R.map eI))) (fun _ => rfl) rfl ?_
  refine iops_s (v := mkSl b (0 + (l.length - 1) * 1) (l.length - (l.length - 1)) 2) ?_ ?_
  · simp only [sev, bnd, St.ev, aputO]
    simp [look, aput, vsl, mkSl, hg2, vint, hRl]
  refine iops_c (v := some (.tuple #[])) (h' := h.put b (.rw ((l.eraseIdx k ++ [0]).map eI))) (fun _ => rfl) ?_ ?_
  · simp only [xev, wev, St.ev, aputO]
    simp [look, aput, vsl, mkSl, hg2, vint, hRl]
    refine ⟨by omega, ?_⟩
    rw [put_put, show l.length - (l.length - 1) = 1 by omega]
    have e1 := setCells_app (l := [eI 0]) (p := (l.eraseIdx k).map eI) (q := (R.drop (l.length - 1)).map eI) (by simp [hRl]; omega)
    have e2 : R.map eI = (l.eraseIdx k).map eI ++ (R.drop (l.length - 1)).map eI := by
      rw [← hRe, ← List.map_append, List.take_append_drop]
    have e3 : ((l.eraseIdx k).map eI).length = l.length - 1 := by rw [List.length_map, List.length_eraseIdx, if_pos hk]
    rw [e3] at e1
    rw [e2, show replL 1 [Value.int IntKind.i64 0] = [eI 0] from rfl, e1, show (List.map eI (List.drop (l.length - 1) R)).drop [eI 0].length = [] from List.drop_eq_nil_of_le (by simp [hRl]; omega), List.append_nil]
  refine ⟨_, ?_, .refl⟩
  (conv=>whnf)
  refine pw_so ?_; refine po_all ?_
  (conv=>whnf)
  refine pw_ret ?_
  (conv=>whnf)
  exact ⟨rfl, rfl⟩
/-- A slice of numbers that is nil exactly where it is empty. -/
def vni (l : List Int) : Value := match l with
  | [] => .slice none 0 0
  | a :: r => VS 1 ((a :: r).map eI)
theorem vni_e {l : List Int} (h : l.isEmpty = true) : vni l = .slice none 0 0 := by cases l with
  | nil => rfl
  | cons a r => cases h
theorem vni_ne {l : List Int} (h : (!l.isEmpty) = true) : vni l = VS 1 (l.map eI) := by cases l with
  | nil => cases h
  | cons a r => rfl
instance {l : List Int} : Cl (vni l) := by
  cases l with
  | nil => exact inferInstanceAs (Cl (.slice none 0 0))
  | cons a r => exact inferInstanceAs (Cl (VS 1 ((a :: r).map eI)))
theorem Fz.vni {h : AHeap} {D : Nat → Bool} {n : Nat} {l : List Int} : Fz h D n (vni l) (VS 1 (l.map eI)) := by
  cases l with
  | nil => exact .nil 1
  | cons a r => exact .cl
theorem vni_o {β : Type} {v : β} {l : List Int} {x y : Option β} {P : Prop} (H : oite l.isEmpty x y = some v) (h1 : l.isEmpty = true → x = some v → P) (h2 : (!l.isEmpty) = true → y = some v → P) : P := by
  cases hb : l.isEmpty with
  | true => rw [hb] at H; exact h1 hb H
  | false => rw [hb] at H; exact h2 (by simp [hb]) H
theorem xnil_o {α : Type} {f : α → Value} {l : List α} {z : Nat} {neq : Bool} {t : List (Nat × Value)} {h : AHeap} {x : Opd} {K : Option Value × AHeap → Prop} (hv : (St.mk t h).ev E x = some (VS z (l.map f))) (hne : (!l.isEmpty) = true) (hk : K (some (.bool neq), h)) : obind (xev E ⟨t, h⟩ (.nileq .sl neq x)) K := by
  refine obind_iff.2 ⟨_, ?_, hk⟩
  cases l with
  | nil => cases hne
  | cons a r =>
    simp only [xev, pev, hv, Option.bind_some]
    cases neq <;> rfl
theorem vsl_vni (l : List Int) : ∃ b c, vsl (vni l) = some ⟨b, (l.map eI).length, c⟩ := by
  cases l with
  | nil => exact ⟨_, _, rfl⟩
  | cons a r => exact ⟨_, _, rfl⟩
theorem wk_vni (l : List Int) : Wk (vni l) (VS 1 (l.map eI)) := by
  cases l with
  | nil => exact .nil 1
  | cons a r => exact .refl _
theorem Recast.eq {K : Nat} {s s' : St} (h : s = s') : Recast K s s' := h ▸ .refl
/-- slices.Delete of one element: what is left. -/
def f228 (l : List Int) (i j : Int) : Option (List Int) := if 0 ≤ i ∧ i < l.length ∧ j = i + 1 ∧ l.length * 8 ≤ 1099511627776 then some (l.eraseIdx i.toNat) else none
theorem c228 {l : List Int} {i j : Int} {y : List Int} (H : f228 l i j = some y) {b n : Nat} {h : AHeap} {Q : Value → AHeap → Prop} (hg : h.get b = some (.rw (l.map eI))) (hn : Nat.beq n l.length = true) (hq : pput h b .dead fun h => Q (VS 1 (y.map eI)) h) :
    PCalls E 228 [.slice (some ⟨b, 0, none⟩) n 2, .int .i64 i, .int .i64 j] h Q := by
  obtain rfl := Nat.eq_of_beq_eq_true hn
  unfold f228 at H
  split at H
  · rename_i hc
    injection H with H; subst H
    obtain ⟨h0, h1, rfl, h3⟩ := hc
    obtain ⟨k, rfl⟩ := Int.eq_ofNat_of_zero_le h0
    rw [pput_eq] at hq
    have hk : k < l.length := by omega
    have := ICalls.eat (l := l.eraseIdx k ++ [0]) (m := l.length - 1) (by simp [List.length_eraseIdx, hk]) (del_walk hk h3 hg)
    rw [List.take_left' (by rw [List.length_eraseIdx, if_pos hk])] at this
    exact ⟨ICalls.use2 this hq⟩
  · cases H
/-- CopyInts. -/
def f38 (l : List Int) : Option (List Int) := if fits 8 l.length then some l else none
theorem c38 {l : List Int} {x : List Int} (H : f38 l = some x) : ICalls E 38 [VS 1 (l.map eI)] AHeap.none fun v h' => ∃ b, v = .slice (some ⟨b, 0, none⟩) x.length 2 ∧ h'.get b = some (.rw (x.map eI)) := by
  unfold f38 at H
  split at H
  · rename_i hf
    injection H with H; subst H
    refine ICalls.modeH (m := true) ?_
    refine icalls_fn (pfnw ?_); (conv=>whnf); refine pw_so ?_; refine po_all ?_; (conv=>whnf)
    refine pw_so ?_; refine po_all ?_; (conv=>whnf)
    obtain ⟨h1, h2, _⟩ := fits_o (P := True) (v := ()) (x := some ()) (b := 8) (m := 0 + (l.map eI).length) (n := l.length) (by rw [hf]; rfl) (by simp) (fun _ => trivial)
    refine ⟨h1, h2, ?_⟩
    cases l with
    | nil =>
      refine .inr ⟨rfl, by omega, by simp, ⟨fun _ => ?_, fun h => by cases h⟩⟩
      (conv=>whnf)
      refine pw_ret ?_
      (conv=>whnf)
      exact ⟨0, rfl, rfl⟩
    | cons a r =>
      refine .inl ⟨rfl, rfl, rfl, ?_⟩
      rw [pput_eq, fS_eq]
      (conv=>whnf)
      refine pw_ret ?_
      (conv=>whnf)
      refine ⟨1, ?_, ?_⟩
      · simp [mkSl]
      · show some (AObj.rw (flat ((a :: r).map eI))) = _
        rw [flat_ints]
  · cases H
theorem c38f {l : List Int} {x : List Int} (H : f38 l = some x) : ICalls E 38 [VS 1 (l.map eI)] AHeap.none fun v h' => ∃ b n, v = VT 1 (x.map eI) b ∧ n = (x.map eI).length ∧ h'.get b = some (.tail n 1) := by
  have H : ogrd (fits 8 (([] : List Int).length + l.length)) (some (([] : List Int) ++ l)) = some x := by
    unfold f38 at H
    split at H
    · rename_i hf
      rw [show ([] : List Int).length + l.length = l.length by simp, hf]; exact H
    · cases H
  refine icalls_fn (pfnw ?_); (conv => whnf); refine pw_so ?_; refine po_all ?_; (conv => whnf); refine pw_so ?_; refine po_all ?_; (conv => whnf); refine app_o (l := ([] : List Int)) (m := l) (f := eI) H (by rfl) (by rfl) (by rfl) (fun H => ?_); (conv => whnf); refine pw_ret ?_; (conv => whnf); cases H
  exact ⟨0, _, rfl, rfl, rfl⟩
/-- slices.Clone of numbers. -/
def f73 (l : List Int) : Option (List Int) := match l with
  | [] => none
  | a :: r => if fits 8 (a :: r).length then some (a :: r) else none
theorem c73 {l : List Int} {x : List Int} (H : f73 l = some x) : ICalls E 73 [VS 1 (l.map eI)] AHeap.none fun v h' => ∃ b, v = .slice (some ⟨b, 0, none⟩) x.length 2 ∧ h'.get b = some (.rw (x.map eI)) := by
  unfold f73 at H
  split at H
  · cases H
  · rename_i a r
    split at H
    · rename_i hf
      injection H with H; subst H
      refine ICalls.modeH (m := true) ?_
      refine icalls_fn (pfnw ?_); (conv=>whnf); refine pw_so ?_; refine po_all ?_; (conv=>whnf)
      refine pw_seq ?_; refine pw_so ?_; refine po_all ?_; (conv=>whnf); refine pw_cond ?_; (conv=>whnf); refine pw_skip ?_; (conv=>whnf)
      refine pw_so ?_; refine po_all ?_; (conv=>whnf)
      obtain ⟨h1, h2, _⟩ := fits_o (P := True) (v := ()) (x := some ()) (b := 8) (m := 0 + ((a :: r).map eI).length) (n := (a :: r).length) (by rw [hf]; rfl) (by simp) (fun _ => trivial)
      refine ⟨h1, h2, .inl ⟨rfl, rfl, rfl, ?_⟩⟩
      rw [pput_eq, fS_eq]
      (conv=>whnf)
      refine pw_ret ?_
      (conv=>whnf)
      refine ⟨1, ?_, ?_⟩
      · simp [mkSl]
      · show some (AObj.rw (flat ((a :: r).map eI))) = _
        rw [flat_ints]
    · cases H
theorem c73e : ICalls E 73 [VS 1 []] AHeap.none fun v _ => v = VS 1 [] := by
  refine ICalls.frz (.empty ?_ ?_)
  · refine icalls_fn (pfnw ?_); (conv=>whnf); refine pw_so ?_; refine po_all ?_; (conv=>whnf)
    refine pw_seq ?_; refine pw_so ?_; refine po_all ?_; (conv=>whnf); refine pw_cond ?_; (conv=>whnf); refine pw_so ?_; refine po_all ?_; (conv=>whnf); refine pw_ret ?_
    (conv=>whnf)
    exact ⟨fun _ => false, .nil _⟩
  · refine icalls_fn (pfnw ?_); (conv=>whnf); refine pw_so ?_; refine po_all ?_; (conv=>whnf)
    refine pw_seq ?_; refine pw_so ?_; refine po_all ?_; (conv=>whnf); refine pw_cond ?_; (conv=>whnf); refine pw_skip ?_; (conv=>whnf)
    refine pw_so ?_; refine po_all ?_; (conv=>whnf)
    refine ⟨rfl, rfl, rfl, by simp, by simp, ?_⟩
    refine ⟨?_⟩
    (conv=>whnf)
    refine pw_ret ?_
    (conv=>whnf)
    exact ⟨fun _ => false, .vt _ _ _ (fun e he => by cases he)⟩
end Go.Proofs.YtmbekcealcjabaaGreat.AM
