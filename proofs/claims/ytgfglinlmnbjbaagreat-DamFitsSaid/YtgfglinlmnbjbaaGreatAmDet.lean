/- The determinant: ordered calls itself, and the loop's body is called at its ends. Conditions: none. -/
import Derived.Test.YtgfglinlmnbjbaaGreatAmFrame
import Derived.Test.YtgfglinlmnbjbaaGreatAmHas
namespace Go.Proofs.YtgfglinlmnbjbaaGreat.AM
set_option linter.unusedSimpArgs false
set_option linter.unusedVariables false
open Go Go.RowKit
theorem ICalls.modeH {key : Nat} {us : List Value} {Q : Value → AHeap → Prop} {m m' : Bool} (H : ICalls E key us ⟨0, [], m⟩ Q) : ICalls E key us ⟨0, [], m'⟩ Q := ICallV.modeH H
attribute [local irreducible] ICallV ICalls Recast rng
abbrev e_L1I (x : List Int) : Value := (VS 1 (x.map eI))
instance {x : List Int} : Cl (e_L1I x) := inferInstanceAs (Cl (VS 1 (x.map eI)))
def f73 (l : List Int) : Option (List Int) := match l with
 | [] => none
 | a :: r => if fits 8 (a :: r).length then some (a :: r) else none
theorem c73 {l : List Int} {x : List Int} (H : f73 l = some x) : ICalls E 73 [VS 1 (l.map eI)] AHeap.none fun v h' => ∃ b, v = .slice (some ⟨b, 0, none⟩) x.length 2 ∧ h'.get b = some (.rw (x.map eI)) := by
 unfold f73 at H
 split at H
 · cases H
 · rename_i a r
   split at H
   · rename_i hf
     injection H with H; subst H
     refine ICalls.modeH (m := true) ?_
     refine icalls_fn (pfnw ?_); (conv=>whnf); refine pw_so ?_; refine po_all ?_; (conv=>whnf)
     refine pw_seq ?_; refine pw_so ?_; refine po_all ?_; (conv=>whnf); refine pw_cond ?_; (conv=>whnf); refine pw_skip ?_; (conv=>whnf)
     refine pw_so ?_; refine po_all ?_; (conv=>whnf)
     obtain ⟨h1, h2, _⟩ := fits_o (P := True) (v := ()) (x := some ()) (b := 8) (m := 0 + ((a :: r).map eI).length) (n := (a :: r).length) (by rw [hf]; rfl) (by simp) (fun _ => trivial)
     refine ⟨h1, h2, .inl ⟨rfl, rfl, rfl, ?_⟩⟩
     rw [pput_eq, fS_eq]
     (conv=>whnf)
     refine pw_ret ?_
     (conv=>whnf)
     refine ⟨1, ?_, ?_⟩
     · simp [mkSl]
     · show some (AObj.rw (flat ((a :: r).map eI))) = _
       rw [flat_ints]
   · cases H
theorem c73f {l : List Int} {x : List Int} (H : f73 l = some x) : ICalls E 73 [VS 1 (l.map eI)] AHeap.none fun v h' => ∃ b n, v = VT 1 (x.map eI) b ∧ n = (x.map eI).length ∧ h'.get b = some (.tail n 1) := by
 unfold f73 at H
 split at H
 · cases H
 · rename_i a r
   have H : ogrd (fits 8 (([] : List Int).length + (a :: r).length)) (some (([] : List Int) ++ (a :: r))) = some x := by
    split at H
    · rename_i hf
      rw [show ([] : List Int).length + (a :: r).length = (a :: r).length by simp, hf]; exact H
    · cases H
   refine icalls_fn (pfnw ?_); (conv => whnf); refine pw_so ?_; refine po_all ?_; (conv => whnf); refine pw_seq ?_; refine pw_so ?_; refine po_all ?_; (conv => whnf); refine pw_cond ?_; (conv => whnf); refine pw_skip ?_; (conv => whnf); refine pw_so ?_; refine po_all ?_; (conv => whnf); refine app_o (l := ([] : List Int)) (m := a :: r) (f := eI) H (by rfl) (by rfl) (by rfl) (fun H => ?_); (conv => whnf); refine pw_ret ?_; (conv => whnf); cases H
   exact ⟨0, _, rfl, rfl, rfl⟩
theorem c73n : ICalls E 73 [.slice none 0 0] AHeap.none fun v _ => v = .slice none 0 0 := by
 refine icalls_fn (pfnw ?_); (conv => whnf); refine pw_so ?_; refine po_all ?_; (conv => whnf); refine pw_seq ?_; refine pw_so ?_; refine po_all ?_; (conv => whnf); refine pw_cond ?_; (conv => whnf); refine pw_so ?_; refine po_all ?_; (conv => whnf); refine pw_ret ?_; (conv => whnf)
noncomputable def f145 [LO]  (a0 : List Int) (a1 : Int) : Option Int :=
 obndS (
  oloop (τ := Int) (ρ := (Unit) ⊕ Int) (fun e5 =>
   oite ((ilt e5 ((a0.map eI).length : Int))) (
    ogrd ((ile 0 e5)) (
    obnd (a0[e5.toNat]?) fun (x10 : Int) =>
    oite ((ieq a1 x10)) (
     some (.inr (.inr (e5)))
      ) (
     some (.inl (IntKind.i64.wrap (e5 + (1 : Int))))
      )
    )
     ) (
    some (.inr (.inl ()))
     )
    ) (0 : Int)
   ) fun (_ : Unit) =>
 some (-1 : Int)
set_option maxHeartbeats 1000000 in
theorem c145 [LO]  {a0 : List Int} {a1 : Int} {x : Int} (H : f145 a0 a1 = some x) : ICalls E 145 [(VS 1 (a0.map eI)), (.int .i64 a1)] AHeap.none fun v _ => v = (.int .i64 x) := by
 refine icalls_fn (pfnw ?_); unfold f145 at H; (conv => whnf); refine pw_so ?_; refine po_all ?_; (conv => whnf); obtain ⟨r1, h2, h3, h4⟩ := obndS_some H; refine pw_joinS (ρ := Unit) (fun e => ⟨[], ⟨0, [], false⟩⟩) r1 ?_ ?_
 · refine pw_so ?_; refine po_all ?_; (conv => whnf); refine pw_block ?_; refine pw_loop (τ := Int) (fun e => ⟨[(0, (VS 1 (a0.map eI))), (1, (.int .i64 a1)), (7, (.int .i64 ((a0.map eI).length : Int))), (8, (.int .i64 e))], ⟨0, [], false⟩⟩) h2 ?_ (fun _ => Nat.le_of_ble_eq_true rfl) ?_
   · exact .sub' (Nat.le_of_ble_eq_true rfl) (.cons rfl (.cons rfl (.cons rfl (.cons rfl .nil))))
   · intro e5 x6 h7; refine pw_so ?_; refine po_all ?_; (conv => whnf); refine pw_seq ?_; refine pw_cond ?_; (conv => whnf); refine pbr_oite h7 (fun g8 h7 => ?_) (fun g8 h7 => ?_)
     · (conv => whnf); refine pw_skip ?_; (conv => whnf); refine pw_seq ?_; refine pw_block ?_; refine pw_so ?_; refine po_all ?_; (conv => whnf); refine pw_so ?_; refine po_all ?_; (conv => whnf); refine pbr_ogrd h7 (fun g9 h7 => ?_); (conv => whnf); refine nth_o (l := a0) h7 (fun x10 _ h7 => ?_); (conv => whnf); refine pw_cond ?_; (conv => whnf); refine pbr_oite h7 (fun g11 h7 => ?_) (fun g11 h7 => ?_)
       · (conv => whnf); refine pw_so ?_; refine po_all ?_; (conv => whnf); refine pw_ret ?_; (conv => whnf); cases h7; refine ⟨_, rfl, ?_⟩; rintro rfl; (conv => whnf); obtain rfl := h4 _ rfl; rfl
       · (conv => whnf); refine pw_skip ?_; (conv => whnf); refine pw_ops ?_; refine po_all ?_; (conv => whnf); cases h7; refine ⟨_, rfl, ?_⟩; exact .sub' (Nat.le_of_ble_eq_true rfl) (.cons rfl (.cons rfl (.cons rfl (.cons rfl .nil))))
     · (conv => whnf); refine pw_exit ?_; (conv => whnf); cases h7; refine ⟨_, rfl, ?_⟩; rintro rfl; (conv => whnf); exact ⟨_, rfl, ⟨.nil, rfl⟩⟩
 · intro r14 hr; have H := h3 _ hr; refine pw_so ?_; refine po_all ?_; (conv => whnf); refine pw_ret ?_; (conv => whnf); cases H; rfl
noncomputable def f138 [LO]  (a0 : List Int) (a1 : Int) : Option Bool :=
 obnd (f145 a0 a1) fun (y1 : Int) =>
 some (ile (0 : Int) y1)
set_option maxHeartbeats 1000000 in
theorem c138 [LO]  {a0 : List Int} {a1 : Int} {x : Bool} (H : f138 a0 a1 = some x) : ICalls E 138 [(VS 1 (a0.map eI)), (.int .i64 a1)] AHeap.none fun v _ => v = (.bool x) := by
 refine icalls_fn (pfnw ?_); unfold f138 at H; (conv => whnf); refine pw_so ?_; refine po_all ?_; (conv => whnf); refine pw_so ?_; refine po_all ?_; (conv => whnf); obtain ⟨y1, h2, H⟩ := obnd_some H; refine (c145 h2).go ?_; (conv => whnf); refine pw_ret ?_; (conv => whnf); cases H; rfl
noncomputable abbrev T96 : List (Nat × Value) := [(1, (.pointer (some ⟨0, 0, none⟩))), (3, (.pointer (some ⟨1, 0, none⟩))), (11, (.func (.func (E.id 124)) ⟨[]⟩ ⟨[(.pointer (some ⟨2, 0, none⟩))]⟩))]
noncomputable abbrev L96 : ALoop := ⟨.ready, none, T96, 36, #[12, 13], (rng 25 0).1, (rng 25 0).2⟩
noncomputable abbrev O96 (m : List (List Int)) (s : Int) : List (Nat × AObj) := [(3, .loop L96), (2, .rw [(.int .i64 ((m.map e_L1I).length : Int))]), (1, .rw [(.int .i64 s)]), (0, .rw [(VS 1 (m.map e_L1I))])]
theorem look_lo {α : Type} {t : List (Nat × α)} {b N : Nat} (hb : b < N) : ∀ {ex : List (Nat × α)}, (∀ p, p ∈ ex → N ≤ p.1) → look (ex ++ t) b = look t b
  | [], _ => rfl
  | (k, v) :: ex, h => by
    have := h (k, v) (by simp)
    simp only [List.cons_append, look]
    rw [if_neg (by simp at this; omega)]
    exact look_lo hb fun p hp => h p (by simp [hp])
theorem look_hi {α : Type} {t t' : List (Nat × α)} {b : Nat} (e : look t b = look t' b) : ∀ {ex : List (Nat × α)}, look (ex ++ t) b = look (ex ++ t') b
  | [] => e
  | (k, v) :: ex => by
    simp only [List.cons_append, look]
    rw [look_hi e]
theorem look_96 {m : List (List Int)} {s : Int} {b : Nat} (h : 4 ≤ b) : look (O96 m s) b = none := by
 simp only [look]
 rw [if_neg (by omega), if_neg (by omega), if_neg (by omega), if_neg (by omega)]
theorem obnd_96 {m : List (List Int)} {s : Int} : ∀ b o, (AHeap.mk 4 (O96 m s) false).get b = some o → OBnd 4 b o := by
 intro b o hb
 by_cases h : 4 ≤ b
 · unfold AHeap.get at hb
   rw [show (AHeap.mk 4 (O96 m s) false).objs = O96 m s from rfl, look_96 h] at hb; cases hb
 · match b, h, hb with
   | 0, _, hb => cases hb; exact .rwc (by omega) rfl
   | 1, _, hb => cases hb; exact .rwc (by omega) rfl
   | 2, _, hb => cases hb; exact .rwc (by omega) rfl
   | 3, _, hb => cases hb; exact .loop (by omega) (.cons (.ptr (by omega)) (.cons (.ptr (by omega)) (.cons (.funcl .nil (.cons (.ptr (by omega)) .nil)) .nil)))
   | k + 4, h, _ => exact absurd (by omega) h
theorem c125x {m : List (List Int)} {s s' : Int} {b : List Int} {c g : Int} {us : List Value} {n : Nat} {ex : List (Nat × AObj)} {Q : Value → AHeap → Prop}
   (H : ICalls E 125 [VS 1 (b.map eI), .int .i64 c, .int .i64 g, .func (.yield 3) #[] #[]] ⟨4, O96 m s, false⟩ fun v h' => v = .bool true ∧ h' = ⟨4, O96 m s', false⟩) (hw : WkL us [VS 1 (b.map eI), .int .i64 c, .int .i64 g, .func (.yield 3) #[] #[]])
   (hq : Q (.bool true) ⟨n, ex ++ O96 m s', false⟩) (hn : 4 ≤ n := by exact Nat.le_of_ble_eq_true rfl) (hex : ∀ p, p ∈ ex → 4 ≤ p.1 := by simp) : PCalls E 125 us ⟨n, ex ++ O96 m s, false⟩ Q := by
 have := ICalls.frame2 (h := ⟨n, ex ++ O96 m s, false⟩) (h' := ⟨n, ex ++ O96 m s', false⟩) (h0 := ⟨4, O96 m s, false⟩) (h0' := ⟨4, O96 m s', false⟩) hn rfl rfl (fun b hb => ?_) obnd_96 (fun b hb => ?_) (fun b hb => ?_) (fun x hx => ?_) H
 · exact ⟨(ICalls.use2 this hq).weak hw⟩
 · unfold AHeap.get; rw [show look (ex ++ O96 m s) b = look (O96 m s) b from look_lo hb hex]
 · unfold AHeap.get; rw [show look (ex ++ O96 m s') b = look (O96 m s') b from look_lo hb hex]
 · unfold AHeap.get; rw [show look (ex ++ O96 m s') b = look (ex ++ O96 m s) b from look_hi (by rw [look_96 hb, look_96 hb])]
 · simp only [List.mem_cons, List.not_mem_nil, or_false] at hx
   rcases hx with rfl | rfl | rfl | rfl
   · exact .cl
   · exact .cl
   · exact .cl
   · exact .yield (show 3 < 4 by omega)
theorem yieldx {fv u : Value} {us us' : List Value} {h h2 : AHeap} {Q : Value → AHeap → Prop} (H : ICallV E fv us' h fun v h' => v = u ∧ h' = h2) (hw : WkL us us') (hq : Q u h2) : PCallV E fv us h Q :=
 ⟨(ICallV.weak (fv' := .nilFunc) H hw).mono fun v h' e => by obtain ⟨rfl, rfl⟩ := e; exact hq⟩
noncomputable def stepD [LO] (m : List (List Int)) (o : List Int) (sg s : Int) : Option Int :=
 obnd (
  oloop (τ := Int × Int) (ρ := Int) (fun e9 =>
   oite ((ilt e9.2 ((o.map eI).length : Int))) (
    ogrd ((ile 0 e9.2)) (
    obnd (o[e9.2.toNat]?) fun (x14 : Int) =>
    obnd (m[e9.2.toNat]?) fun (x15 : (List Int)) =>
    ogrd ((ile 0 x14)) (
    obnd (x15[x14.toNat]?) fun (x17 : Int) =>
    some (.inl (((IntKind.i64.wrap (e9.1 * x17)), (IntKind.i64.wrap (e9.2 + (1 : Int))))))
    )
    )
     ) (
    some (.inr (e9.1))
     )
    ) (sg, (0 : Int))
   ) fun (r5 : Int) =>
 some (IntKind.i64.wrap (s + r5))
set_option maxHeartbeats 1000000 in
theorem cyield [LO] {m : List (List Int)} {o : List Int} {sg s s' : Int} (h2 : stepD m o sg s = some s') : ICallV E (.func (.yield 3) #[] #[]) [VS 1 (o.map eI), .int .i64 sg] ⟨4, O96 m s, false⟩ fun v h' => v = .bool true ∧ h' = ⟨4, O96 m s', false⟩ := by
 refine PCallV.out ?_; unfold stepD at h2; refine pcallv_yield ir96a0 ir96b0 rfl rfl ra96_0 rb96_0 ⟨_, _, _, _, rfl⟩ ?_; (conv => whnf); refine pw_so ?_; refine po_all ?_; (conv => whnf); refine pw_ops ?_; refine po_all ?_; (conv => whnf); refine pw_block ?_; refine pw_so ?_; refine po_all ?_; (conv => whnf); obtain ⟨r5, h6, h2⟩ := obnd_some h2
 refine pw_join (ρ := Int) (fun e => ⟨[(3, (.pointer (some ⟨1, 0, none⟩))), (6, (.int .i64 e))], ⟨4, [(3, .loop ⟨.busy, none, [(1, (.pointer (some ⟨0, 0, none⟩))), (3, (.pointer (some ⟨1, 0, none⟩))), (11, (.func (.func (E.id 124)) ⟨[]⟩ ⟨[(.pointer (some ⟨2, 0, none⟩))]⟩))], 36, #[12, 13], (rng 25 0).1, (rng 25 0).2⟩), (2, .rw [(.int .i64 ((m.map e_L1I).length : Int))]), (1, .rw [(.int .i64 s)]), (0, .rw [(VS 1 (m.map e_L1I))])], false⟩⟩) r5 ?_ ?_
 · refine pw_so ?_; refine po_all ?_; (conv => whnf); refine pw_block ?_; refine pw_loop (τ := Int × Int) (fun e => ⟨[(1, (.pointer (some ⟨0, 0, none⟩))), (3, (.pointer (some ⟨1, 0, none⟩))), (6, (.int .i64 e.1)), (15, (VS 1 (o.map eI))), (16, (.int .i64 ((o.map eI).length : Int))), (17, (.int .i64 e.2))], ⟨4, [(3, .loop ⟨.busy, none, [(1, (.pointer (some ⟨0, 0, none⟩))), (3, (.pointer (some ⟨1, 0, none⟩))), (11, (.func (.func (E.id 124)) ⟨[]⟩ ⟨[(.pointer (some ⟨2, 0, none⟩))]⟩))], 36, #[12, 13], (rng 25 0).1, (rng 25 0).2⟩), (2, .rw [(.int .i64 ((m.map e_L1I).length : Int))]), (1, .rw [(.int .i64 s)]), (0, .rw [(VS 1 (m.map e_L1I))])], false⟩⟩) h6 ?_ (fun _ => Nat.le_of_ble_eq_true rfl) ?_
   · exact .sub' (Nat.le_of_ble_eq_true rfl) (.cons rfl (.cons rfl (.cons rfl (.cons rfl (.cons rfl (.cons rfl .nil))))))
   · intro e9 x10 h11; refine pw_so ?_; refine po_all ?_; (conv => whnf); refine pw_seq ?_; refine pw_cond ?_; (conv => whnf); refine pbr_oite h11 (fun g12 h11 => ?_) (fun g12 h11 => ?_)
     · (conv => whnf); refine pw_skip ?_; (conv => whnf); refine pw_seq ?_; refine pw_block ?_; refine pw_so ?_; refine po_all ?_; (conv => whnf); refine pbr_ogrd h11 (fun g13 h11 => ?_); (conv => whnf); refine nth_o (l := o) h11 (fun x14 _ h11 => ?_); (conv => whnf); refine pw_ops ?_; refine po_all ?_; (conv => whnf); refine pbr_t g13 ?_; (conv => whnf); refine nth_o (l := m) h11 (fun x15 _ h11 => ?_); (conv => whnf); refine pbr_ogrd h11 (fun g16 h11 => ?_); (conv => whnf); refine nth_o (l := x15) h11 (fun x17 _ h11 => ?_); (conv => whnf); refine pw_ops ?_; refine po_all ?_; (conv => whnf); cases h11; refine ⟨_, rfl, ?_⟩; exact .sub' (Nat.le_of_ble_eq_true rfl) (.cons rfl (.cons rfl (.cons rfl (.cons rfl (.cons rfl (.cons rfl .nil))))))
     · (conv => whnf); refine pw_exit ?_; (conv => whnf); cases h11; refine ⟨_, rfl, ?_⟩; rintro rfl; (conv => whnf); exact ⟨(.cons rfl (.cons rfl .nil)), rfl⟩
 · refine pw_ops ?_; refine po_all ?_; (conv => whnf); cases h2; exact ⟨rfl, rfl⟩
noncomputable def r125 [LO] (p0 : List Int → Int → Int → Option Int) (p99 : List Int → Int → Int → Int → Option Int) (a0 : List Int) (a1 a2 s : Int) : Option Int :=
   oite ((ieq ((a0.map eI).length : Int) a1)) (
    obnd (p0 a0 a2 s) fun (y6 : Int) =>
    some y6
     ) (
    obnd (
     oloop (τ := Int × Int × Int) (ρ := Int) (fun e12 =>
      oite ((ilt e12.2.1 a1)) (
       obnd (f138 a0 e12.2.1) fun (y16 : Bool) =>
       oite y16 (
        some (.inl (e12.1, (IntKind.i64.wrap (e12.2.1 + (1 : Int))), e12.2.2))
         ) (
        obnd (f73 a0) fun (y19 : (List Int)) =>
        ogrd (fits 8 (y19.length + ([e12.2.1] : List Int).length)) (
        obnd (p99 (y19 ++ ([e12.2.1] : List Int)) a1 e12.1 e12.2.2) fun (y21 : Int) =>
        some (.inl (((IntKind.i64.wrap (0 - e12.1)), (IntKind.i64.wrap (e12.2.1 + (1 : Int))), y21)))
        )
         )
        ) (
       some (.inr (e12.2.2))
        )
       ) (a2, (0 : Int), s)
      ) fun (r8 : Int) =>
    some r8
     )
set_option maxHeartbeats 1000000 in
theorem cr125 [LO] {m : List (List Int)} {p0 : List Int → Int → Int → Option Int} {p99 : List Int → Int → Int → Int → Option Int} (hp0 : ∀ {o : List Int} {sg s s' : Int}, p0 o sg s = some s' → ICallV E (.func (.yield 3) #[] #[]) [VS 1 (o.map eI), .int .i64 sg] ⟨4, O96 m s, false⟩ fun v h' => v = .bool true ∧ h' = ⟨4, O96 m s', false⟩)
   (hp99 : ∀ {b : List Int} {c g s s' : Int}, b ≠ [] → p99 b c g s = some s' → ICalls E 125 [VS 1 (b.map eI), .int .i64 c, .int .i64 g, .func (.yield 3) #[] #[]] ⟨4, O96 m s, false⟩ fun v h' => v = .bool true ∧ h' = ⟨4, O96 m s', false⟩) {a0 : List Int} {a1 a2 s s' : Int} (h2 : r125 p0 p99 a0 a1 a2 s = some s') :
   ICalls E 125 [VS 1 (a0.map eI), .int .i64 a1, .int .i64 a2, .func (.yield 3) #[] #[]] ⟨4, O96 m s, false⟩ fun v h' => v = .bool true ∧ h' = ⟨4, O96 m s', false⟩ := by
 refine icalls_fn (pfnw ?_); unfold r125 at h2; (conv => whnf); refine pw_so ?_; refine po_all ?_; (conv => whnf); refine pw_seq ?_; refine pw_so ?_; refine po_all ?_; (conv => whnf); refine pw_cond ?_; (conv => whnf); refine pbr_oite h2 (fun g5 h2 => ?_) (fun g5 h2 => ?_)
 · (conv => whnf); refine pw_so ?_; refine po_all ?_; (conv => whnf); obtain ⟨y6, h7, h2⟩ := obnd_some h2; refine yieldx (hp0 h7) (.cons (.refl _) (.cons (.refl _) .nil)) ?_; (conv => whnf); refine pw_ret ?_; (conv => whnf); cases h2; exact ⟨rfl, rfl⟩
 · (conv => whnf); refine pw_skip ?_; (conv => whnf); obtain ⟨r8, h9, h2⟩ := obnd_some h2; refine pw_join (ρ := Int) (fun e => ⟨[], ⟨4, [(3, .loop ⟨.ready, none, [(1, (.pointer (some ⟨0, 0, none⟩))), (3, (.pointer (some ⟨1, 0, none⟩))), (11, (.func (.func (E.id 124)) ⟨[]⟩ ⟨[(.pointer (some ⟨2, 0, none⟩))]⟩))], 36, #[12, 13], (rng 25 0).1, (rng 25 0).2⟩), (2, .rw [(.int .i64 ((m.map e_L1I).length : Int))]), (1, .rw [(.int .i64 e)]), (0, .rw [(VS 1 (m.map e_L1I))])], false⟩⟩) r8 ?_ ?_
   · refine pw_so ?_; refine po_all ?_; (conv => whnf); refine pw_block ?_; refine pw_loop (τ := Int × Int × Int) (fun e => ⟨[(0, (VS 1 (a0.map eI))), (1, (.int .i64 a1)), (2, (.int .i64 e.1)), (3, (.func (.yield 3) #[] #[])), (18, (.int .i64 a1)), (19, (.int .i64 e.2.1))], ⟨4, [(3, .loop ⟨.ready, none, [(1, (.pointer (some ⟨0, 0, none⟩))), (3, (.pointer (some ⟨1, 0, none⟩))), (11, (.func (.func (E.id 124)) ⟨[]⟩ ⟨[(.pointer (some ⟨2, 0, none⟩))]⟩))], 36, #[12, 13], (rng 25 0).1, (rng 25 0).2⟩), (2, .rw [(.int .i64 ((m.map e_L1I).length : Int))]), (1, .rw [(.int .i64 e.2.2)]), (0, .rw [(VS 1 (m.map e_L1I))])], false⟩⟩) h9 ?_ (fun _ => Nat.le_of_ble_eq_true rfl) ?_
     · exact .sub' (Nat.le_of_ble_eq_true rfl) (.cons rfl (.cons rfl (.cons rfl (.cons rfl (.cons rfl (.cons rfl .nil))))))
     · intro e12 x13 h14; refine pw_so ?_; refine po_all ?_; (conv => whnf); refine pw_seq ?_; refine pw_cond ?_; (conv => whnf); refine pbr_oite h14 (fun g15 h14 => ?_) (fun g15 h14 => ?_)
       · (conv => whnf); refine pw_skip ?_; (conv => whnf); refine pw_seq ?_; refine pw_block ?_; refine pw_so ?_; refine po_all ?_; (conv => whnf); refine pw_seq ?_; refine pw_so ?_; refine po_all ?_; (conv => whnf); obtain ⟨y16, h17, h14⟩ := obnd_some h14; refine (c138 h17).go ?_; (conv => whnf); refine pw_cond ?_; (conv => whnf); refine pbr_oite h14 (fun g18 h14 => ?_) (fun g18 h14 => ?_)
         · (conv => whnf); refine pw_exit ?_; (conv => whnf); refine pw_ops ?_; refine po_all ?_; (conv => whnf); cases h14; refine ⟨_, rfl, ?_⟩; exact .sub' (Nat.le_of_ble_eq_true rfl) (.cons rfl (.cons rfl (.cons rfl (.cons rfl (.cons rfl (.cons rfl .nil))))))
         · (conv => whnf); refine pw_skip ?_; (conv => whnf); refine pw_seq ?_; refine pw_so ?_; refine po_all ?_; (conv => whnf); obtain ⟨y19, h20, h14⟩ := obnd_some h14; refine ICalls.goFW (c73f h20) (.cons (.refl _) .nil) ?_; (conv => whnf); refine app_o (l := y19) (m := ([e12.2.1] : List Int)) (f := eI) h14 (by rfl) (by rfl) (by rfl) (fun h14 => ?_); (conv => whnf); obtain ⟨y21, h22, h14⟩ := obnd_some h14; refine c125x (ex := [(5, .tail 1 1), (4, .tail ((y19 ++ ([e12.2.1] : List Int)).map eI).length 1)]) (hp99 (by simp) h22) (.cons (.vt _ _ _) (.cons (.refl _) (.cons (.refl _) (.cons (.refl _) .nil)))) ?_; (conv => whnf); refine pw_cond ?_
           (conv => whnf); refine pw_skip ?_; (conv => whnf); refine pw_ops ?_; refine po_all ?_; (conv => whnf); refine pw_ops ?_; refine po_all ?_; (conv => whnf); cases h14; refine ⟨_, rfl, ?_⟩; exact Recast.fz (fun _ => false) (Nat.le_of_ble_eq_true rfl) (.cons (.same rfl rfl (OBnd.loop (Nat.le_of_ble_eq_true rfl) (.cons (.ptr (Nat.le_of_ble_eq_true rfl)) (.cons (.ptr (Nat.le_of_ble_eq_true rfl)) (.cons (.funcl .nil (.cons (.ptr (Nat.le_of_ble_eq_true rfl)) .nil)) .nil))))) (.cons (.same rfl rfl (OBnd.rwl (Nat.le_of_ble_eq_true rfl) rfl (.cons .cl .nil))) (.cons (.same rfl rfl (OBnd.rwl (Nat.le_of_ble_eq_true rfl) rfl (.cons .cl .nil))) (.cons (.same rfl rfl (OBnd.rwl (Nat.le_of_ble_eq_true rfl) rfl (.cons .cl .nil))) .nil)))) (.cons rfl (.same _ .cl) (.cons rfl (.same _ .cl) (.cons rfl (.same _ .cl) (.cons rfl (.same _ (.yield (Nat.le_of_ble_eq_true rfl))) (.cons rfl (.same _ .cl) (.cons rfl (.same _ .cl) .nil))))))
       · (conv => whnf); refine pw_exit ?_; (conv => whnf); cases h14; refine ⟨_, rfl, ?_⟩; rintro rfl; (conv => whnf); exact ⟨.nil, rfl⟩
   · refine pw_so ?_; refine po_all ?_; (conv => whnf); refine pw_ret ?_; (conv => whnf); cases h2; exact ⟨rfl, rfl⟩
noncomputable def d125n [LO] (m : List (List Int)) : Nat → List Int → Int → Int → Int → Option Int
 | 0 => fun _ _ _ _ => none
 | n + 1 => r125 (stepD m) (d125n m n)
theorem c125n [LO] {m : List (List Int)} : ∀ (n : Nat) {b : List Int} {c g s s' : Int}, b ≠ [] → d125n m n b c g s = some s' → ICalls E 125 [VS 1 (b.map eI), .int .i64 c, .int .i64 g, .func (.yield 3) #[] #[]] ⟨4, O96 m s, false⟩ fun v h' => v = .bool true ∧ h' = ⟨4, O96 m s', false⟩
 | 0, _, _, _, _, _, _, H => by cases H
 | n + 1, _, _, _, _, _, _, H => cr125 (m := m) (fun h => cyield h) (fun hb h => c125n n hb h) H
noncomputable def d125 [LO] (m : List (List Int)) (b : List Int) (c g s : Int) : Option Int := d125n m (c.toNat + 1) b c g s
theorem c125 [LO] {m : List (List Int)} {b : List Int} {c g s s' : Int} (hb : b ≠ []) (H : d125 m b c g s = some s') : ICalls E 125 [VS 1 (b.map eI), .int .i64 c, .int .i64 g, .func (.yield 3) #[] #[]] ⟨4, O96 m s, false⟩ fun v h' => v = .bool true ∧ h' = ⟨4, O96 m s', false⟩ := c125n _ hb H
noncomputable def f96 [LO] (a0 : List (List Int)) : Option Int :=
  obnd (
   oite ((ieq (0 : Int) ((a0.map e_L1I).length : Int))) (
    obnd (stepD a0 ([] : List Int) (1 : Int) (0 : Int)) fun (y6 : Int) =>
    some y6
     ) (
    obnd (
     oloop (τ := Int × Int × Int) (ρ := Int) (fun e12 =>
      oite ((ilt e12.2.1 ((a0.map e_L1I).length : Int))) (
       obnd (f138 ([] : List Int) e12.2.1) fun (y16 : Bool) =>
       oite y16 (
        some (.inl (e12.1, (IntKind.i64.wrap (e12.2.1 + (1 : Int))), e12.2.2))
         ) (
        obnd (d125 a0 ([e12.2.1] : List Int) ((a0.map e_L1I).length : Int) e12.1 e12.2.2) fun (y19 : Int) =>
        some (.inl (((IntKind.i64.wrap (0 - e12.1)), (IntKind.i64.wrap (e12.2.1 + (1 : Int))), y19)))
         )
        ) (
       some (.inr (e12.2.2))
        )
       ) (((1 : Int), (0 : Int), (0 : Int)))
      ) fun (r8 : Int) =>
    some r8
     )
    ) fun (r1 : Int) =>
  some r1
set_option maxHeartbeats 1000000 in
theorem c96 [LO] {a0 : List (List Int)} {x : Int} (H : f96 a0 = some x) : ICalls E 96 [(VS 1 (a0.map e_L1I))] AHeap.none fun v _ => v = (.int .i64 x) := by
 refine icalls_fn (pfnw ?_); unfold f96 at H; (conv => whnf); refine pw_so ?_; refine po_all ?_; (conv => whnf); refine pw_so ?_; refine po_all ?_; (conv => whnf); obtain ⟨r1, h2, H⟩ := obnd_some H; refine pw_join (ρ := Int) (fun e => ⟨[(3, (.pointer (some ⟨1, 0, none⟩)))], ⟨4, [(3, .dead), (2, .rw [(.int .i64 ((a0.map e_L1I).length : Int))]), (1, .rw [(.int .i64 e)]), (0, .rw [(VS 1 (a0.map e_L1I))])], false⟩⟩) r1 ?_ ?_
 · refine pw_so ?_; refine po_all ?_; (conv => whnf); refine pcalls_in ?_; (conv => whnf); refine pw_so ?_; refine po_all ?_; (conv => whnf); refine pw_so ?_; refine po_all ?_; (conv => whnf); refine pw_ret ?_; (conv => whnf); refine pw_block ?_; refine pw_range [1, 3, 11] ?_; (conv => whnf); refine pcallv_in ?_; (conv => whnf); refine pw_ops ?_; refine po_all ?_; (conv => whnf); refine pcalls_in ?_; (conv => whnf); refine pw_so ?_; refine po_all ?_; (conv => whnf); refine pw_seq ?_; refine pw_so ?_; refine po_all ?_; (conv => whnf); refine pw_cond ?_; (conv => whnf); refine pbr_oite h2 (fun g5 h2 => ?_) (fun g5 h2 => ?_)
   · (conv => whnf); refine pw_so ?_; refine po_all ?_; (conv => whnf); obtain ⟨y6, h7, h2⟩ := obnd_some h2; refine yieldx (cyield h7) (.cons (.nil _) (.cons (.refl _) .nil)) ?_; (conv => whnf); refine pw_ret ?_; (conv => whnf); cases h2; exact ⟨(.cons rfl .nil), rfl⟩
   · (conv => whnf); refine pw_skip ?_; (conv => whnf); obtain ⟨r8, h9, h2⟩ := obnd_some h2; refine pw_join (ρ := Int) (fun e => ⟨[], ⟨4, [(3, .loop ⟨.ready, none, [(1, (.pointer (some ⟨0, 0, none⟩))), (3, (.pointer (some ⟨1, 0, none⟩))), (11, (.func (.func (E.id 124)) ⟨[]⟩ ⟨[(.pointer (some ⟨2, 0, none⟩))]⟩))], 36, #[12, 13], (rng 25 0).1, (rng 25 0).2⟩), (2, .rw [(.int .i64 ((a0.map e_L1I).length : Int))]), (1, .rw [(.int .i64 e)]), (0, .rw [(VS 1 (a0.map e_L1I))])], false⟩⟩) r8 ?_ ?_
     · refine pw_so ?_; refine po_all ?_; (conv => whnf); refine pw_block ?_; refine pw_loop (τ := Int × Int × Int) (fun e => ⟨[(0, (.slice none 0 0)), (1, (.int .i64 ((a0.map e_L1I).length : Int))), (2, (.int .i64 e.1)), (3, (.func (.yield 3) #[] #[])), (18, (.int .i64 ((a0.map e_L1I).length : Int))), (19, (.int .i64 e.2.1))], ⟨4, [(3, .loop ⟨.ready, none, [(1, (.pointer (some ⟨0, 0, none⟩))), (3, (.pointer (some ⟨1, 0, none⟩))), (11, (.func (.func (E.id 124)) ⟨[]⟩ ⟨[(.pointer (some ⟨2, 0, none⟩))]⟩))], 36, #[12, 13], (rng 25 0).1, (rng 25 0).2⟩), (2, .rw [(.int .i64 ((a0.map e_L1I).length : Int))]), (1, .rw [(.int .i64 e.2.2)]), (0, .rw [(VS 1 (a0.map e_L1I))])], false⟩⟩) h9 ?_ (fun _ => Nat.le_of_ble_eq_true rfl) ?_
       · exact .sub' (Nat.le_of_ble_eq_true rfl) (.cons rfl (.cons rfl (.cons rfl (.cons rfl (.cons rfl (.cons rfl .nil))))))
       · intro e12 x13 h14; refine pw_so ?_; refine po_all ?_; (conv => whnf); refine pw_seq ?_; refine pw_cond ?_; (conv => whnf); refine pbr_oite h14 (fun g15 h14 => ?_) (fun g15 h14 => ?_)
         · (conv => whnf); refine pw_skip ?_; (conv => whnf); refine pw_seq ?_; refine pw_block ?_; refine pw_so ?_; refine po_all ?_; (conv => whnf); refine pw_seq ?_; refine pw_so ?_; refine po_all ?_; (conv => whnf); obtain ⟨y16, h17, h14⟩ := obnd_some h14; refine ICalls.goW (c138 h17) (.cons (.nil _) (.cons (.refl _) .nil)) ?_; (conv => whnf); refine pw_cond ?_; (conv => whnf); refine pbr_oite h14 (fun g18 h14 => ?_) (fun g18 h14 => ?_)
           · (conv => whnf); refine pw_exit ?_; (conv => whnf); refine pw_ops ?_; refine po_all ?_; (conv => whnf); cases h14; refine ⟨_, rfl, ?_⟩; exact .sub' (Nat.le_of_ble_eq_true rfl) (.cons rfl (.cons rfl (.cons rfl (.cons rfl (.cons rfl (.cons rfl .nil))))))
           · (conv => whnf); refine pw_skip ?_; (conv => whnf); refine pw_seq ?_; refine pw_so ?_; refine po_all ?_; (conv => whnf); refine c73n.go ?_; (conv => whnf); refine ⟨by first | decide | simp, by first | decide | simp, ?_⟩; (conv => whnf); obtain ⟨y19, h20, h14⟩ := obnd_some h14; refine c125x (ex := [(5, .tail (([e12.2.1] : List Int).map eI).length 1), (4, .tail 1 1)]) (c125 (by simp) h20) (.cons (.vt _ _ _) (.cons (.refl _) (.cons (.refl _) (.cons (.refl _) .nil)))) ?_; (conv => whnf); refine pw_cond ?_; (conv => whnf); refine pw_skip ?_; (conv => whnf); refine pw_ops ?_; refine po_all ?_; (conv => whnf); refine pw_ops ?_; refine po_all ?_; (conv => whnf)
             cases h14; refine ⟨_, rfl, ?_⟩; exact Recast.fz (fun _ => false) (Nat.le_of_ble_eq_true rfl) (.cons (.same rfl rfl (OBnd.loop (Nat.le_of_ble_eq_true rfl) (.cons (.ptr (Nat.le_of_ble_eq_true rfl)) (.cons (.ptr (Nat.le_of_ble_eq_true rfl)) (.cons (.funcl .nil (.cons (.ptr (Nat.le_of_ble_eq_true rfl)) .nil)) .nil))))) (.cons (.same rfl rfl (OBnd.rwl (Nat.le_of_ble_eq_true rfl) rfl (.cons .cl .nil))) (.cons (.same rfl rfl (OBnd.rwl (Nat.le_of_ble_eq_true rfl) rfl (.cons .cl .nil))) (.cons (.same rfl rfl (OBnd.rwl (Nat.le_of_ble_eq_true rfl) rfl (.cons .cl .nil))) .nil)))) (.cons rfl (.same _ .cl) (.cons rfl (.same _ .cl) (.cons rfl (.same _ .cl) (.cons rfl (.same _ (.yield (Nat.le_of_ble_eq_true rfl))) (.cons rfl (.same _ .cl) (.cons rfl (.same _ .cl) .nil))))))
         · (conv => whnf); refine pw_exit ?_; (conv => whnf); cases h14; refine ⟨_, rfl, ?_⟩; rintro rfl; (conv => whnf); exact ⟨.nil, rfl⟩
     · refine pw_so ?_; refine po_all ?_; (conv => whnf); refine pw_ret ?_; (conv => whnf); cases h2; exact ⟨(.cons rfl .nil), rfl⟩
 · refine pw_so ?_; refine po_all ?_; (conv => whnf); refine pw_ret ?_; (conv => whnf); cases H; rfl
end Go.Proofs.YtgfglinlmnbjbaaGreat.AM
