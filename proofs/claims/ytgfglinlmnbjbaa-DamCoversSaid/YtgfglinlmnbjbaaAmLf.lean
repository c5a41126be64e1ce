/- Computations of functions, and that the functions do them (printed by tools/lift.py). Conditions: none. -/
import Derived.Test.YtgfglinlmnbjbaaAmMan
namespace Go.Proofs.Ytgfglinlmnbjbaa.AM
set_option linter.unusedSimpArgs false
set_option linter.unusedVariables false
set_option maxHeartbeats 1000000
open Go Go.RowKit
attribute [local irreducible] ICallV ICalls Recast rng
abbrev e_II (x : Int × Int) : Value := .agg ⟨[(.int .i64 x.1), (.int .i64 x.2)]⟩
instance {x : Int × Int} : Cl (e_II x) := inferInstanceAs (Cl (.agg ⟨[(.int .i64 x.1), (.int .i64 x.2)]⟩))

/-- guidevane/guidevanelaw09.fewSirens -/
noncomputable def f18  (a0 : List (Int × Int)) (a1 : List Int) : Option Bool :=
 obnd (
 oite ((ile ((a0.map e_II).length : Int) (22 : Int))) (
 some (ile ((a1.map eI).length : Int) (42 : Int))
 ) (
 some false)
 ) fun (r1 : Bool) =>
 some r1
theorem c18  {a0 : List (Int × Int)} {a1 : List Int} {x : Bool} (H : f18 a0 a1 = some x) : ICalls E 18 [(.agg ⟨[(VS 2 (a0.map e_II)), (VS 1 (a1.map eI))]⟩)] AHeap.none fun v _ => v = (.bool x) := by
  refine icalls_fn (pfnw ?_); unfold f18 at H;(conv=>whnf);refine pwa ?_;(conv=>whnf);refine pw_so ?_;refine po_ops 5 ?_;(conv=>whnf);obtain ⟨r1, h2, H⟩ := obnd_some H;refine po_seg (τ := Bool) 5 (fun e => ⟨[(12, (.bool e))], ⟨1, [(0, .rw [(VS 2 (a0.map e_II)), (VS 1 (a1.map eI))])], false⟩⟩) r1 ?_ ?_
  · refine po_all ?_;(conv=>whnf);refine pbr_oite h2 (fun g3 h2 => ?_) (fun g3 h2 => ?_)
    · (conv=>whnf);(iterate 4 refine pbr_t g3 ?_;(conv=>whnf));cases h2;exact ⟨(.cons rfl .nil), rfl⟩
    · (conv=>whnf);(iterate 4 refine pbr_f g3 ?_;(conv=>whnf));cases h2;exact ⟨(.cons rfl .nil), rfl⟩
  · refine po_all ?_;(conv=>whnf);refine pw_ret ?_;(conv=>whnf);cases H; rfl

/-- guidevane/guidevanebase.Within -/
noncomputable def f15  (a0 : Int) (a1 : Int) (a2 : Int) : Option Bool :=
 obnd (
 oite ((ile a1 a0)) (
 some (ile a0 a2)
 ) (
 some false)
 ) fun (r1 : Bool) =>
 some r1
theorem c15  {a0 : Int} {a1 : Int} {a2 : Int} {x : Bool} (H : f15 a0 a1 a2 = some x) : ICalls E 15 [(.int .i64 a0), (.int .i64 a1), (.int .i64 a2)] AHeap.none fun v _ => v = (.bool x) := by
  refine icalls_fn (pfnw ?_); unfold f15 at H;(conv=>whnf);refine pwa ?_;(conv=>whnf);refine pw_so ?_;refine po_ops 4 ?_;(conv=>whnf);obtain ⟨r1, h2, H⟩ := obnd_some H;refine po_seg (τ := Bool) 4 (fun e => ⟨[(14, (.bool e))], ⟨0, [], false⟩⟩) r1 ?_ ?_
  · refine po_all ?_;(conv=>whnf);refine pbr_oite h2 (fun g3 h2 => ?_) (fun g3 h2 => ?_)
    · (conv=>whnf);(iterate 3 refine pbr_t g3 ?_;(conv=>whnf));cases h2;exact ⟨(.cons rfl .nil), rfl⟩
    · (conv=>whnf);(iterate 3 refine pbr_f g3 ?_;(conv=>whnf));cases h2;exact ⟨(.cons rfl .nil), rfl⟩
  · refine po_all ?_;(conv=>whnf);refine pw_ret ?_;(conv=>whnf);cases H; rfl

/-- guidevane/guidevaneref09.CheckValley -/
noncomputable def f24 [LO]  (a0 : List (Int × Int)) (a1 : List Int) : Option (Int × Int) :=
 obnd (
 oite ((ilt (20 : Int) ((a0.map e_II).length : Int))) (
 some true
 ) (
 some (ilt (40 : Int) ((a1.map eI).length : Int)))
 ) fun (r1 : Bool) =>
 oite r1 (
 some ((0 : Int), (8 : Int))
 ) (
 obndS (
 oloop (τ := Int) (ρ := (Unit) ⊕ (Int × Int)) (fun e11 =>
 oite ((ilt e11 ((a0.map e_II).length : Int))) (
 obnd (
 ogrd ((ile 0 e11)) (
 obnd (a0[e11.toNat]?) fun (x20 : Int × Int) =>
 obnd (f15 x20.1 (0 : Int) (1000000 : Int)) fun (y21 : Bool) =>
 oite (!y21) (
 some true
 ) (
 obnd (a0[e11.toNat]?) fun (x24 : Int × Int) =>
 obnd (f15 x24.2 (0 : Int) (1000000 : Int)) fun (y25 : Bool) =>
 some (!y25)))
 ) fun (r15 : Bool) =>
 oite r15 (
 some (.inr (.inr ((e11, (2 : Int)))))
 ) (
 some (.inl (IntKind.i64.wrap (e11 + (1 : Int)))))
 ) (
 some (.inr (.inl ())))
 ) (0 : Int)
 ) fun (_ : Unit) =>
 obndS (
 oloop (τ := Int) (ρ := (Unit) ⊕ (Int × Int)) (fun e35 =>
 oite ((ilt e35 ((a1.map eI).length : Int))) (
 ogrd ((ile 0 e35)) (
 obnd (a1[e35.toNat]?) fun (x40 : Int) =>
 obnd (f15 x40 (0 : Int) (1000000 : Int)) fun (y41 : Bool) =>
 oite (!y41) (
 some (.inr (.inr ((e35, (2 : Int)))))
 ) (
 some (.inl (IntKind.i64.wrap (e35 + (1 : Int))))))
 ) (
 some (.inr (.inl ())))
 ) (0 : Int)
 ) fun (_ : Unit) =>
 some ((0 : Int), (0 : Int)))
theorem c24 [LO]  {a0 : List (Int × Int)} {a1 : List Int} {x : Int × Int} (H : f24 a0 a1 = some x) : ICalls E 24 [(.agg ⟨[(VS 2 (a0.map e_II)), (VS 1 (a1.map eI))]⟩)] AHeap.none fun v _ => v = (.tuple ⟨[(.int .i64 x.1), (.int .i64 x.2)]⟩) := by
  refine icalls_fn (pfnw ?_); unfold f24 at H;(conv=>whnf);refine pwa ?_;(conv=>whnf);refine pw_seq ?_;obtain ⟨r1, h2, H⟩ := obnd_some H;refine pw_join (ρ := Bool) (fun e => ⟨[(1, (.pointer (some ⟨0, 0, none⟩))), (15, (.bool e))], ⟨1, [(0, .rw [(VS 2 (a0.map e_II)), (VS 1 (a1.map eI))])], false⟩⟩) r1 ?_ ?_
  · refine pw_ops ?_;refine po_all ?_;(conv=>whnf);refine pbr_oite h2 (fun g5 h2 => ?_) (fun g5 h2 => ?_)
    · (conv=>whnf);(iterate 4 refine pbr_t g5 ?_;(conv=>whnf));cases h2;exact ⟨(.cons rfl (.cons rfl .nil)), rfl⟩
    · (conv=>whnf);(iterate 4 refine pbr_f g5 ?_;(conv=>whnf));cases h2;exact ⟨(.cons rfl (.cons rfl .nil)), rfl⟩
  · refine pw_cond ?_;(conv=>whnf);refine pbr_oite H (fun g6 H => ?_) (fun g6 H => ?_)
    · (conv=>whnf);refine pwa ?_;(conv=>whnf);refine pw_ret ?_;(conv=>whnf);cases H; rfl
    · (conv=>whnf);refine pw_skip ?_;(conv=>whnf);obtain ⟨r7, h8, h9, h10⟩ := obndS_some H;refine pw_joinS (ρ := Unit) (fun e => ⟨[(1, (.pointer (some ⟨0, 0, none⟩)))], ⟨1, [(0, .rw [(VS 2 (a0.map e_II)), (VS 1 (a1.map eI))])], false⟩⟩) r7 ?_ ?_
      · refine pwa ?_;(conv=>whnf);refine pw_block ?_;refine pw_loop (τ := Int) (fun e => ⟨[(1, (.pointer (some ⟨0, 0, none⟩))), (4, (.int .i64 e))], ⟨1, [(0, .rw [(VS 2 (a0.map e_II)), (VS 1 (a1.map eI))])], false⟩⟩) h8 ?_ (fun _ => nl rfl) ?_
        · exact .sub' (nl rfl) (.cons rfl (.cons rfl .nil))
        · intro e11 x12 h13;refine pw_seq ?_;refine pwa ?_;(conv=>whnf);refine pw_cond ?_;(conv=>whnf);refine pbr_oite h13 (fun g14 h13 => ?_) (fun g14 h13 => ?_)
          · (conv=>whnf);refine pw_skip ?_;(conv=>whnf);refine pw_seq ?_;refine pw_block ?_;obtain ⟨r15, h16, h13⟩ := obnd_some h13;refine pw_join (ρ := Bool) (fun e => ⟨[(1, (.pointer (some ⟨0, 0, none⟩))), (4, (.int .i64 e11)), (40, (.bool e))], ⟨1, [(0, .rw [(VS 2 (a0.map e_II)), (VS 1 (a1.map eI))])], false⟩⟩) r15 ?_ ?_
            · refine pw_ops ?_;refine po_all ?_;(conv=>whnf);refine pbr_ogrd h16 (fun g19 h16 => ?_);(conv=>whnf);refine nth_o (l := a0) h16 (fun x20 _ h16 => ?_);(conv=>whnf);obtain ⟨y21, h22, h16⟩ := obnd_some h16;refine (c15 h22).go ?_;(conv=>whnf);refine pbr_oite h16 (fun g23 h16 => ?_) (fun g23 h16 => ?_)
              · (conv=>whnf);(iterate 8 refine pbr_t g23 ?_;(conv=>whnf));cases h16;exact ⟨(.cons rfl (.cons rfl (.cons rfl .nil))), rfl⟩
              · (conv=>whnf);(iterate 3 refine pbr_f g23 ?_;(conv=>whnf));refine pbr_t g19 ?_;(conv=>whnf);refine nth_o (l := a0) h16 (fun x24 _ h16 => ?_);(conv=>whnf);(iterate 3 refine pbr_f g23 ?_;(conv=>whnf));obtain ⟨y25, h26, h16⟩ := obnd_some h16;refine (c15 h26).go ?_;(conv=>whnf);refine pbr_f g23 ?_;(conv=>whnf);refine pbr_f g23 ?_;(conv=>whnf);cases h16;exact ⟨(.cons rfl (.cons rfl (.cons rfl .nil))), rfl⟩
            · refine pw_cond ?_;(conv=>whnf);refine pbr_oite h13 (fun g27 h13 => ?_) (fun g27 h13 => ?_)
              · (conv=>whnf);refine pwa ?_;(conv=>whnf);refine pw_ret ?_;(conv=>whnf);cases h13;refine ⟨_, rfl, ?_⟩; rintro rfl;(conv=>whnf);obtain rfl := h10 _ rfl; rfl
              · (conv=>whnf);refine pw_skip ?_;(conv=>whnf);refine pw_ops ?_;refine po_all ?_;(conv=>whnf);cases h13;refine ⟨_, rfl, ?_⟩;exact .sub' (nl rfl) (.cons rfl (.cons rfl .nil))
          · (conv=>whnf);refine pw_exit ?_;(conv=>whnf);cases h13;refine ⟨_, rfl, ?_⟩; rintro rfl;(conv=>whnf);exact ⟨_, rfl, ⟨(.cons rfl .nil), rfl⟩⟩
      · intro r30 hr; have H := h9 _ hr;obtain ⟨r31, h32, h33, h34⟩ := obndS_some H;refine pw_joinS (ρ := Unit) (fun e => ⟨[], ⟨1, [(0, .rw [(VS 2 (a0.map e_II)), (VS 1 (a1.map eI))])], false⟩⟩) r31 ?_ ?_
        · refine pwa ?_;(conv=>whnf);refine pw_block ?_;refine pw_loop (τ := Int) (fun e => ⟨[(1, (.pointer (some ⟨0, 0, none⟩))), (5, (.int .i64 e))], ⟨1, [(0, .rw [(VS 2 (a0.map e_II)), (VS 1 (a1.map eI))])], false⟩⟩) h32 ?_ (fun _ => nl rfl) ?_
          · exact .sub' (nl rfl) (.cons rfl (.cons rfl .nil))
          · intro e35 x36 h37;refine pw_seq ?_;refine pwa ?_;(conv=>whnf);refine pw_cond ?_;(conv=>whnf);refine pbr_oite h37 (fun g38 h37 => ?_) (fun g38 h37 => ?_)
            · (conv=>whnf);refine pw_skip ?_;(conv=>whnf);refine pw_seq ?_;refine pw_block ?_;refine pwa ?_;(conv=>whnf);refine pbr_ogrd h37 (fun g39 h37 => ?_);(conv=>whnf);refine nth_o (l := a1) h37 (fun x40 _ h37 => ?_);(conv=>whnf);obtain ⟨y41, h42, h37⟩ := obnd_some h37;refine (c15 h42).go ?_;(conv=>whnf);refine pw_cond ?_;(conv=>whnf);refine pbr_oite h37 (fun g43 h37 => ?_) (fun g43 h37 => ?_)
              · (conv=>whnf);refine pwa ?_;(conv=>whnf);refine pw_ret ?_;(conv=>whnf);cases h37;refine ⟨_, rfl, ?_⟩; rintro rfl;(conv=>whnf);obtain rfl := h34 _ rfl; rfl
              · (conv=>whnf);refine pw_skip ?_;(conv=>whnf);refine pw_ops ?_;refine po_all ?_;(conv=>whnf);cases h37;refine ⟨_, rfl, ?_⟩;exact .sub' (nl rfl) (.cons rfl (.cons rfl .nil))
            · (conv=>whnf);refine pw_exit ?_;(conv=>whnf);cases h37;refine ⟨_, rfl, ?_⟩; rintro rfl;(conv=>whnf);exact ⟨_, rfl, ⟨.nil, rfl⟩⟩
        · intro r46 hr; have H := h33 _ hr;refine pwa ?_;(conv=>whnf);refine pw_ret ?_;(conv=>whnf);cases H; rfl

/-- guidevane/guidevaneref09.ValleyErr -/
noncomputable def f27 [LO]  (a0 : List (Int × Int)) (a1 : List Int) : Option Int :=
 obnd (f24 a0 a1) fun (y1 : Int × Int) =>
 some y1.2
theorem c27 [LO]  {a0 : List (Int × Int)} {a1 : List Int} {x : Int} (H : f27 a0 a1 = some x) : ICalls E 27 [(.agg ⟨[(VS 2 (a0.map e_II)), (VS 1 (a1.map eI))]⟩)] AHeap.none fun v _ => v = (.int .i64 x) := by
  refine icalls_fn (pfnw ?_); unfold f27 at H;(conv=>whnf);refine pwa ?_;(conv=>whnf);refine pwa ?_;(conv=>whnf);obtain ⟨y1, h2, H⟩ := obnd_some H;refine (c24 h2).go ?_;(conv=>whnf);refine pwa ?_;(conv=>whnf);refine pw_ret ?_;(conv=>whnf);cases H; rfl

/-- guidevane/guidevanelaw09.lightValley -/
noncomputable def f19 [LO]  (a0 : List (Int × Int)) (a1 : List Int) : Option Bool :=
 obnd (
 oite ((ile ((a0.map e_II).length : Int) (9 : Int))) (
 some true
 ) (
 obnd (f27 a0 a1) fun (y4 : Int) =>
 some (!(ieq y4 (0 : Int))))
 ) fun (r1 : Bool) =>
 some r1
theorem c19 [LO]  {a0 : List (Int × Int)} {a1 : List Int} {x : Bool} (H : f19 a0 a1 = some x) : ICalls E 19 [(.agg ⟨[(VS 2 (a0.map e_II)), (VS 1 (a1.map eI))]⟩)] AHeap.none fun v _ => v = (.bool x) := by
  refine icalls_fn (pfnw ?_); unfold f19 at H;(conv=>whnf);refine pwa ?_;(conv=>whnf);refine pw_so ?_;refine po_ops 5 ?_;(conv=>whnf);obtain ⟨r1, h2, H⟩ := obnd_some H;refine po_seg (τ := Bool) 4 (fun e => ⟨[(11, (.bool e))], ⟨1, [(0, .rw [(VS 2 (a0.map e_II)), (VS 1 (a1.map eI))])], false⟩⟩) r1 ?_ ?_
  · refine po_all ?_;(conv=>whnf);refine pbr_oite h2 (fun g3 h2 => ?_) (fun g3 h2 => ?_)
    · (conv=>whnf);(iterate 3 refine pbr_t g3 ?_;(conv=>whnf));cases h2;exact ⟨(.cons rfl .nil), rfl⟩
    · (conv=>whnf);refine pbr_f g3 ?_;(conv=>whnf);obtain ⟨y4, h5, h2⟩ := obnd_some h2;refine (c27 h5).go ?_;(conv=>whnf);refine pbr_f g3 ?_;(conv=>whnf);refine pbr_f g3 ?_;(conv=>whnf);cases h2;exact ⟨(.cons rfl .nil), rfl⟩
  · refine po_all ?_;(conv=>whnf);refine pw_ret ?_;(conv=>whnf);cases H; rfl

/-- guidevane/guidevaneref09.CopyValley -/
noncomputable def f21  (a0 : List (Int × Int)) (a1 : List Int) : Option ((List (Int × Int)) × (List Int)) :=
 ogrd (fits 16 (([] : List (Int × Int)).length + a0.length)) (
 obnd (f38 a1) fun (y1 : (List Int)) =>
 some ((([] : List (Int × Int)) ++ a0), y1))
theorem c21  {a0 : List (Int × Int)} {a1 : List Int} {x : (List (Int × Int)) × (List Int)} (H : f21 a0 a1 = some x) : ICalls E 21 [(.agg ⟨[(VS 2 (a0.map e_II)), (VS 1 (a1.map eI))]⟩)] AHeap.none fun v _ => v = (.agg ⟨[(VS 2 (x.1.map e_II)), (VS 1 (x.2.map eI))]⟩) := by
  refine ICalls.frz ?_;refine icalls_fn (pfnw ?_); unfold f21 at H;(conv=>whnf);refine pwa ?_;(conv=>whnf);refine pw_sd ?_;(conv=>whnf);refine ⟨?_, trivial⟩;(conv=>whnf);refine ⟨by trivial,?_⟩;(conv=>whnf);refine ⟨?_, trivial⟩;(conv=>whnf);refine app_o (l := ([] : List (Int × Int))) (m := a0) (f := e_II) H (by rfl) (by rfl) (by rfl) (fun H => ?_);(conv=>whnf);refine ⟨by trivial,?_⟩;(conv=>whnf);refine ⟨?_, trivial⟩;(conv=>whnf);obtain ⟨y1, h2, H⟩ := obnd_some H;refine ICalls.goFW (c38 h2) (.cons (.refl _) .nil) ?_
  (conv=>whnf);refine ⟨by trivial,?_⟩;(conv=>whnf);refine ⟨?_, trivial⟩;(conv=>whnf);refine ⟨by trivial,?_⟩;(conv=>whnf);refine pw_ret ?_;(conv=>whnf);cases H; show ∃ D, Fz _ D 0 (.agg ⟨[(VT 2 _ 2), (VT 1 _ 3)]⟩) _;exact ⟨fun _ => false, .aggl (.cons .vtc (.cons .vtc (.nil)))⟩

/-- slices.IndexFunc[[]guidevane/api.DamSiren,guidevane/api.DamSiren] -/
noncomputable def f68 [LO] (p0 : Int → Int → Option Bool) (a0 : List (Int × Int)) : Option Int :=
 obndS (
 oloop (τ := Int) (ρ := (Unit) ⊕ Int) (fun e5 =>
 oite ((ilt e5 ((a0.map e_II).length : Int))) (
 ogrd ((ile 0 e5)) (
 obnd (a0[e5.toNat]?) fun (x10 : Int × Int) =>
 obnd (p0 x10.1 x10.2) fun (y11 : Bool) =>
 oite y11 (
 some (.inr (.inr (e5)))
 ) (
 some (.inl (IntKind.i64.wrap (e5 + (1 : Int))))))
 ) (
 some (.inr (.inl ())))
 ) (0 : Int)
 ) fun (_ : Unit) =>
 some (-1 : Int)
theorem c68 [LO] {p0 : Int → Int → Option Bool} {a0 : List (Int × Int)} {g0 : Value} [Cl g0] (hp0 : ∀ y0 y1 y, p0 y0 y1 = some y → ICallV E g0 [(.agg ⟨[(.int .i64 y0), (.int .i64 y1)]⟩)] AHeap.none fun v _ => v = (.bool y)) {x : Int} (H : f68 p0 a0 = some x) : ICalls E 68 [(VS 2 (a0.map e_II)), g0] AHeap.none fun v _ => v = (.int .i64 x) := by
  refine icalls_fn (pfnw ?_); unfold f68 at H;(conv=>whnf);refine pwa ?_;(conv=>whnf);obtain ⟨r1, h2, h3, h4⟩ := obndS_some H;refine pw_joinS (ρ := Unit) (fun e => ⟨[], ⟨0, [], false⟩⟩) r1 ?_ ?_
  · refine pwa ?_;(conv=>whnf);refine pw_block ?_;refine pw_loop (τ := Int) (fun e => ⟨[(0, (VS 2 (a0.map e_II))), (1, g0), (7, (.int .i64 ((a0.map e_II).length : Int))), (8, (.int .i64 e))], ⟨0, [], false⟩⟩) h2 ?_ (fun _ => nl rfl) ?_
    · exact .sub' (nl rfl) (.cons rfl (.cons rfl (.cons rfl (.cons rfl .nil))))
    · intro e5 x6 h7;refine pwa ?_;(conv=>whnf);refine pw_seq ?_;refine pw_cond ?_;(conv=>whnf);refine pbr_oite h7 (fun g8 h7 => ?_) (fun g8 h7 => ?_)
      · (conv=>whnf);refine pw_skip ?_;(conv=>whnf);refine pw_seq ?_;refine pw_block ?_;refine pwa ?_;(conv=>whnf);refine pwa ?_;(conv=>whnf);refine pbr_ogrd h7 (fun g9 h7 => ?_);(conv=>whnf);refine nth_o (l := a0) h7 (fun x10 _ h7 => ?_);(conv=>whnf);obtain ⟨y11, h12, h7⟩ := obnd_some h7;refine ICallV.go (hp0 _ _ _ h12) ?_;(conv=>whnf);refine pw_cond ?_;(conv=>whnf);refine pbr_oite h7 (fun g13 h7 => ?_) (fun g13 h7 => ?_)
        · (conv=>whnf);refine pwa ?_;(conv=>whnf);refine pw_ret ?_;(conv=>whnf);cases h7;refine ⟨_, rfl, ?_⟩; rintro rfl;(conv=>whnf);obtain rfl := h4 _ rfl; rfl
        · (conv=>whnf);refine pw_skip ?_;(conv=>whnf);refine pw_ops ?_;refine po_all ?_;(conv=>whnf);cases h7;refine ⟨_, rfl, ?_⟩;exact .sub' (nl rfl) (.cons rfl (.cons rfl (.cons rfl (.cons rfl .nil))))
      · (conv=>whnf);refine pw_exit ?_;(conv=>whnf);cases h7;refine ⟨_, rfl, ?_⟩; rintro rfl;(conv=>whnf);exact ⟨_, rfl, ⟨.nil, rfl⟩⟩
  · intro r16 hr; have H := h3 _ hr;refine pwa ?_;(conv=>whnf);refine pw_ret ?_;(conv=>whnf);cases H; rfl

/-- guidevane/dam.within -/
noncomputable def f65  (a0 : Int) (a1 : Int) (a2 : Int) : Option Bool :=
 obnd (
 oite ((ile a1 a0)) (
 some (ile a0 a2)
 ) (
 some false)
 ) fun (r1 : Bool) =>
 some r1
theorem c65  {a0 : Int} {a1 : Int} {a2 : Int} {x : Bool} (H : f65 a0 a1 a2 = some x) : ICalls E 65 [(.int .i64 a0), (.int .i64 a1), (.int .i64 a2)] AHeap.none fun v _ => v = (.bool x) := by
  refine icalls_fn (pfnw ?_); unfold f65 at H;(conv=>whnf);refine pwa ?_;(conv=>whnf);refine pw_so ?_;refine po_ops 4 ?_;(conv=>whnf);obtain ⟨r1, h2, H⟩ := obnd_some H;refine po_seg (τ := Bool) 4 (fun e => ⟨[(14, (.bool e))], ⟨0, [], false⟩⟩) r1 ?_ ?_
  · refine po_all ?_;(conv=>whnf);refine pbr_oite h2 (fun g3 h2 => ?_) (fun g3 h2 => ?_)
    · (conv=>whnf);(iterate 3 refine pbr_t g3 ?_;(conv=>whnf));cases h2;exact ⟨(.cons rfl .nil), rfl⟩
    · (conv=>whnf);(iterate 3 refine pbr_f g3 ?_;(conv=>whnf));cases h2;exact ⟨(.cons rfl .nil), rfl⟩
  · refine po_all ?_;(conv=>whnf);refine pw_ret ?_;(conv=>whnf);cases H; rfl

/-- guidevane/dam.CheckValley$1 -/
noncomputable def f67  (a0 : Int) : Option Bool :=
 obnd (f65 a0 (0 : Int) (1000000 : Int)) fun (y1 : Bool) =>
 some y1
theorem c67  {a0 : Int} {x : Bool} (H : f67 a0 = some x) : ICalls E 67 [(.int .i64 a0)] AHeap.none fun v _ => v = (.bool x) := by
  refine icalls_fn (pfnw ?_); unfold f67 at H;(conv=>whnf);refine pwa ?_;(conv=>whnf);refine pwa ?_;(conv=>whnf);obtain ⟨y1, h2, H⟩ := obnd_some H;refine (c65 h2).go ?_;(conv=>whnf);refine pw_ret ?_;(conv=>whnf);cases H; rfl

/-- guidevane/dam.CheckValley$2 -/
noncomputable def f69  (a0 : Int) (a1 : Int) : Option Bool :=
 obnd (f67 a0) fun (y1 : Bool) =>
 obnd (
 oite (!y1) (
 some true
 ) (
 obnd (f67 a1) fun (y6 : Bool) =>
 some (!y6))
 ) fun (r3 : Bool) =>
 some r3
theorem c69  {a0 : Int} {a1 : Int} {x : Bool} (H : f69 a0 a1 = some x) : ICallV E (.func (.func (E.id 69)) ⟨[]⟩ ⟨[(VP (.agg ⟨[(.func (.func (E.id 67)) ⟨[]⟩ ⟨[]⟩)]⟩) 0)]⟩) [(.agg ⟨[(.int .i64 a0), (.int .i64 a1)]⟩)] AHeap.none fun v _ => v = (.bool x) := by
  refine icallv_fn (pfnw ?_); unfold f69 at H;(conv=>whnf);refine pwa ?_;(conv=>whnf);refine pw_so ?_;refine po_ops 6 ?_;(conv=>whnf);obtain ⟨y1, h2, H⟩ := obnd_some H;refine ICallV.go (c67 h2).asV ?_;(conv=>whnf);obtain ⟨r3, h4, H⟩ := obnd_some H;refine po_seg (τ := Bool) 6 (fun e => ⟨[(15, (.bool e))], ⟨1, [(0, .rw [(.int .i64 a0), (.int .i64 a1)])], false⟩⟩) r3 ?_ ?_
  · refine po_all ?_;(conv=>whnf);refine pbr_oite h4 (fun g5 h4 => ?_) (fun g5 h4 => ?_)
    · (conv=>whnf);(iterate 5 refine pbr_t g5 ?_;(conv=>whnf));cases h4;exact ⟨(.cons rfl .nil), rfl⟩
    · (conv=>whnf);(iterate 3 refine pbr_f g5 ?_;(conv=>whnf));obtain ⟨y6, h7, h4⟩ := obnd_some h4;refine ICallV.go (c67 h7).asV ?_;(conv=>whnf);refine pbr_f g5 ?_;(conv=>whnf);refine pbr_f g5 ?_;(conv=>whnf);cases h4;exact ⟨(.cons rfl .nil), rfl⟩
  · refine po_all ?_;(conv=>whnf);refine pw_ret ?_;(conv=>whnf);cases H; rfl

/-- slices.IndexFunc[[]int,int] -/
noncomputable def f70 [LO] (p0 : Int → Option Bool) (a0 : List Int) : Option Int :=
 obndS (
 oloop (τ := Int) (ρ := (Unit) ⊕ Int) (fun e5 =>
 oite ((ilt e5 ((a0.map eI).length : Int))) (
 ogrd ((ile 0 e5)) (
 obnd (a0[e5.toNat]?) fun (x10 : Int) =>
 obnd (p0 x10) fun (y11 : Bool) =>
 oite y11 (
 some (.inr (.inr (e5)))
 ) (
 some (.inl (IntKind.i64.wrap (e5 + (1 : Int))))))
 ) (
 some (.inr (.inl ())))
 ) (0 : Int)
 ) fun (_ : Unit) =>
 some (-1 : Int)
theorem c70 [LO] {p0 : Int → Option Bool} {a0 : List Int} {g0 : Value} [Cl g0] (hp0 : ∀ y0 y, p0 y0 = some y → ICallV E g0 [(.int .i64 y0)] AHeap.none fun v _ => v = (.bool y)) {x : Int} (H : f70 p0 a0 = some x) : ICalls E 70 [(VS 1 (a0.map eI)), g0] AHeap.none fun v _ => v = (.int .i64 x) := by
  refine icalls_fn (pfnw ?_); unfold f70 at H;(conv=>whnf);refine pwa ?_;(conv=>whnf);obtain ⟨r1, h2, h3, h4⟩ := obndS_some H;refine pw_joinS (ρ := Unit) (fun e => ⟨[], ⟨0, [], false⟩⟩) r1 ?_ ?_
  · refine pwa ?_;(conv=>whnf);refine pw_block ?_;refine pw_loop (τ := Int) (fun e => ⟨[(0, (VS 1 (a0.map eI))), (1, g0), (7, (.int .i64 ((a0.map eI).length : Int))), (8, (.int .i64 e))], ⟨0, [], false⟩⟩) h2 ?_ (fun _ => nl rfl) ?_
    · exact .sub' (nl rfl) (.cons rfl (.cons rfl (.cons rfl (.cons rfl .nil))))
    · intro e5 x6 h7;refine pwa ?_;(conv=>whnf);refine pw_seq ?_;refine pw_cond ?_;(conv=>whnf);refine pbr_oite h7 (fun g8 h7 => ?_) (fun g8 h7 => ?_)
      · (conv=>whnf);refine pw_skip ?_;(conv=>whnf);refine pw_seq ?_;refine pw_block ?_;refine pwa ?_;(conv=>whnf);refine pwa ?_;(conv=>whnf);refine pbr_ogrd h7 (fun g9 h7 => ?_);(conv=>whnf);refine nth_o (l := a0) h7 (fun x10 _ h7 => ?_);(conv=>whnf);obtain ⟨y11, h12, h7⟩ := obnd_some h7;refine ICallV.go (hp0 _ _ h12) ?_;(conv=>whnf);refine pw_cond ?_;(conv=>whnf);refine pbr_oite h7 (fun g13 h7 => ?_) (fun g13 h7 => ?_)
        · (conv=>whnf);refine pwa ?_;(conv=>whnf);refine pw_ret ?_;(conv=>whnf);cases h7;refine ⟨_, rfl, ?_⟩; rintro rfl;(conv=>whnf);obtain rfl := h4 _ rfl; rfl
        · (conv=>whnf);refine pw_skip ?_;(conv=>whnf);refine pw_ops ?_;refine po_all ?_;(conv=>whnf);cases h7;refine ⟨_, rfl, ?_⟩;exact .sub' (nl rfl) (.cons rfl (.cons rfl (.cons rfl (.cons rfl .nil))))
      · (conv=>whnf);refine pw_exit ?_;(conv=>whnf);cases h7;refine ⟨_, rfl, ?_⟩; rintro rfl;(conv=>whnf);exact ⟨_, rfl, ⟨.nil, rfl⟩⟩
  · intro r16 hr; have H := h3 _ hr;refine pwa ?_;(conv=>whnf);refine pw_ret ?_;(conv=>whnf);cases H; rfl

/-- guidevane/dam.CheckValley$3 -/
noncomputable def f71  (a0 : Int) : Option Bool :=
 obnd (f67 a0) fun (y1 : Bool) =>
 some (!y1)
theorem c71  {a0 : Int} {x : Bool} (H : f71 a0 = some x) : ICallV E (.func (.func (E.id 71)) ⟨[]⟩ ⟨[(VP (.agg ⟨[(.func (.func (E.id 67)) ⟨[]⟩ ⟨[]⟩)]⟩) 0)]⟩) [(.int .i64 a0)] AHeap.none fun v _ => v = (.bool x) := by
  refine icallv_fn (pfnw ?_); unfold f71 at H;(conv=>whnf);refine pwa ?_;(conv=>whnf);refine pwa ?_;(conv=>whnf);obtain ⟨y1, h2, H⟩ := obnd_some H;refine ICallV.go (c67 h2).asV ?_;(conv=>whnf);refine pw_ret ?_;(conv=>whnf);cases H; rfl

/-- guidevane/dam.CheckValley -/
noncomputable def f20 [LO]  (a0 : List (Int × Int)) (a1 : List Int) : Option (Int × Int) :=
 obnd (
 oite ((ilt (20 : Int) ((a0.map e_II).length : Int))) (
 some true
 ) (
 some (ilt (40 : Int) ((a1.map eI).length : Int)))
 ) fun (r1 : Bool) =>
 oite r1 (
 some ((0 : Int), (8 : Int))
 ) (
 obnd (f68 (fun (z0 : Int) (z1 : Int) => f69 z0 z1) a0) fun (y7 : Int) =>
 oite ((ile (0 : Int) y7)) (
 some (y7, (2 : Int))
 ) (
 obnd (f70 (fun (z0 : Int) => f71 z0) a1) fun (y10 : Int) =>
 oite ((ile (0 : Int) y10)) (
 some (y10, (2 : Int))
 ) (
 some ((0 : Int), (0 : Int)))))
theorem c20 [LO]  {a0 : List (Int × Int)} {a1 : List Int} {x : Int × Int} (H : f20 a0 a1 = some x) : ICalls E 20 [(.agg ⟨[(VS 2 (a0.map e_II)), (VS 1 (a1.map eI))]⟩)] AHeap.none fun v _ => v = (.tuple ⟨[(.int .i64 x.1), (.int .i64 x.2)]⟩) := by
  refine icalls_fn (pfnw ?_); unfold f20 at H;(conv=>whnf);refine pwa ?_;(conv=>whnf);refine pw_seq ?_;obtain ⟨r1, h2, H⟩ := obnd_some H;refine pw_join (ρ := Bool) (fun e => ⟨[(1, (.pointer (some ⟨0, 0, none⟩))), (16, (.bool e))], ⟨1, [(0, .rw [(VS 2 (a0.map e_II)), (VS 1 (a1.map eI))])], false⟩⟩) r1 ?_ ?_
  · refine pw_ops ?_;refine po_all ?_;(conv=>whnf);refine pbr_oite h2 (fun g5 h2 => ?_) (fun g5 h2 => ?_)
    · (conv=>whnf);(iterate 4 refine pbr_t g5 ?_;(conv=>whnf));cases h2;exact ⟨(.cons rfl (.cons rfl .nil)), rfl⟩
    · (conv=>whnf);(iterate 4 refine pbr_f g5 ?_;(conv=>whnf));cases h2;exact ⟨(.cons rfl (.cons rfl .nil)), rfl⟩
  · refine pw_cond ?_;(conv=>whnf);refine pbr_oite H (fun g6 H => ?_) (fun g6 H => ?_)
    · (conv=>whnf);refine pwa ?_;(conv=>whnf);refine pw_ret ?_;(conv=>whnf);cases H; rfl
    · (conv=>whnf);refine pw_skip ?_;(conv=>whnf);refine pwa ?_;(conv=>whnf);refine pw_seq ?_;refine pwa ?_;(conv=>whnf);obtain ⟨y7, h8, H⟩ := obnd_some H;refine ICalls.goD (c68 (fun _ _ _ h => (c69 h)) h8) (.cons .cl (.cons (.func .nil (.cons (.ptr rfl (by intro v hv; simp only [List.mem_cons, List.not_mem_nil, or_false] at hv; rcases hv with rfl <;> rfl)) .nil)) .nil)) rfl ?_;(conv=>whnf);refine pwa ?_;(conv=>whnf);refine pw_cond ?_;(conv=>whnf);refine pbr_oite H (fun g9 H => ?_) (fun g9 H => ?_)
      · (conv=>whnf);refine pwa ?_;(conv=>whnf);refine pw_ret ?_;(conv=>whnf);cases H; rfl
      · (conv=>whnf);refine pw_skip ?_;(conv=>whnf);refine pw_seq ?_;refine pwa ?_;(conv=>whnf);obtain ⟨y10, h11, H⟩ := obnd_some H;refine ICalls.goD (c70 (fun _ _ h => (c71 h)) h11) (.cons .cl (.cons (.func .nil (.cons (.ptr rfl (by intro v hv; simp only [List.mem_cons, List.not_mem_nil, or_false] at hv; rcases hv with rfl <;> rfl)) .nil)) .nil)) rfl ?_;(conv=>whnf);refine pwa ?_;(conv=>whnf);refine pw_cond ?_;(conv=>whnf);refine pbr_oite H (fun g12 H => ?_) (fun g12 H => ?_)
        · (conv=>whnf);refine pwa ?_;(conv=>whnf);refine pw_ret ?_;(conv=>whnf);cases H; rfl
        · (conv=>whnf);refine pw_skip ?_;(conv=>whnf);refine pwa ?_;(conv=>whnf);refine pw_ret ?_;(conv=>whnf);cases H; rfl

/-- slices.ContainsFunc[[]int,int] -/
noncomputable def f80 [LO] (p0 : Int → Option Bool) (a0 : List Int) : Option Bool :=
 obnd (f70 p0 a0) fun (y1 : Int) =>
 some (ile (0 : Int) y1)
theorem c80 [LO] {p0 : Int → Option Bool} {a0 : List Int} {g0 : Value} [Cl g0] (hp0 : ∀ y0 y, p0 y0 = some y → ICallV E g0 [(.int .i64 y0)] AHeap.none fun v _ => v = (.bool y)) {x : Bool} (H : f80 p0 a0 = some x) : ICalls E 80 [(VS 1 (a0.map eI)), g0] AHeap.none fun v _ => v = (.bool x) := by
  refine icalls_fn (pfnw ?_); unfold f80 at H;(conv=>whnf);refine pwa ?_;(conv=>whnf);refine pwa ?_;(conv=>whnf);obtain ⟨y1, h2, H⟩ := obnd_some H;refine (c70 hp0 h2).go ?_;(conv=>whnf);refine pw_ret ?_;(conv=>whnf);cases H; rfl

/-- guidevane/dam.size -/
noncomputable def f100  (a0 : Int) : Option Int :=
 some (imax a0 (IntKind.i64.wrap (0 - a0)))
theorem c100  {a0 : Int} {x : Int} (H : f100 a0 = some x) : ICalls E 100 [(.int .i64 a0)] AHeap.none fun v _ => v = (.int .i64 x) := by
  refine icalls_fn (pfnw ?_); unfold f100 at H;(conv=>whnf);refine pwa ?_;(conv=>whnf);refine pwa ?_;(conv=>whnf);refine pw_ret ?_;(conv=>whnf);cases H; rfl

/-- (guidevane/dam.valley).hears -/
noncomputable def f105  (_ : List (Int × Int)) (a1 : List Int) (a2 : Int) (a3 : Int) (a4 : Int) : Option Bool :=
 ogrd ((ile 0 a2)) (
 obnd (a1[a2.toNat]?) fun (x2 : Int) =>
 obnd (f100 (IntKind.i64.wrap (x2 - a3))) fun (y3 : Int) =>
 some (ile y3 a4))
theorem c105  {a0 : List (Int × Int)} {a1 : List Int} {a2 : Int} {a3 : Int} {a4 : Int} {x : Bool} (H : f105 a0 a1 a2 a3 a4 = some x) : ICalls E 105 [(.agg ⟨[(VS 2 (a0.map e_II)), (VS 1 (a1.map eI))]⟩), (.int .i64 a2), (.agg ⟨[(.int .i64 a3), (.int .i64 a4)]⟩)] AHeap.none fun v _ => v = (.bool x) := by
  refine icalls_fn (pfnw ?_); unfold f105 at H;(conv=>whnf);refine pwa ?_;(conv=>whnf);refine pw_sd ?_;(conv=>whnf);refine pbr_ogrd H (fun g1 H => ?_);(conv=>whnf);refine nth_o (l := a1) H (fun x2 _ H => ?_);(conv=>whnf);refine ⟨?_, trivial⟩;(conv=>whnf);obtain ⟨y3, h4, H⟩ := obnd_some H;refine (c100 h4).go ?_;(conv=>whnf);refine ⟨by trivial,?_⟩;(conv=>whnf);refine pw_ret ?_;(conv=>whnf);cases H; rfl

/-- (guidevane/dam.valley).sweep$1 -/
noncomputable def f104  (a0 : Int) (a1 : List (Int × Int)) (a2 : List Int) (a3 : Int) : Option Bool :=
 ogrd ((ile 0 a0)) (
 obnd (a1[a0.toNat]?) fun (x2 : Int × Int) =>
 obnd (f105 a1 a2 a3 x2.1 x2.2) fun (y3 : Bool) =>
 some y3)
theorem c104  {a0 : Int} {a1 : List (Int × Int)} {a2 : List Int} {a3 : Int} {x : Bool} (H : f104 a0 a1 a2 a3 = some x) : ICallV E (.func (.func (E.id 104)) ⟨[]⟩ ⟨[(VP (.agg ⟨[(VS 2 (a1.map e_II)), (VS 1 (a2.map eI))]⟩) 0), (VP (.agg ⟨[(.int .i64 a3)]⟩) 0)]⟩) [(.int .i64 a0)] AHeap.none fun v _ => v = (.bool x) := by
  refine icallv_fn (pfnw ?_); unfold f104 at H;(conv=>whnf);refine pwa ?_;(conv=>whnf);refine pw_sd ?_;(conv=>whnf);refine pbr_ogrd H (fun g1 H => ?_);(conv=>whnf);refine nth_o (l := a1) H (fun x2 _ H => ?_);(conv=>whnf);refine ⟨?_, trivial⟩;(conv=>whnf);obtain ⟨y3, h4, H⟩ := obnd_some H;refine (c105 h4).go ?_;(conv=>whnf);refine ⟨by trivial,?_⟩;(conv=>whnf);refine pw_ret ?_;(conv=>whnf);cases H; rfl

/-- slices.insertionSortCmpFunc[int] -/
noncomputable def f136 [LO] (p0 : Int → Int → Option Int) (a0 : List Int) (a1 : Int) (a2 : Int) : Option ((List Int)) :=
 oloop (τ := Int × (List Int)) (ρ := (List Int)) (fun e1 =>
 oite ((ilt e1.1 a2)) (
 obnd (
 oloop (τ := Int × (List Int)) (ρ := (List Int)) (fun e9 =>
 oite ((ilt a1 e9.1)) (
 ogrd ((ile 0 e9.1)) (
 ogrd ((ilt e9.1 (a0.length : Int))) (
 obnd (e9.2[e9.1.toNat]?) fun (x15 : Int) =>
 ogrd ((ile 0 (IntKind.i64.wrap (e9.1 - (1 : Int))))) (
 ogrd ((ilt (IntKind.i64.wrap (e9.1 - (1 : Int))) (a0.length : Int))) (
 obnd (e9.2[(IntKind.i64.wrap (e9.1 - (1 : Int))).toNat]?) fun (x20 : Int) =>
 obnd (p0 x15 x20) fun (y23 : Int) =>
 oite ((ilt y23 (0 : Int))) (
 obnd (e9.2[(IntKind.i64.wrap (e9.1 - (1 : Int))).toNat]?) fun (x26 : Int) =>
 obnd (e9.2[e9.1.toNat]?) fun (x29 : Int) =>
 ogrd (Nat.blt e9.1.toNat e9.2.length) (
 ogrd (Nat.blt (IntKind.i64.wrap (e9.1 - (1 : Int))).toNat (e9.2.set e9.1.toNat x26).length) (
 some (.inl (((IntKind.i64.wrap (e9.1 - (1 : Int))), ((e9.2.set e9.1.toNat x26).set (IntKind.i64.wrap (e9.1 - (1 : Int))).toNat x29))))))
 ) (
 some (.inr (e9.2)))))))
 ) (
 some (.inr (e9.2)))
 ) (e1.1, e1.2)
 ) fun (r5 : (List Int)) =>
 some (.inl ((IntKind.i64.wrap (e1.1 + (1 : Int))), r5))
 ) (
 some (.inr (e1.2)))
 ) ((IntKind.i64.wrap (a1 + (1 : Int))), a0)
theorem c136 [LO] {p0 : Int → Int → Option Int} {a0 : List Int} {a1 : Int} {a2 : Int} {g0 : Value} [Cl g0] (hp0 : ∀ y0 y1 y, p0 y0 y1 = some y → ICallV E g0 [(.int .i64 y0), (.int .i64 y1)] AHeap.none fun v _ => v = (.int .i64 y)) {x : (List Int)} (H : f136 p0 a0 a1 a2 = some x) : ICalls E 136 [(.slice (some ⟨0, 0, none⟩) a0.length 1), (.int .i64 a1), (.int .i64 a2), g0] (hOne a0) fun v h'' => v = .tuple #[] ∧ h'' = hOne x := by
  refine icalls_fn (pfnw ?_); unfold f136 at H;(conv=>whnf);refine pwa ?_;(conv=>whnf);refine pw_block ?_;refine pw_loop (τ := Int × (List Int)) (fun e => ⟨[(0, (.slice (some ⟨0, 0, none⟩) a0.length 1)), (1, (.int .i64 a1)), (2, (.int .i64 a2)), (3, g0), (8, (.int .i64 e.1))], ⟨1, [(0, .rw (e.2.map eI))], true⟩⟩) H ?_ (fun _ => nl rfl) ?_
  · exact .sub' (nl rfl) (.cons rfl (.cons rfl (.cons rfl (.cons rfl (.cons rfl .nil)))))
  · intro e1 x2 h3;refine pw_seq ?_;refine pwa ?_;(conv=>whnf);refine pw_cond ?_;(conv=>whnf);refine pbr_oite h3 (fun g4 h3 => ?_) (fun g4 h3 => ?_)
    · (conv=>whnf);refine pw_skip ?_;(conv=>whnf);obtain ⟨r5, h6, h3⟩ := obnd_some h3;refine pw_join (ρ := (List Int)) (fun e => ⟨[(0, (.slice (some ⟨0, 0, none⟩) a0.length 1)), (1, (.int .i64 a1)), (2, (.int .i64 a2)), (3, g0), (8, (.int .i64 e1.1))], ⟨1, [(0, .rw (e.map eI))], true⟩⟩) r5 ?_ ?_
      · refine pw_block ?_;refine pwa ?_;(conv=>whnf);refine pw_block ?_;refine pw_loop (τ := Int × (List Int)) (fun e => ⟨[(0, (.slice (some ⟨0, 0, none⟩) a0.length 1)), (1, (.int .i64 a1)), (2, (.int .i64 a2)), (3, g0), (8, (.int .i64 e1.1)), (9, (.int .i64 e.1))], ⟨1, [(0, .rw (e.2.map eI))], true⟩⟩) h6 ?_ (fun _ => nl rfl) ?_
        · exact .sub' (nl rfl) (.cons rfl (.cons rfl (.cons rfl (.cons rfl (.cons rfl (.cons rfl .nil))))))
        · intro e9 x10 h11;refine pw_seq ?_;refine pw_sd ?_;(conv=>whnf);refine pbr_oite h11 (fun g12 h11 => ?_) (fun g12 h11 => ?_)
          · (conv=>whnf);(iterate 3 refine pbr_t g12 ?_;(conv=>whnf));refine pbr_ogrd h11 (fun g13 h11 => ?_);(conv=>whnf);refine pbr_ogrd h11 (fun g14 h11 => ?_);(conv=>whnf);refine pbr_t g12 ?_;(conv=>whnf);refine nth_a (l := e9.2) (f := eI) h11 (fun x15 h16 h11 => ?_);(conv=>whnf);(iterate 4 refine pbr_t g12 ?_;(conv=>whnf));refine pbr_ogrd h11 (fun g18 h11 => ?_);(conv=>whnf);refine pbr_ogrd h11 (fun g19 h11 => ?_);(conv=>whnf);refine pbr_t g12 ?_;(conv=>whnf);refine nth_a (l := e9.2) (f := eI) h11 (fun x20 h21 h11 => ?_)
            (conv=>whnf);refine ⟨?_, trivial⟩;(conv=>whnf);refine pbr_t g12 ?_;(conv=>whnf);obtain ⟨y23, h24, h11⟩ := obnd_some h11;refine ICallV.go (hp0 _ _ _ h24) ?_;(conv=>whnf);refine ⟨by repeat (first | exact trivial | refine And.intro rfl ?_ | refine And.intro (lev_a (l := e9.2) (f := eI) rfl h16) ?_ | refine And.intro (lev_a (l := e9.2) (f := eI) rfl h21) ?_), ?_⟩;(conv=>whnf);refine pbr_t g12 ?_;(conv=>whnf);refine pbr_t g12 ?_;(conv=>whnf);refine pw_cond ?_;(conv=>whnf);refine pbr_oite h11 (fun g25 h11 => ?_) (fun g25 h11 => ?_)
            · (conv=>whnf);refine pw_skip ?_;(conv=>whnf);refine pw_seq ?_;refine pw_block ?_;refine pw_draw ?_;(conv=>whnf);refine pbr_t g18 ?_;(conv=>whnf);refine pbr_t g19 ?_;(conv=>whnf);refine nth_a (l := e9.2) (f := eI) h11 (fun x26 h27 h11 => ?_);(conv=>whnf);refine pbr_t g13 ?_;(conv=>whnf);refine pbr_t g14 ?_;(conv=>whnf);refine nth_a (l := e9.2) (f := eI) h11 (fun x29 h30 h11 => ?_);(conv=>whnf);refine pbr_t g13 ?_;(conv=>whnf);refine pbr_t g14 ?_;(conv=>whnf);refine ⟨?_, trivial⟩;(conv=>whnf);obtain ⟨g32, h11⟩ := ogrd_some h11;refine set_a (l := e9.2) (f := eI) (x := x26) g32 rfl ?_;(conv=>whnf);refine ⟨by repeat (first | exact trivial | refine And.intro rfl ?_ | refine And.intro (lev_a (l := e9.2) (f := eI) rfl h27) ?_ | refine And.intro (lev_a (l := e9.2) (f := eI) rfl h30) ?_), ?_⟩
              (conv=>whnf);refine pbr_t g18 ?_;(conv=>whnf);refine pbr_t g19 ?_;(conv=>whnf);refine ⟨?_, trivial⟩;(conv=>whnf);obtain ⟨g33, h11⟩ := ogrd_some h11;refine set_a (l := (e9.2.set e9.1.toNat x26)) (f := eI) (x := x29) g33 rfl ?_;(conv=>whnf);refine ⟨by repeat (first | exact trivial | refine And.intro rfl ?_ | refine And.intro (lev_a (l := e9.2) (f := eI) rfl h27) ?_ | refine And.intro (lev_a (l := e9.2) (f := eI) rfl h30) ?_), ?_⟩;(conv=>whnf);refine pw_ops ?_;refine po_all ?_;(conv=>whnf);cases h11;refine ⟨_, rfl, ?_⟩;exact .sub' (nl rfl) (.cons rfl (.cons rfl (.cons rfl (.cons rfl (.cons rfl (.cons rfl .nil))))))
            · (conv=>whnf);refine pw_exit ?_;(conv=>whnf);cases h11;refine ⟨_, rfl, ?_⟩; rintro rfl;(conv=>whnf);exact ⟨by (repeat refine .cons rfl ?_);exact .nil,rfl⟩
          · (conv=>whnf);(iterate 9 refine pbr_f g12 ?_;(conv=>whnf));refine ⟨?_, trivial⟩;(conv=>whnf);(iterate 3 refine pbr_f g12 ?_;(conv=>whnf));refine pw_cond ?_;(conv=>whnf);refine pw_exit ?_;(conv=>whnf);cases h11;refine ⟨_, rfl, ?_⟩; rintro rfl;(conv=>whnf);exact ⟨by (repeat refine .cons rfl ?_);exact .nil,rfl⟩
      · refine pw_ops ?_;refine po_all ?_;(conv=>whnf);cases h3;refine ⟨_, rfl, ?_⟩;exact .sub' (nl rfl) (.cons rfl (.cons rfl (.cons rfl (.cons rfl (.cons rfl .nil)))))
    · (conv=>whnf);refine pw_exit ?_;(conv=>whnf);cases h3;refine ⟨_, rfl, ?_⟩; rintro rfl;(conv=>whnf);exact ⟨rfl, rfl⟩

/-- slices.swapRangeCmpFunc[int] -/
noncomputable def f147 [LO] (p0 : Int → Int → Option Int) (a0 : List Int) (a1 : Int) (a2 : Int) (a3 : Int) : Option ((List Int)) :=
 oloop (τ := Int × (List Int)) (ρ := (List Int)) (fun e1 =>
 oite ((ilt e1.1 a3)) (
 ogrd ((ile 0 (IntKind.i64.wrap (a2 + e1.1)))) (
 ogrd ((ilt (IntKind.i64.wrap (a2 + e1.1)) (a0.length : Int))) (
 obnd (e1.2[(IntKind.i64.wrap (a2 + e1.1)).toNat]?) fun (x7 : Int) =>
 ogrd ((ile 0 (IntKind.i64.wrap (a1 + e1.1)))) (
 ogrd ((ilt (IntKind.i64.wrap (a1 + e1.1)) (a0.length : Int))) (
 obnd (e1.2[(IntKind.i64.wrap (a1 + e1.1)).toNat]?) fun (x12 : Int) =>
 ogrd (Nat.blt (IntKind.i64.wrap (a1 + e1.1)).toNat e1.2.length) (
 ogrd (Nat.blt (IntKind.i64.wrap (a2 + e1.1)).toNat (e1.2.set (IntKind.i64.wrap (a1 + e1.1)).toNat x7).length) (
 some (.inl (((IntKind.i64.wrap (e1.1 + (1 : Int))), ((e1.2.set (IntKind.i64.wrap (a1 + e1.1)).toNat x7).set (IntKind.i64.wrap (a2 + e1.1)).toNat x12))))))))))
 ) (
 some (.inr (e1.2)))
 ) ((0 : Int), a0)
theorem c147 [LO] {p0 : Int → Int → Option Int} {a0 : List Int} {a1 : Int} {a2 : Int} {a3 : Int} {g0 : Value} [Cl g0] (hp0 : ∀ y0 y1 y, p0 y0 y1 = some y → ICallV E g0 [(.int .i64 y0), (.int .i64 y1)] AHeap.none fun v _ => v = (.int .i64 y)) {x : (List Int)} (H : f147 p0 a0 a1 a2 a3 = some x) : ICalls E 147 [(.slice (some ⟨0, 0, none⟩) a0.length 1), (.int .i64 a1), (.int .i64 a2), (.int .i64 a3), g0] (hOne a0) fun v h'' => v = .tuple #[] ∧ h'' = hOne x := by
  refine icalls_fn (pfnw ?_); unfold f147 at H;(conv=>whnf);refine pwa ?_;(conv=>whnf);refine pw_block ?_;refine pw_loop (τ := Int × (List Int)) (fun e => ⟨[(0, (.slice (some ⟨0, 0, none⟩) a0.length 1)), (1, (.int .i64 a1)), (2, (.int .i64 a2)), (3, (.int .i64 a3)), (10, (.int .i64 e.1))], ⟨1, [(0, .rw (e.2.map eI))], true⟩⟩) H ?_ (fun _ => nl rfl) ?_
  · exact .sub' (nl rfl) (.cons rfl (.cons rfl (.cons rfl (.cons rfl (.cons rfl .nil)))))
  · intro e1 x2 h3;refine pw_seq ?_;refine pwa ?_;(conv=>whnf);refine pw_cond ?_;(conv=>whnf);refine pbr_oite h3 (fun g4 h3 => ?_) (fun g4 h3 => ?_)
    · (conv=>whnf);refine pw_skip ?_;(conv=>whnf);refine pw_seq ?_;refine pw_block ?_;refine pw_draw ?_;(conv=>whnf);refine pbr_ogrd h3 (fun g5 h3 => ?_);(conv=>whnf);refine pbr_ogrd h3 (fun g6 h3 => ?_);(conv=>whnf);refine nth_a (l := e1.2) (f := eI) h3 (fun x7 h8 h3 => ?_);(conv=>whnf);refine pbr_ogrd h3 (fun g10 h3 => ?_);(conv=>whnf);refine pbr_ogrd h3 (fun g11 h3 => ?_);(conv=>whnf);refine nth_a (l := e1.2) (f := eI) h3 (fun x12 h13 h3 => ?_);(conv=>whnf);refine pbr_t g10 ?_;(conv=>whnf);refine pbr_t g11 ?_;(conv=>whnf);refine ⟨?_, trivial⟩;(conv=>whnf);obtain ⟨g15, h3⟩ := ogrd_some h3;refine set_a (l := e1.2) (f := eI) (x := x7) g15 rfl ?_
      (conv=>whnf);refine ⟨by repeat (first | exact trivial | refine And.intro rfl ?_ | refine And.intro (lev_a (l := e1.2) (f := eI) rfl h8) ?_ | refine And.intro (lev_a (l := e1.2) (f := eI) rfl h13) ?_), ?_⟩;(conv=>whnf);refine pbr_t g5 ?_;(conv=>whnf);refine pbr_t g6 ?_;(conv=>whnf);refine ⟨?_, trivial⟩;(conv=>whnf);obtain ⟨g16, h3⟩ := ogrd_some h3;refine set_a (l := (e1.2.set (IntKind.i64.wrap (a1 + e1.1)).toNat x7)) (f := eI) (x := x12) g16 rfl ?_;(conv=>whnf);refine ⟨by repeat (first | exact trivial | refine And.intro rfl ?_ | refine And.intro (lev_a (l := e1.2) (f := eI) rfl h8) ?_ | refine And.intro (lev_a (l := e1.2) (f := eI) rfl h13) ?_), ?_⟩
      (conv=>whnf);refine pw_ops ?_;refine po_all ?_;(conv=>whnf);cases h3;refine ⟨_, rfl, ?_⟩;exact .sub' (nl rfl) (.cons rfl (.cons rfl (.cons rfl (.cons rfl (.cons rfl .nil)))))
    · (conv=>whnf);refine pw_exit ?_;(conv=>whnf);cases h3;refine ⟨_, rfl, ?_⟩; rintro rfl;(conv=>whnf);exact ⟨rfl, rfl⟩

/-- slices.rotateCmpFunc[int] -/
noncomputable def f144 [LO] (p0 : Int → Int → Option Int) (a0 : List Int) (a1 : Int) (a2 : Int) (a3 : Int) : Option ((List Int)) :=
 obnd (
 oloop (τ := Int × Int × (List Int)) (ρ := Int × (List Int)) (fun e5 =>
 oite ((!(ieq e5.1 e5.2.1))) (
 oite ((ilt e5.2.1 e5.1)) (
 ogrd (Nat.beq a0.length e5.2.2.length) (
 obnd (f147 p0 e5.2.2 (IntKind.i64.wrap (a2 - e5.1)) a2 e5.2.1) fun (y11 : List Int) =>
 some (.inl ((IntKind.i64.wrap (e5.1 - e5.2.1)), e5.2.1, y11)))
 ) (
 ogrd (Nat.beq a0.length e5.2.2.length) (
 obnd (f147 p0 e5.2.2 (IntKind.i64.wrap (a2 - e5.1)) (IntKind.i64.wrap ((IntKind.i64.wrap (a2 + e5.2.1)) - e5.1)) e5.1) fun (y14 : List Int) =>
 some (.inl (e5.1, (IntKind.i64.wrap (e5.2.1 - e5.1)), y14))))
 ) (
 some (.inr ((e5.1, e5.2.2))))
 ) (((IntKind.i64.wrap (a2 - a1)), (IntKind.i64.wrap (a3 - a2)), a0))
 ) fun (r1 : Int × (List Int)) =>
 ogrd (Nat.beq a0.length r1.2.length) (
 obnd (f147 p0 r1.2 (IntKind.i64.wrap (a2 - r1.1)) a2 r1.1) fun (y18 : List Int) =>
 some y18)
theorem c144 [LO] {p0 : Int → Int → Option Int} {a0 : List Int} {a1 : Int} {a2 : Int} {a3 : Int} {g0 : Value} [Cl g0] (hp0 : ∀ y0 y1 y, p0 y0 y1 = some y → ICallV E g0 [(.int .i64 y0), (.int .i64 y1)] AHeap.none fun v _ => v = (.int .i64 y)) {x : (List Int)} (H : f144 p0 a0 a1 a2 a3 = some x) : ICalls E 144 [(.slice (some ⟨0, 0, none⟩) a0.length 1), (.int .i64 a1), (.int .i64 a2), (.int .i64 a3), g0] (hOne a0) fun v h'' => v = .tuple #[] ∧ h'' = hOne x := by
  refine icalls_fn (pfnw ?_); unfold f144 at H;(conv=>whnf);refine pwa ?_;(conv=>whnf);refine pwa ?_;(conv=>whnf);obtain ⟨r1, h2, H⟩ := obnd_some H;refine pw_join (ρ := Int × (List Int)) (fun e => ⟨[(0, (.slice (some ⟨0, 0, none⟩) a0.length 1)), (2, (.int .i64 a2)), (4, g0), (10, (.int .i64 e.1))], ⟨1, [(0, .rw (e.2.map eI))], true⟩⟩) r1 ?_ ?_
  · refine pw_block ?_;refine pw_loop (τ := Int × Int × (List Int)) (fun e => ⟨[(0, (.slice (some ⟨0, 0, none⟩) a0.length 1)), (2, (.int .i64 a2)), (4, g0), (10, (.int .i64 e.1)), (11, (.int .i64 e.2.1))], ⟨1, [(0, .rw (e.2.2.map eI))], true⟩⟩) h2 ?_ (fun _ => nl rfl) ?_
    · exact .sub' (nl rfl) (.cons rfl (.cons rfl (.cons rfl (.cons rfl (.cons rfl .nil)))))
    · intro e5 x6 h7;refine pw_seq ?_;refine pwa ?_;(conv=>whnf);refine pw_cond ?_;(conv=>whnf);refine pbr_oite h7 (fun g8 h7 => ?_) (fun g8 h7 => ?_)
      · (conv=>whnf);refine pw_skip ?_;(conv=>whnf);refine pw_block ?_;refine pwa ?_;(conv=>whnf);refine pw_cond ?_;(conv=>whnf);refine pbr_oite h7 (fun g9 h7 => ?_) (fun g9 h7 => ?_)
        · (conv=>whnf);refine pwa ?_;(conv=>whnf);obtain ⟨g10, h7⟩ := ogrd_some h7;obtain ⟨y11, h12, h7⟩ := obnd_some h7;refine ICalls.goB (l := e5.2.2) (l2 := y11) (c147 hp0 h12) rfl g10 ?_;(conv=>whnf);refine pw_ops ?_;refine po_all ?_;(conv=>whnf);cases h7;refine ⟨_, rfl, ?_⟩;exact .sub' (nl rfl) (.cons rfl (.cons rfl (.cons rfl (.cons rfl (.cons rfl .nil)))))
        · (conv=>whnf);refine pwa ?_;(conv=>whnf);obtain ⟨g13, h7⟩ := ogrd_some h7;obtain ⟨y14, h15, h7⟩ := obnd_some h7;refine ICalls.goB (l := e5.2.2) (l2 := y14) (c147 hp0 h15) rfl g13 ?_;(conv=>whnf);refine pw_ops ?_;refine po_all ?_;(conv=>whnf);cases h7;refine ⟨_, rfl, ?_⟩;exact .sub' (nl rfl) (.cons rfl (.cons rfl (.cons rfl (.cons rfl (.cons rfl .nil)))))
      · (conv=>whnf);refine pw_exit ?_;(conv=>whnf);cases h7;refine ⟨_, rfl, ?_⟩; rintro rfl;(conv=>whnf);exact ⟨by (repeat refine .cons rfl ?_);exact .nil,rfl⟩
  · refine pw_ops ?_;refine po_all ?_;(conv=>whnf);obtain ⟨g17, H⟩ := ogrd_some H;obtain ⟨y18, h19, H⟩ := obnd_some H;refine ICalls.goB (l := r1.2) (l2 := y18) (c147 hp0 h19) rfl g17 ?_;(conv=>whnf);cases H;exact ⟨rfl, rfl⟩

/-- slices.symMergeCmpFunc[int] -/
noncomputable def r137 [LO] (p0 : Int → Int → Option Int) (p99 : (List Int) → Int → Int → Int → Option ((List Int))) (a0 : List Int) (a1 : Int) (a2 : Int) (a3 : Int) : Option ((List Int)) :=
 obndS (
 oite ((ieq (IntKind.i64.wrap (a2 - a1)) (1 : Int))) (
 obnd (
 oloop (τ := Int × Int) (ρ := Int) (fun e10 =>
 oite ((ilt e10.1 e10.2)) (
 ogrd ((ile 0 (IntKind.i64.wrap ((IntKind.u64.wrap (IntKind.i64.wrap (e10.1 + e10.2))).fdiv (2 ^ (min (1 : Int).toNat (IntKind.bits .u64))))))) (
 ogrd ((ilt (IntKind.i64.wrap ((IntKind.u64.wrap (IntKind.i64.wrap (e10.1 + e10.2))).fdiv (2 ^ (min (1 : Int).toNat (IntKind.bits .u64))))) (a0.length : Int))) (
 obnd (a0[(IntKind.i64.wrap ((IntKind.u64.wrap (IntKind.i64.wrap (e10.1 + e10.2))).fdiv (2 ^ (min (1 : Int).toNat (IntKind.bits .u64))))).toNat]?) fun (x16 : Int) =>
 ogrd ((ile 0 a1)) (
 ogrd ((ilt a1 (a0.length : Int))) (
 obnd (a0[a1.toNat]?) fun (x21 : Int) =>
 obnd (p0 x16 x21) fun (y24 : Int) =>
 oite ((ilt y24 (0 : Int))) (
 some (.inl (((IntKind.i64.wrap ((IntKind.i64.wrap ((IntKind.u64.wrap (IntKind.i64.wrap (e10.1 + e10.2))).fdiv (2 ^ (min (1 : Int).toNat (IntKind.bits .u64))))) + (1 : Int))), e10.2)))
 ) (
 some (.inl ((e10.1, (IntKind.i64.wrap ((IntKind.u64.wrap (IntKind.i64.wrap (e10.1 + e10.2))).fdiv (2 ^ (min (1 : Int).toNat (IntKind.bits .u64)))))))))))))
 ) (
 some (.inr (e10.1)))
 ) (a2, a3)
 ) fun (r6 : Int) =>
 obnd (
 oloop (τ := Int × (List Int)) (ρ := (List Int)) (fun e32 =>
 oite ((ilt e32.1 (IntKind.i64.wrap (r6 - (1 : Int))))) (
 ogrd ((ile 0 (IntKind.i64.wrap (e32.1 + (1 : Int))))) (
 ogrd ((ilt (IntKind.i64.wrap (e32.1 + (1 : Int))) (a0.length : Int))) (
 obnd (e32.2[(IntKind.i64.wrap (e32.1 + (1 : Int))).toNat]?) fun (x38 : Int) =>
 ogrd ((ile 0 e32.1)) (
 ogrd ((ilt e32.1 (a0.length : Int))) (
 obnd (e32.2[e32.1.toNat]?) fun (x43 : Int) =>
 ogrd (Nat.blt e32.1.toNat e32.2.length) (
 ogrd (Nat.blt (IntKind.i64.wrap (e32.1 + (1 : Int))).toNat (e32.2.set e32.1.toNat x38).length) (
 some (.inl (((IntKind.i64.wrap (e32.1 + (1 : Int))), ((e32.2.set e32.1.toNat x38).set (IntKind.i64.wrap (e32.1 + (1 : Int))).toNat x43))))))))))
 ) (
 some (.inr (e32.2)))
 ) (a1, a0)
 ) fun (r28 : (List Int)) =>
 some (.inr (r28))
 ) (
 some (.inl ()))
 ) fun (_ : Unit) =>
 obndS (
 oite ((ieq (IntKind.i64.wrap (a3 - a2)) (1 : Int))) (
 obnd (
 oloop (τ := Int × Int) (ρ := Int) (fun e59 =>
 oite ((ilt e59.1 e59.2)) (
 ogrd ((ile 0 a2)) (
 ogrd ((ilt a2 (a0.length : Int))) (
 obnd (a0[a2.toNat]?) fun (x65 : Int) =>
 ogrd ((ile 0 (IntKind.i64.wrap ((IntKind.u64.wrap (IntKind.i64.wrap (e59.1 + e59.2))).fdiv (2 ^ (min (1 : Int).toNat (IntKind.bits .u64))))))) (
 ogrd ((ilt (IntKind.i64.wrap ((IntKind.u64.wrap (IntKind.i64.wrap (e59.1 + e59.2))).fdiv (2 ^ (min (1 : Int).toNat (IntKind.bits .u64))))) (a0.length : Int))) (
 obnd (a0[(IntKind.i64.wrap ((IntKind.u64.wrap (IntKind.i64.wrap (e59.1 + e59.2))).fdiv (2 ^ (min (1 : Int).toNat (IntKind.bits .u64))))).toNat]?) fun (x70 : Int) =>
 obnd (p0 x65 x70) fun (y73 : Int) =>
 oite ((!(ilt y73 (0 : Int)))) (
 some (.inl (((IntKind.i64.wrap ((IntKind.i64.wrap ((IntKind.u64.wrap (IntKind.i64.wrap (e59.1 + e59.2))).fdiv (2 ^ (min (1 : Int).toNat (IntKind.bits .u64))))) + (1 : Int))), e59.2)))
 ) (
 some (.inl ((e59.1, (IntKind.i64.wrap ((IntKind.u64.wrap (IntKind.i64.wrap (e59.1 + e59.2))).fdiv (2 ^ (min (1 : Int).toNat (IntKind.bits .u64)))))))))))))
 ) (
 some (.inr (e59.1)))
 ) (a1, a2)
 ) fun (r55 : Int) =>
 obnd (
 oloop (τ := Int × (List Int)) (ρ := (List Int)) (fun e81 =>
 oite ((ilt r55 e81.1)) (
 ogrd ((ile 0 (IntKind.i64.wrap (e81.1 - (1 : Int))))) (
 ogrd ((ilt (IntKind.i64.wrap (e81.1 - (1 : Int))) (a0.length : Int))) (
 obnd (e81.2[(IntKind.i64.wrap (e81.1 - (1 : Int))).toNat]?) fun (x87 : Int) =>
 ogrd ((ile 0 e81.1)) (
 ogrd ((ilt e81.1 (a0.length : Int))) (
 obnd (e81.2[e81.1.toNat]?) fun (x92 : Int) =>
 ogrd (Nat.blt e81.1.toNat e81.2.length) (
 ogrd (Nat.blt (IntKind.i64.wrap (e81.1 - (1 : Int))).toNat (e81.2.set e81.1.toNat x87).length) (
 some (.inl (((IntKind.i64.wrap (e81.1 - (1 : Int))), ((e81.2.set e81.1.toNat x87).set (IntKind.i64.wrap (e81.1 - (1 : Int))).toNat x92))))))))))
 ) (
 some (.inr (e81.2)))
 ) (a2, a0)
 ) fun (r77 : (List Int)) =>
 some (.inr (r77))
 ) (
 some (.inl ()))
 ) fun (_ : Unit) =>
 obnd (
 oite ((ilt (IntKind.i64.wrap ((IntKind.u64.wrap (IntKind.i64.wrap (a1 + a3))).fdiv (2 ^ (min (1 : Int).toNat (IntKind.bits .u64))))) a2)) (
 some ((IntKind.i64.wrap ((IntKind.i64.wrap ((IntKind.i64.wrap ((IntKind.u64.wrap (IntKind.i64.wrap (a1 + a3))).fdiv (2 ^ (min (1 : Int).toNat (IntKind.bits .u64))))) + a2)) - a3)), (IntKind.i64.wrap ((IntKind.u64.wrap (IntKind.i64.wrap (a1 + a3))).fdiv (2 ^ (min (1 : Int).toNat (IntKind.bits .u64))))))
 ) (
 some (a1, a2))
 ) fun (r99 : Int × Int) =>
 obnd (
 oloop (τ := Int × Int) (ρ := Int) (fun e108 =>
 oite ((ilt e108.1 e108.2)) (
 ogrd ((ile 0 (IntKind.i64.wrap ((IntKind.i64.wrap ((IntKind.i64.wrap ((IntKind.i64.wrap ((IntKind.u64.wrap (IntKind.i64.wrap (a1 + a3))).fdiv (2 ^ (min (1 : Int).toNat (IntKind.bits .u64))))) + a2)) - (1 : Int))) - (IntKind.i64.wrap ((IntKind.u64.wrap (IntKind.i64.wrap (e108.1 + e108.2))).fdiv (2 ^ (min (1 : Int).toNat (IntKind.bits .u64))))))))) (
 ogrd ((ilt (IntKind.i64.wrap ((IntKind.i64.wrap ((IntKind.i64.wrap ((IntKind.i64.wrap ((IntKind.u64.wrap (IntKind.i64.wrap (a1 + a3))).fdiv (2 ^ (min (1 : Int).toNat (IntKind.bits .u64))))) + a2)) - (1 : Int))) - (IntKind.i64.wrap ((IntKind.u64.wrap (IntKind.i64.wrap (e108.1 + e108.2))).fdiv (2 ^ (min (1 : Int).toNat (IntKind.bits .u64))))))) (a0.length : Int))) (
 obnd (a0[(IntKind.i64.wrap ((IntKind.i64.wrap ((IntKind.i64.wrap ((IntKind.i64.wrap ((IntKind.u64.wrap (IntKind.i64.wrap (a1 + a3))).fdiv (2 ^ (min (1 : Int).toNat (IntKind.bits .u64))))) + a2)) - (1 : Int))) - (IntKind.i64.wrap ((IntKind.u64.wrap (IntKind.i64.wrap (e108.1 + e108.2))).fdiv (2 ^ (min (1 : Int).toNat (IntKind.bits .u64))))))).toNat]?) fun (x114 : Int) =>
 ogrd ((ile 0 (IntKind.i64.wrap ((IntKind.u64.wrap (IntKind.i64.wrap (e108.1 + e108.2))).fdiv (2 ^ (min (1 : Int).toNat (IntKind.bits .u64))))))) (
 ogrd ((ilt (IntKind.i64.wrap ((IntKind.u64.wrap (IntKind.i64.wrap (e108.1 + e108.2))).fdiv (2 ^ (min (1 : Int).toNat (IntKind.bits .u64))))) (a0.length : Int))) (
 obnd (a0[(IntKind.i64.wrap ((IntKind.u64.wrap (IntKind.i64.wrap (e108.1 + e108.2))).fdiv (2 ^ (min (1 : Int).toNat (IntKind.bits .u64))))).toNat]?) fun (x119 : Int) =>
 obnd (p0 x114 x119) fun (y122 : Int) =>
 oite ((!(ilt y122 (0 : Int)))) (
 some (.inl (((IntKind.i64.wrap ((IntKind.i64.wrap ((IntKind.u64.wrap (IntKind.i64.wrap (e108.1 + e108.2))).fdiv (2 ^ (min (1 : Int).toNat (IntKind.bits .u64))))) + (1 : Int))), e108.2)))
 ) (
 some (.inl ((e108.1, (IntKind.i64.wrap ((IntKind.u64.wrap (IntKind.i64.wrap (e108.1 + e108.2))).fdiv (2 ^ (min (1 : Int).toNat (IntKind.bits .u64)))))))))))))
 ) (
 some (.inr (e108.1)))
 ) (r99.1, r99.2)
 ) fun (r104 : Int) =>
 obnd (
 obnd (
 oite ((ilt r104 a2)) (
 some (ilt a2 (IntKind.i64.wrap ((IntKind.i64.wrap ((IntKind.i64.wrap ((IntKind.u64.wrap (IntKind.i64.wrap (a1 + a3))).fdiv (2 ^ (min (1 : Int).toNat (IntKind.bits .u64))))) + a2)) - r104)))
 ) (
 some false)
 ) fun (r130 : Bool) =>
 oite r130 (
 obnd (f144 p0 a0 r104 a2 ((IntKind.i64.wrap ((IntKind.i64.wrap ((IntKind.i64.wrap ((IntKind.u64.wrap (IntKind.i64.wrap (a1 + a3))).fdiv (2 ^ (min (1 : Int).toNat (IntKind.bits .u64))))) + a2)) - r104)))) fun (y136 : List Int) =>
 some y136
 ) (
 some a0)
 ) fun (r126 : (List Int)) =>
 obnd (
 obnd (
 oite ((ilt a1 r104)) (
 some (ilt r104 (IntKind.i64.wrap ((IntKind.u64.wrap (IntKind.i64.wrap (a1 + a3))).fdiv (2 ^ (min (1 : Int).toNat (IntKind.bits .u64))))))
 ) (
 some false)
 ) fun (r142 : Bool) =>
 oite r142 (
 ogrd (Nat.beq a0.length r126.length) (
 obnd (p99 r126 a1 r104 ((IntKind.i64.wrap ((IntKind.u64.wrap (IntKind.i64.wrap (a1 + a3))).fdiv (2 ^ (min (1 : Int).toNat (IntKind.bits .u64))))))) fun (y149 : List Int) =>
 some y149)
 ) (
 some r126)
 ) fun (r138 : (List Int)) =>
 obnd (
 oite ((ilt (IntKind.i64.wrap ((IntKind.u64.wrap (IntKind.i64.wrap (a1 + a3))).fdiv (2 ^ (min (1 : Int).toNat (IntKind.bits .u64))))) (IntKind.i64.wrap ((IntKind.i64.wrap ((IntKind.i64.wrap ((IntKind.u64.wrap (IntKind.i64.wrap (a1 + a3))).fdiv (2 ^ (min (1 : Int).toNat (IntKind.bits .u64))))) + a2)) - r104)))) (
 some (ilt (IntKind.i64.wrap ((IntKind.i64.wrap ((IntKind.i64.wrap ((IntKind.u64.wrap (IntKind.i64.wrap (a1 + a3))).fdiv (2 ^ (min (1 : Int).toNat (IntKind.bits .u64))))) + a2)) - r104)) a3)
 ) (
 some false)
 ) fun (r151 : Bool) =>
 oite r151 (
 ogrd (Nat.beq a0.length r138.length) (
 obnd (p99 r138 ((IntKind.i64.wrap ((IntKind.u64.wrap (IntKind.i64.wrap (a1 + a3))).fdiv (2 ^ (min (1 : Int).toNat (IntKind.bits .u64)))))) ((IntKind.i64.wrap ((IntKind.i64.wrap ((IntKind.i64.wrap ((IntKind.u64.wrap (IntKind.i64.wrap (a1 + a3))).fdiv (2 ^ (min (1 : Int).toNat (IntKind.bits .u64))))) + a2)) - r104))) a3) fun (y158 : List Int) =>
 some y158)
 ) (
 some r138)
theorem cr137 [LO] {p0 : Int → Int → Option Int} {g0 : Value} [Cl g0] (hp0 : ∀ y0 y1 y, p0 y0 y1 = some y → ICallV E g0 [(.int .i64 y0), (.int .i64 y1)] AHeap.none fun v _ => v = (.int .i64 y)) {p99 : (List Int) → Int → Int → Int → Option ((List Int))} (hp99 : ∀ {a0 : List Int} {a1 : Int} {a2 : Int} {a3 : Int} {x : (List Int)}, p99 a0 a1 a2 a3 = some x → ICalls E 137 [(.slice (some ⟨0, 0, none⟩) a0.length 1), (.int .i64 a1), (.int .i64 a2), (.int .i64 a3), g0] (hOne a0) fun v h'' => v = .tuple #[] ∧ h'' = hOne x) {a0 : List Int} {a1 : Int} {a2 : Int} {a3 : Int} {x : (List Int)} (H : r137 p0 p99 a0 a1 a2 a3 = some x) : ICalls E 137 [(.slice (some ⟨0, 0, none⟩) a0.length 1), (.int .i64 a1), (.int .i64 a2), (.int .i64 a3), g0] (hOne a0) fun v h'' => v = .tuple #[] ∧ h'' = hOne x := by
  refine icalls_fn (pfnw ?_); unfold r137 at H;(conv=>whnf);obtain ⟨r1, h2, h3, h4⟩ := obndS_some H;refine pw_joinS (ρ := Unit) (fun e => ⟨[(0, (.slice (some ⟨0, 0, none⟩) a0.length 1)), (1, (.int .i64 a1)), (2, (.int .i64 a2)), (3, (.int .i64 a3)), (4, g0)], ⟨1, [(0, .rw (a0.map eI))], true⟩⟩) r1 ?_ ?_
  · refine pwa ?_;(conv=>whnf);refine pw_cond ?_;(conv=>whnf);refine pbr_oite h2 (fun g5 h2 => ?_) (fun g5 h2 => ?_)
    · (conv=>whnf);refine pwa ?_;(conv=>whnf);refine pwa ?_;(conv=>whnf);obtain ⟨r6, h7, h2⟩ := obnd_some h2;refine pw_join (ρ := Int) (fun e => ⟨[(0, (.slice (some ⟨0, 0, none⟩) a0.length 1)), (1, (.int .i64 a1)), (10, (.int .i64 e))], ⟨1, [(0, .rw (a0.map eI))], true⟩⟩) r6 ?_ ?_
      · refine pw_block ?_;refine pw_loop (τ := Int × Int) (fun e => ⟨[(0, (.slice (some ⟨0, 0, none⟩) a0.length 1)), (1, (.int .i64 a1)), (4, g0), (10, (.int .i64 e.1)), (11, (.int .i64 e.2))], ⟨1, [(0, .rw (a0.map eI))], true⟩⟩) h7 ?_ (fun _ => nl rfl) ?_
        · exact .sub' (nl rfl) (.cons rfl (.cons rfl (.cons rfl (.cons rfl (.cons rfl .nil)))))
        · intro e10 x11 h12;refine pw_seq ?_;refine pwa ?_;(conv=>whnf);refine pw_cond ?_;(conv=>whnf);refine pbr_oite h12 (fun g13 h12 => ?_) (fun g13 h12 => ?_)
          · (conv=>whnf);refine pw_skip ?_;(conv=>whnf);refine pw_block ?_;refine pwa ?_;(conv=>whnf);refine pw_sd ?_;(conv=>whnf);refine pbr_ogrd h12 (fun g14 h12 => ?_);(conv=>whnf);refine pbr_ogrd h12 (fun g15 h12 => ?_);(conv=>whnf);refine nth_a (l := a0) (f := eI) h12 (fun x16 h17 h12 => ?_);(conv=>whnf);refine pbr_ogrd h12 (fun g19 h12 => ?_);(conv=>whnf);refine pbr_ogrd h12 (fun g20 h12 => ?_);(conv=>whnf);refine nth_a (l := a0) (f := eI) h12 (fun x21 h22 h12 => ?_);(conv=>whnf);refine ⟨?_, trivial⟩;(conv=>whnf);obtain ⟨y24, h25, h12⟩ := obnd_some h12;refine ICallV.go (hp0 _ _ _ h25) ?_
            (conv=>whnf);refine ⟨by repeat (first | exact trivial | refine And.intro rfl ?_ | refine And.intro (lev_a (l := a0) (f := eI) rfl h17) ?_ | refine And.intro (lev_a (l := a0) (f := eI) rfl h22) ?_), ?_⟩;(conv=>whnf);refine pw_cond ?_;(conv=>whnf);refine pbr_oite h12 (fun g26 h12 => ?_) (fun g26 h12 => ?_)
            · (conv=>whnf);refine pw_ops ?_;refine po_all ?_;(conv=>whnf);cases h12;refine ⟨_, rfl, ?_⟩;exact .sub' (nl rfl) (.cons rfl (.cons rfl (.cons rfl (.cons rfl (.cons rfl .nil)))))
            · (conv=>whnf);refine pw_ops ?_;refine po_all ?_;(conv=>whnf);cases h12;refine ⟨_, rfl, ?_⟩;exact .sub' (nl rfl) (.cons rfl (.cons rfl (.cons rfl (.cons rfl (.cons rfl .nil)))))
          · (conv=>whnf);refine pw_exit ?_;(conv=>whnf);cases h12;refine ⟨_, rfl, ?_⟩; rintro rfl;(conv=>whnf);exact ⟨(.cons rfl (.cons rfl (.cons rfl .nil))), rfl⟩
      · obtain ⟨r28, h29, h2⟩ := obnd_some h2;refine pw_join (ρ := (List Int)) (fun e => ⟨[], ⟨1, [(0, .rw (e.map eI))], true⟩⟩) r28 ?_ ?_
        · refine pwa ?_;(conv=>whnf);refine pw_block ?_;refine pw_loop (τ := Int × (List Int)) (fun e => ⟨[(0, (.slice (some ⟨0, 0, none⟩) a0.length 1)), (10, (.int .i64 r6)), (13, (.int .i64 e.1))], ⟨1, [(0, .rw (e.2.map eI))], true⟩⟩) h29 ?_ (fun _ => nl rfl) ?_
          · exact .sub' (nl rfl) (.cons rfl (.cons rfl (.cons rfl .nil)))
          · intro e32 x33 h34;refine pw_seq ?_;refine pwa ?_;(conv=>whnf);refine pw_cond ?_;(conv=>whnf);refine pbr_oite h34 (fun g35 h34 => ?_) (fun g35 h34 => ?_)
            · (conv=>whnf);refine pw_skip ?_;(conv=>whnf);refine pw_seq ?_;refine pw_block ?_;refine pw_draw ?_;(conv=>whnf);refine pbr_ogrd h34 (fun g36 h34 => ?_);(conv=>whnf);refine pbr_ogrd h34 (fun g37 h34 => ?_);(conv=>whnf);refine nth_a (l := e32.2) (f := eI) h34 (fun x38 h39 h34 => ?_);(conv=>whnf);refine pbr_ogrd h34 (fun g41 h34 => ?_);(conv=>whnf);refine pbr_ogrd h34 (fun g42 h34 => ?_);(conv=>whnf);refine nth_a (l := e32.2) (f := eI) h34 (fun x43 h44 h34 => ?_);(conv=>whnf);refine pbr_t g41 ?_;(conv=>whnf);refine pbr_t g42 ?_;(conv=>whnf);refine ⟨?_, trivial⟩;(conv=>whnf);obtain ⟨g46, h34⟩ := ogrd_some h34
              refine set_a (l := e32.2) (f := eI) (x := x38) g46 rfl ?_;(conv=>whnf);refine ⟨by repeat (first | exact trivial | refine And.intro rfl ?_ | refine And.intro (lev_a (l := e32.2) (f := eI) rfl h39) ?_ | refine And.intro (lev_a (l := e32.2) (f := eI) rfl h44) ?_), ?_⟩;(conv=>whnf);refine pbr_t g36 ?_;(conv=>whnf);refine pbr_t g37 ?_;(conv=>whnf);refine ⟨?_, trivial⟩;(conv=>whnf);obtain ⟨g47, h34⟩ := ogrd_some h34;refine set_a (l := (e32.2.set e32.1.toNat x38)) (f := eI) (x := x43) g47 rfl ?_;(conv=>whnf);refine ⟨by repeat (first | exact trivial | refine And.intro rfl ?_ | refine And.intro (lev_a (l := e32.2) (f := eI) rfl h39) ?_ | refine And.intro (lev_a (l := e32.2) (f := eI) rfl h44) ?_), ?_⟩
              (conv=>whnf);refine pw_ops ?_;refine po_all ?_;(conv=>whnf);cases h34;refine ⟨_, rfl, ?_⟩;exact .sub' (nl rfl) (.cons rfl (.cons rfl (.cons rfl .nil)))
            · (conv=>whnf);refine pw_exit ?_;(conv=>whnf);cases h34;refine ⟨_, rfl, ?_⟩; rintro rfl;(conv=>whnf);exact ⟨.nil, rfl⟩
        · refine pw_ret ?_;(conv=>whnf);cases h2;obtain rfl := h4 _ rfl;exact ⟨rfl, rfl⟩
    · (conv=>whnf);refine pw_skip ?_;(conv=>whnf);cases h2;exact ⟨_, rfl, ⟨(.cons rfl (.cons rfl (.cons rfl (.cons rfl (.cons rfl .nil))))), rfl⟩⟩
  · intro r49 hr; have H := h3 _ hr;obtain ⟨r50, h51, h52, h53⟩ := obndS_some H;refine pw_joinS (ρ := Unit) (fun e => ⟨[(0, (.slice (some ⟨0, 0, none⟩) a0.length 1)), (1, (.int .i64 a1)), (2, (.int .i64 a2)), (3, (.int .i64 a3)), (4, g0)], ⟨1, [(0, .rw (a0.map eI))], true⟩⟩) r50 ?_ ?_
    · refine pwa ?_;(conv=>whnf);refine pw_cond ?_;(conv=>whnf);refine pbr_oite h51 (fun g54 h51 => ?_) (fun g54 h51 => ?_)
      · (conv=>whnf);refine pwa ?_;(conv=>whnf);refine pwa ?_;(conv=>whnf);obtain ⟨r55, h56, h51⟩ := obnd_some h51;refine pw_join (ρ := Int) (fun e => ⟨[(0, (.slice (some ⟨0, 0, none⟩) a0.length 1)), (2, (.int .i64 a2)), (14, (.int .i64 e))], ⟨1, [(0, .rw (a0.map eI))], true⟩⟩) r55 ?_ ?_
        · refine pw_block ?_;refine pw_loop (τ := Int × Int) (fun e => ⟨[(0, (.slice (some ⟨0, 0, none⟩) a0.length 1)), (2, (.int .i64 a2)), (4, g0), (14, (.int .i64 e.1)), (15, (.int .i64 e.2))], ⟨1, [(0, .rw (a0.map eI))], true⟩⟩) h56 ?_ (fun _ => nl rfl) ?_
          · exact .sub' (nl rfl) (.cons rfl (.cons rfl (.cons rfl (.cons rfl (.cons rfl .nil)))))
          · intro e59 x60 h61;refine pw_seq ?_;refine pwa ?_;(conv=>whnf);refine pw_cond ?_;(conv=>whnf);refine pbr_oite h61 (fun g62 h61 => ?_) (fun g62 h61 => ?_)
            · (conv=>whnf);refine pw_skip ?_;(conv=>whnf);refine pw_block ?_;refine pwa ?_;(conv=>whnf);refine pw_sd ?_;(conv=>whnf);refine pbr_ogrd h61 (fun g63 h61 => ?_);(conv=>whnf);refine pbr_ogrd h61 (fun g64 h61 => ?_);(conv=>whnf);refine nth_a (l := a0) (f := eI) h61 (fun x65 h66 h61 => ?_);(conv=>whnf);refine pbr_ogrd h61 (fun g68 h61 => ?_);(conv=>whnf);refine pbr_ogrd h61 (fun g69 h61 => ?_);(conv=>whnf);refine nth_a (l := a0) (f := eI) h61 (fun x70 h71 h61 => ?_);(conv=>whnf);refine ⟨?_, trivial⟩;(conv=>whnf);obtain ⟨y73, h74, h61⟩ := obnd_some h61;refine ICallV.go (hp0 _ _ _ h74) ?_
              (conv=>whnf);refine ⟨by repeat (first | exact trivial | refine And.intro rfl ?_ | refine And.intro (lev_a (l := a0) (f := eI) rfl h66) ?_ | refine And.intro (lev_a (l := a0) (f := eI) rfl h71) ?_), ?_⟩;(conv=>whnf);refine pw_cond ?_;(conv=>whnf);refine pbr_oite h61 (fun g75 h61 => ?_) (fun g75 h61 => ?_)
              · (conv=>whnf);refine pw_ops ?_;refine po_all ?_;(conv=>whnf);cases h61;refine ⟨_, rfl, ?_⟩;exact .sub' (nl rfl) (.cons rfl (.cons rfl (.cons rfl (.cons rfl (.cons rfl .nil)))))
              · (conv=>whnf);refine pw_ops ?_;refine po_all ?_;(conv=>whnf);cases h61;refine ⟨_, rfl, ?_⟩;exact .sub' (nl rfl) (.cons rfl (.cons rfl (.cons rfl (.cons rfl (.cons rfl .nil)))))
            · (conv=>whnf);refine pw_exit ?_;(conv=>whnf);cases h61;refine ⟨_, rfl, ?_⟩; rintro rfl;(conv=>whnf);exact ⟨(.cons rfl (.cons rfl (.cons rfl .nil))), rfl⟩
        · obtain ⟨r77, h78, h51⟩ := obnd_some h51;refine pw_join (ρ := (List Int)) (fun e => ⟨[], ⟨1, [(0, .rw (e.map eI))], true⟩⟩) r77 ?_ ?_
          · refine pwa ?_;(conv=>whnf);refine pw_block ?_;refine pw_loop (τ := Int × (List Int)) (fun e => ⟨[(0, (.slice (some ⟨0, 0, none⟩) a0.length 1)), (14, (.int .i64 r55)), (17, (.int .i64 e.1))], ⟨1, [(0, .rw (e.2.map eI))], true⟩⟩) h78 ?_ (fun _ => nl rfl) ?_
            · exact .sub' (nl rfl) (.cons rfl (.cons rfl (.cons rfl .nil)))
            · intro e81 x82 h83;refine pw_seq ?_;refine pwa ?_;(conv=>whnf);refine pw_cond ?_;(conv=>whnf);refine pbr_oite h83 (fun g84 h83 => ?_) (fun g84 h83 => ?_)
              · (conv=>whnf);refine pw_skip ?_;(conv=>whnf);refine pw_seq ?_;refine pw_block ?_;refine pw_draw ?_;(conv=>whnf);refine pbr_ogrd h83 (fun g85 h83 => ?_);(conv=>whnf);refine pbr_ogrd h83 (fun g86 h83 => ?_);(conv=>whnf);refine nth_a (l := e81.2) (f := eI) h83 (fun x87 h88 h83 => ?_);(conv=>whnf);refine pbr_ogrd h83 (fun g90 h83 => ?_);(conv=>whnf);refine pbr_ogrd h83 (fun g91 h83 => ?_);(conv=>whnf);refine nth_a (l := e81.2) (f := eI) h83 (fun x92 h93 h83 => ?_);(conv=>whnf);refine pbr_t g90 ?_;(conv=>whnf);refine pbr_t g91 ?_;(conv=>whnf);refine ⟨?_, trivial⟩;(conv=>whnf);obtain ⟨g95, h83⟩ := ogrd_some h83
                refine set_a (l := e81.2) (f := eI) (x := x87) g95 rfl ?_;(conv=>whnf);refine ⟨by repeat (first | exact trivial | refine And.intro rfl ?_ | refine And.intro (lev_a (l := e81.2) (f := eI) rfl h88) ?_ | refine And.intro (lev_a (l := e81.2) (f := eI) rfl h93) ?_), ?_⟩;(conv=>whnf);refine pbr_t g85 ?_;(conv=>whnf);refine pbr_t g86 ?_;(conv=>whnf);refine ⟨?_, trivial⟩;(conv=>whnf);obtain ⟨g96, h83⟩ := ogrd_some h83;refine set_a (l := (e81.2.set e81.1.toNat x87)) (f := eI) (x := x92) g96 rfl ?_;(conv=>whnf);refine ⟨by repeat (first | exact trivial | refine And.intro rfl ?_ | refine And.intro (lev_a (l := e81.2) (f := eI) rfl h88) ?_ | refine And.intro (lev_a (l := e81.2) (f := eI) rfl h93) ?_), ?_⟩
                (conv=>whnf);refine pw_ops ?_;refine po_all ?_;(conv=>whnf);cases h83;refine ⟨_, rfl, ?_⟩;exact .sub' (nl rfl) (.cons rfl (.cons rfl (.cons rfl .nil)))
              · (conv=>whnf);refine pw_exit ?_;(conv=>whnf);cases h83;refine ⟨_, rfl, ?_⟩; rintro rfl;(conv=>whnf);exact ⟨.nil, rfl⟩
          · refine pw_ret ?_;(conv=>whnf);cases h51;obtain rfl := h53 _ rfl;exact ⟨rfl, rfl⟩
      · (conv=>whnf);refine pw_skip ?_;(conv=>whnf);cases h51;exact ⟨_, rfl, ⟨(.cons rfl (.cons rfl (.cons rfl (.cons rfl (.cons rfl .nil))))), rfl⟩⟩
    · intro r98 hr; have H := h52 _ hr;refine pwa ?_;(conv=>whnf);refine pwa ?_;(conv=>whnf);refine pwa ?_;(conv=>whnf);obtain ⟨r99, h100, H⟩ := obnd_some H;refine pw_join (ρ := Int × Int) (fun e => ⟨[(0, (.slice (some ⟨0, 0, none⟩) a0.length 1)), (1, (.int .i64 a1)), (2, (.int .i64 a2)), (3, (.int .i64 a3)), (4, g0), (18, (.int .i64 (IntKind.i64.wrap ((IntKind.u64.wrap (IntKind.i64.wrap (a1 + a3))).fdiv (2 ^ (min (1 : Int).toNat (IntKind.bits .u64))))))), (19, (.int .i64 (IntKind.i64.wrap ((IntKind.i64.wrap ((IntKind.u64.wrap (IntKind.i64.wrap (a1 + a3))).fdiv (2 ^ (min (1 : Int).toNat (IntKind.bits .u64))))) + a2)))), (20, (.int .i64 e.1)), (21, (.int .i64 e.2))], ⟨1, [(0, .rw (a0.map eI))], true⟩⟩) r99 ?_ ?_
      · refine pwa ?_;(conv=>whnf);refine pw_cond ?_;(conv=>whnf);refine pbr_oite h100 (fun g103 h100 => ?_) (fun g103 h100 => ?_)
        · (conv=>whnf);refine pwa ?_;(conv=>whnf);refine pw_ops ?_;refine po_all ?_;(conv=>whnf);cases h100;exact ⟨by (repeat refine .cons rfl ?_);exact .nil,rfl⟩
        · (conv=>whnf);refine pwa ?_;(conv=>whnf);refine pw_ops ?_;refine po_all ?_;(conv=>whnf);cases h100;exact ⟨by (repeat refine .cons rfl ?_);exact .nil,rfl⟩
      · refine pwa ?_;(conv=>whnf);obtain ⟨r104, h105, H⟩ := obnd_some H;refine pw_join (ρ := Int) (fun e => ⟨[(0, (.slice (some ⟨0, 0, none⟩) a0.length 1)), (1, (.int .i64 a1)), (2, (.int .i64 a2)), (3, (.int .i64 a3)), (4, g0), (18, (.int .i64 (IntKind.i64.wrap ((IntKind.u64.wrap (IntKind.i64.wrap (a1 + a3))).fdiv (2 ^ (min (1 : Int).toNat (IntKind.bits .u64))))))), (19, (.int .i64 (IntKind.i64.wrap ((IntKind.i64.wrap ((IntKind.u64.wrap (IntKind.i64.wrap (a1 + a3))).fdiv (2 ^ (min (1 : Int).toNat (IntKind.bits .u64))))) + a2)))), (20, (.int .i64 e))], ⟨1, [(0, .rw (a0.map eI))], true⟩⟩) r104 ?_ ?_
        · refine pw_block ?_;refine pw_loop (τ := Int × Int) (fun e => ⟨[(0, (.slice (some ⟨0, 0, none⟩) a0.length 1)), (1, (.int .i64 a1)), (2, (.int .i64 a2)), (3, (.int .i64 a3)), (4, g0), (18, (.int .i64 (IntKind.i64.wrap ((IntKind.u64.wrap (IntKind.i64.wrap (a1 + a3))).fdiv (2 ^ (min (1 : Int).toNat (IntKind.bits .u64))))))), (19, (.int .i64 (IntKind.i64.wrap ((IntKind.i64.wrap ((IntKind.u64.wrap (IntKind.i64.wrap (a1 + a3))).fdiv (2 ^ (min (1 : Int).toNat (IntKind.bits .u64))))) + a2)))), (20, (.int .i64 e.1)), (21, (.int .i64 e.2)), (22, (.int .i64 (IntKind.i64.wrap ((IntKind.i64.wrap ((IntKind.i64.wrap ((IntKind.u64.wrap (IntKind.i64.wrap (a1 + a3))).fdiv (2 ^ (min (1 : Int).toNat (IntKind.bits .u64))))) + a2)) - (1 : Int)))))], ⟨1, [(0, .rw (a0.map eI))], true⟩⟩) h105 ?_ (fun _ => nl rfl) ?_
          · exact .sub' (nl rfl) (.cons rfl (.cons rfl (.cons rfl (.cons rfl (.cons rfl (.cons rfl (.cons rfl (.cons rfl (.cons rfl (.cons rfl .nil))))))))))
          · intro e108 x109 h110;refine pw_seq ?_;refine pwa ?_;(conv=>whnf);refine pw_cond ?_;(conv=>whnf);refine pbr_oite h110 (fun g111 h110 => ?_) (fun g111 h110 => ?_)
            · (conv=>whnf);refine pw_skip ?_;(conv=>whnf);refine pw_block ?_;refine pwa ?_;(conv=>whnf);refine pw_sd ?_;(conv=>whnf);refine pbr_ogrd h110 (fun g112 h110 => ?_);(conv=>whnf);refine pbr_ogrd h110 (fun g113 h110 => ?_);(conv=>whnf);refine nth_a (l := a0) (f := eI) h110 (fun x114 h115 h110 => ?_);(conv=>whnf);refine pbr_ogrd h110 (fun g117 h110 => ?_);(conv=>whnf);refine pbr_ogrd h110 (fun g118 h110 => ?_);(conv=>whnf);refine nth_a (l := a0) (f := eI) h110 (fun x119 h120 h110 => ?_);(conv=>whnf);refine ⟨?_, trivial⟩;(conv=>whnf);obtain ⟨y122, h123, h110⟩ := obnd_some h110;refine ICallV.go (hp0 _ _ _ h123) ?_
              (conv=>whnf);refine ⟨by repeat (first | exact trivial | refine And.intro rfl ?_ | refine And.intro (lev_a (l := a0) (f := eI) rfl h115) ?_ | refine And.intro (lev_a (l := a0) (f := eI) rfl h120) ?_), ?_⟩;(conv=>whnf);refine pw_cond ?_;(conv=>whnf);refine pbr_oite h110 (fun g124 h110 => ?_) (fun g124 h110 => ?_)
              · (conv=>whnf);refine pw_ops ?_;refine po_all ?_;(conv=>whnf);cases h110;refine ⟨_, rfl, ?_⟩;exact .sub' (nl rfl) (.cons rfl (.cons rfl (.cons rfl (.cons rfl (.cons rfl (.cons rfl (.cons rfl (.cons rfl (.cons rfl (.cons rfl .nil))))))))))
              · (conv=>whnf);refine pw_ops ?_;refine po_all ?_;(conv=>whnf);cases h110;refine ⟨_, rfl, ?_⟩;exact .sub' (nl rfl) (.cons rfl (.cons rfl (.cons rfl (.cons rfl (.cons rfl (.cons rfl (.cons rfl (.cons rfl (.cons rfl (.cons rfl .nil))))))))))
            · (conv=>whnf);refine pw_exit ?_;(conv=>whnf);cases h110;refine ⟨_, rfl, ?_⟩; rintro rfl;(conv=>whnf);exact ⟨by (repeat refine .cons rfl ?_);exact .nil,rfl⟩
        · refine pwa ?_;(conv=>whnf);obtain ⟨r126, h127, H⟩ := obnd_some H;refine pw_join (ρ := (List Int)) (fun e => ⟨[(0, (.slice (some ⟨0, 0, none⟩) a0.length 1)), (1, (.int .i64 a1)), (3, (.int .i64 a3)), (4, g0), (18, (.int .i64 (IntKind.i64.wrap ((IntKind.u64.wrap (IntKind.i64.wrap (a1 + a3))).fdiv (2 ^ (min (1 : Int).toNat (IntKind.bits .u64))))))), (20, (.int .i64 r104)), (24, (.int .i64 (IntKind.i64.wrap ((IntKind.i64.wrap ((IntKind.i64.wrap ((IntKind.u64.wrap (IntKind.i64.wrap (a1 + a3))).fdiv (2 ^ (min (1 : Int).toNat (IntKind.bits .u64))))) + a2)) - r104))))], ⟨1, [(0, .rw (e.map eI))], true⟩⟩) r126 ?_ ?_
          · obtain ⟨r130, h131, h127⟩ := obnd_some h127;refine pw_join (ρ := Bool) (fun e => ⟨[(0, (.slice (some ⟨0, 0, none⟩) a0.length 1)), (1, (.int .i64 a1)), (2, (.int .i64 a2)), (3, (.int .i64 a3)), (4, g0), (18, (.int .i64 (IntKind.i64.wrap ((IntKind.u64.wrap (IntKind.i64.wrap (a1 + a3))).fdiv (2 ^ (min (1 : Int).toNat (IntKind.bits .u64))))))), (20, (.int .i64 r104)), (24, (.int .i64 (IntKind.i64.wrap ((IntKind.i64.wrap ((IntKind.i64.wrap ((IntKind.u64.wrap (IntKind.i64.wrap (a1 + a3))).fdiv (2 ^ (min (1 : Int).toNat (IntKind.bits .u64))))) + a2)) - r104)))), (185, (.bool e))], ⟨1, [(0, .rw (a0.map eI))], true⟩⟩) r130 ?_ ?_
            · refine pw_ops ?_;refine po_all ?_;(conv=>whnf);refine pbr_oite h131 (fun g134 h131 => ?_) (fun g134 h131 => ?_)
              · (conv=>whnf);(iterate 3 refine pbr_t g134 ?_;(conv=>whnf));cases h131;exact ⟨by (repeat refine .cons rfl ?_);exact .nil,rfl⟩
              · (conv=>whnf);(iterate 3 refine pbr_f g134 ?_;(conv=>whnf));cases h131;exact ⟨by (repeat refine .cons rfl ?_);exact .nil,rfl⟩
            · refine pw_cond ?_;(conv=>whnf);refine pbr_oite h127 (fun g135 h127 => ?_) (fun g135 h127 => ?_)
              · (conv=>whnf);refine pw_ops ?_;refine po_all ?_;(conv=>whnf);obtain ⟨y136, h137, h127⟩ := obnd_some h127;refine ICalls.goB (l := a0) (l2 := y136) (c144 hp0 h137) rfl (Nat.beq_refl _) ?_;(conv=>whnf);cases h127;exact ⟨by (repeat refine .cons rfl ?_);exact .nil,rfl⟩
              · (conv=>whnf);refine pw_skip ?_;(conv=>whnf);cases h127;exact ⟨by (repeat refine .cons rfl ?_);exact .nil,rfl⟩
          · obtain ⟨r138, h139, H⟩ := obnd_some H;refine pw_join (ρ := (List Int)) (fun e => ⟨[(0, (.slice (some ⟨0, 0, none⟩) a0.length 1)), (3, (.int .i64 a3)), (4, g0), (18, (.int .i64 (IntKind.i64.wrap ((IntKind.u64.wrap (IntKind.i64.wrap (a1 + a3))).fdiv (2 ^ (min (1 : Int).toNat (IntKind.bits .u64))))))), (24, (.int .i64 (IntKind.i64.wrap ((IntKind.i64.wrap ((IntKind.i64.wrap ((IntKind.u64.wrap (IntKind.i64.wrap (a1 + a3))).fdiv (2 ^ (min (1 : Int).toNat (IntKind.bits .u64))))) + a2)) - r104))))], ⟨1, [(0, .rw (e.map eI))], true⟩⟩) r138 ?_ ?_
            · obtain ⟨r142, h143, h139⟩ := obnd_some h139;refine pw_join (ρ := Bool) (fun e => ⟨[(0, (.slice (some ⟨0, 0, none⟩) a0.length 1)), (1, (.int .i64 a1)), (3, (.int .i64 a3)), (4, g0), (18, (.int .i64 (IntKind.i64.wrap ((IntKind.u64.wrap (IntKind.i64.wrap (a1 + a3))).fdiv (2 ^ (min (1 : Int).toNat (IntKind.bits .u64))))))), (20, (.int .i64 r104)), (24, (.int .i64 (IntKind.i64.wrap ((IntKind.i64.wrap ((IntKind.i64.wrap ((IntKind.u64.wrap (IntKind.i64.wrap (a1 + a3))).fdiv (2 ^ (min (1 : Int).toNat (IntKind.bits .u64))))) + a2)) - r104)))), (199, (.bool e))], ⟨1, [(0, .rw (r126.map eI))], true⟩⟩) r142 ?_ ?_
              · refine pw_ops ?_;refine po_all ?_;(conv=>whnf);refine pbr_oite h143 (fun g146 h143 => ?_) (fun g146 h143 => ?_)
                · (conv=>whnf);(iterate 3 refine pbr_t g146 ?_;(conv=>whnf));cases h143;exact ⟨by (repeat refine .cons rfl ?_);exact .nil,rfl⟩
                · (conv=>whnf);(iterate 3 refine pbr_f g146 ?_;(conv=>whnf));cases h143;exact ⟨by (repeat refine .cons rfl ?_);exact .nil,rfl⟩
              · refine pw_cond ?_;(conv=>whnf);refine pbr_oite h139 (fun g147 h139 => ?_) (fun g147 h139 => ?_)
                · (conv=>whnf);refine pw_ops ?_;refine po_all ?_;(conv=>whnf);obtain ⟨g148, h139⟩ := ogrd_some h139;obtain ⟨y149, h150, h139⟩ := obnd_some h139;refine ICalls.goB (l := r126) (l2 := y149) (hp99 h150) rfl g148 ?_;(conv=>whnf);cases h139;exact ⟨by (repeat refine .cons rfl ?_);exact .nil,rfl⟩
                · (conv=>whnf);refine pw_skip ?_;(conv=>whnf);cases h139;exact ⟨by (repeat refine .cons rfl ?_);exact .nil,rfl⟩
            · obtain ⟨r151, h152, H⟩ := obnd_some H;refine pw_join (ρ := Bool) (fun e => ⟨[(0, (.slice (some ⟨0, 0, none⟩) a0.length 1)), (3, (.int .i64 a3)), (4, g0), (18, (.int .i64 (IntKind.i64.wrap ((IntKind.u64.wrap (IntKind.i64.wrap (a1 + a3))).fdiv (2 ^ (min (1 : Int).toNat (IntKind.bits .u64))))))), (24, (.int .i64 (IntKind.i64.wrap ((IntKind.i64.wrap ((IntKind.i64.wrap ((IntKind.u64.wrap (IntKind.i64.wrap (a1 + a3))).fdiv (2 ^ (min (1 : Int).toNat (IntKind.bits .u64))))) + a2)) - r104)))), (213, (.bool e))], ⟨1, [(0, .rw (r138.map eI))], true⟩⟩) r151 ?_ ?_
              · refine pw_ops ?_;refine po_all ?_;(conv=>whnf);refine pbr_oite h152 (fun g155 h152 => ?_) (fun g155 h152 => ?_)
                · (conv=>whnf);(iterate 3 refine pbr_t g155 ?_;(conv=>whnf));cases h152;exact ⟨by (repeat refine .cons rfl ?_);exact .nil,rfl⟩
                · (conv=>whnf);(iterate 3 refine pbr_f g155 ?_;(conv=>whnf));cases h152;exact ⟨by (repeat refine .cons rfl ?_);exact .nil,rfl⟩
              · refine pw_cond ?_;(conv=>whnf);refine pbr_oite H (fun g156 H => ?_) (fun g156 H => ?_)
                · (conv=>whnf);refine pw_ops ?_;refine po_all ?_;(conv=>whnf);obtain ⟨g157, H⟩ := ogrd_some H;obtain ⟨y158, h159, H⟩ := obnd_some H;refine ICalls.goB (l := r138) (l2 := y158) (hp99 h159) rfl g157 ?_;(conv=>whnf);cases H;exact ⟨rfl, rfl⟩
                · (conv=>whnf);refine pw_skip ?_;(conv=>whnf);cases H;exact ⟨rfl, rfl⟩
noncomputable def f137n [LO] (p0 : Int → Int → Option Int) : Nat → (List Int) → Int → Int → Int → Option ((List Int))
 | 0 => fun _ _ _ _ => none
 | n + 1 => r137 p0 (f137n p0 n)
theorem c137n [LO] {p0 : Int → Int → Option Int} {g0 : Value} [Cl g0] (hp0 : ∀ y0 y1 y, p0 y0 y1 = some y → ICallV E g0 [(.int .i64 y0), (.int .i64 y1)] AHeap.none fun v _ => v = (.int .i64 y)) : ∀ (n : Nat) {a0 : List Int} {a1 : Int} {a2 : Int} {a3 : Int} {x : (List Int)}, f137n p0 n a0 a1 a2 a3 = some x → ICalls E 137 [(.slice (some ⟨0, 0, none⟩) a0.length 1), (.int .i64 a1), (.int .i64 a2), (.int .i64 a3), g0] (hOne a0) fun v h'' => v = .tuple #[] ∧ h'' = hOne x
  | 0, _, _, _, _, _, H => by cases H
  | n + 1, _, _, _, _, _, H => cr137 hp0 (fun h => c137n hp0 n h) H
noncomputable def f137 [LO] (p0 : Int → Int → Option Int) (a0 : List Int) (a1 : Int) (a2 : Int) (a3 : Int) : Option ((List Int)) := f137n p0 ((a3 - a1).toNat + 1) a0 a1 a2 a3
theorem c137 [LO] {p0 : Int → Int → Option Int} {g0 : Value} [Cl g0] (hp0 : ∀ y0 y1 y, p0 y0 y1 = some y → ICallV E g0 [(.int .i64 y0), (.int .i64 y1)] AHeap.none fun v _ => v = (.int .i64 y)) {a0 : List Int} {a1 : Int} {a2 : Int} {a3 : Int} {x : (List Int)} (H : f137 p0 a0 a1 a2 a3 = some x) : ICalls E 137 [(.slice (some ⟨0, 0, none⟩) a0.length 1), (.int .i64 a1), (.int .i64 a2), (.int .i64 a3), g0] (hOne a0) fun v h'' => v = .tuple #[] ∧ h'' = hOne x := c137n hp0 _ H

/-- slices.stableCmpFunc[int] -/
noncomputable def f120 [LO] (p0 : Int → Int → Option Int) (a0 : List Int) (a1 : Int) : Option ((List Int)) :=
 obnd (
 oloop (τ := Int × Int × (List Int)) (ρ := Int × (List Int)) (fun e5 =>
 oite ((ile e5.2.1 a1)) (
 ogrd (Nat.beq a0.length e5.2.2.length) (
 obnd (f136 p0 e5.2.2 e5.1 e5.2.1) fun (y10 : List Int) =>
 some (.inl (e5.2.1, (IntKind.i64.wrap (e5.2.1 + (20 : Int))), y10)))
 ) (
 some (.inr ((e5.1, e5.2.2))))
 ) (((0 : Int), (20 : Int), a0))
 ) fun (r1 : Int × (List Int)) =>
 ogrd (Nat.beq a0.length r1.2.length) (
 obnd (f136 p0 r1.2 r1.1 a1) fun (y14 : List Int) =>
 oloop (τ := Int × (List Int)) (ρ := (List Int)) (fun e16 =>
 oite ((ilt e16.1 a1)) (
 obnd (
 oloop (τ := Int × Int × (List Int)) (ρ := Int × (List Int)) (fun e24 =>
 oite ((ile e24.2.1 a1)) (
 ogrd (Nat.beq a0.length e24.2.2.length) (
 obnd (f137 p0 e24.2.2 e24.1 (IntKind.i64.wrap (e24.1 + e16.1)) e24.2.1) fun (y29 : List Int) =>
 some (.inl (e24.2.1, (IntKind.i64.wrap (e24.2.1 + (IntKind.i64.wrap ((2 : Int) * e16.1)))), y29)))
 ) (
 some (.inr ((e24.1, e24.2.2))))
 ) (((0 : Int), (IntKind.i64.wrap ((2 : Int) * e16.1)), e16.2))
 ) fun (r20 : Int × (List Int)) =>
 oite ((ilt (IntKind.i64.wrap (r20.1 + e16.1)) a1)) (
 ogrd (Nat.beq a0.length r20.2.length) (
 obnd (f137 p0 r20.2 r20.1 (IntKind.i64.wrap (r20.1 + e16.1)) a1) fun (y34 : List Int) =>
 some (.inl ((IntKind.i64.wrap (e16.1 * (2 : Int))), y34)))
 ) (
 some (.inl ((IntKind.i64.wrap (e16.1 * (2 : Int))), r20.2)))
 ) (
 some (.inr (e16.2)))
 ) ((20 : Int), y14))
theorem c120 [LO] {p0 : Int → Int → Option Int} {a0 : List Int} {a1 : Int} {g0 : Value} [Cl g0] (hp0 : ∀ y0 y1 y, p0 y0 y1 = some y → ICallV E g0 [(.int .i64 y0), (.int .i64 y1)] AHeap.none fun v _ => v = (.int .i64 y)) {x : (List Int)} (H : f120 p0 a0 a1 = some x) : ICalls E 120 [(.slice (some ⟨0, 0, none⟩) a0.length 1), (.int .i64 a1), g0] (hOne a0) fun v h'' => v = .tuple #[] ∧ h'' = hOne x := by
  refine icalls_fn (pfnw ?_); unfold f120 at H;(conv=>whnf);refine pwa ?_;(conv=>whnf);refine pwa ?_;(conv=>whnf);obtain ⟨r1, h2, H⟩ := obnd_some H;refine pw_join (ρ := Int × (List Int)) (fun e => ⟨[(0, (.slice (some ⟨0, 0, none⟩) a0.length 1)), (1, (.int .i64 a1)), (2, g0), (6, (.int .i64 20)), (7, (.int .i64 e.1))], ⟨1, [(0, .rw (e.2.map eI))], true⟩⟩) r1 ?_ ?_
  · refine pw_block ?_;refine pw_loop (τ := Int × Int × (List Int)) (fun e => ⟨[(0, (.slice (some ⟨0, 0, none⟩) a0.length 1)), (1, (.int .i64 a1)), (2, g0), (6, (.int .i64 20)), (7, (.int .i64 e.1)), (8, (.int .i64 e.2.1))], ⟨1, [(0, .rw (e.2.2.map eI))], true⟩⟩) h2 ?_ (fun _ => nl rfl) ?_
    · exact .sub' (nl rfl) (.cons rfl (.cons rfl (.cons rfl (.cons rfl (.cons rfl (.cons rfl .nil))))))
    · intro e5 x6 h7;refine pw_seq ?_;refine pwa ?_;(conv=>whnf);refine pw_cond ?_;(conv=>whnf);refine pbr_oite h7 (fun g8 h7 => ?_) (fun g8 h7 => ?_)
      · (conv=>whnf);refine pw_skip ?_;(conv=>whnf);refine pw_block ?_;refine pwa ?_;(conv=>whnf);obtain ⟨g9, h7⟩ := ogrd_some h7;obtain ⟨y10, h11, h7⟩ := obnd_some h7;refine ICalls.goB (l := e5.2.2) (l2 := y10) (c136 hp0 h11) rfl g9 ?_;(conv=>whnf);refine pwa ?_;(conv=>whnf);refine pw_ops ?_;refine po_all ?_;(conv=>whnf);cases h7;refine ⟨_, rfl, ?_⟩;exact .sub' (nl rfl) (.cons rfl (.cons rfl (.cons rfl (.cons rfl (.cons rfl (.cons rfl .nil))))))
      · (conv=>whnf);refine pw_exit ?_;(conv=>whnf);cases h7;refine ⟨_, rfl, ?_⟩; rintro rfl;(conv=>whnf);exact ⟨by (repeat refine .cons rfl ?_);exact .nil,rfl⟩
  · refine pwa ?_;(conv=>whnf);obtain ⟨g13, H⟩ := ogrd_some H;obtain ⟨y14, h15, H⟩ := obnd_some H;refine ICalls.goB (l := r1.2) (l2 := y14) (c136 hp0 h15) rfl g13 ?_;(conv=>whnf);refine pw_block ?_;refine pw_loop (τ := Int × (List Int)) (fun e => ⟨[(0, (.slice (some ⟨0, 0, none⟩) a0.length 1)), (1, (.int .i64 a1)), (2, g0), (6, (.int .i64 e.1))], ⟨1, [(0, .rw (e.2.map eI))], true⟩⟩) H ?_ (fun _ => nl rfl) ?_
    · exact .sub' (nl rfl) (.cons rfl (.cons rfl (.cons rfl (.cons rfl .nil))))
    · intro e16 x17 h18;refine pw_seq ?_;refine pwa ?_;(conv=>whnf);refine pw_cond ?_;(conv=>whnf);refine pbr_oite h18 (fun g19 h18 => ?_) (fun g19 h18 => ?_)
      · (conv=>whnf);refine pw_skip ?_;(conv=>whnf);refine pw_block ?_;refine pwa ?_;(conv=>whnf);obtain ⟨r20, h21, h18⟩ := obnd_some h18;refine pw_join (ρ := Int × (List Int)) (fun e => ⟨[(0, (.slice (some ⟨0, 0, none⟩) a0.length 1)), (1, (.int .i64 a1)), (2, g0), (6, (.int .i64 e16.1)), (7, (.int .i64 e.1))], ⟨1, [(0, .rw (e.2.map eI))], true⟩⟩) r20 ?_ ?_
        · refine pw_block ?_;refine pw_loop (τ := Int × Int × (List Int)) (fun e => ⟨[(0, (.slice (some ⟨0, 0, none⟩) a0.length 1)), (1, (.int .i64 a1)), (2, g0), (6, (.int .i64 e16.1)), (7, (.int .i64 e.1)), (8, (.int .i64 e.2.1))], ⟨1, [(0, .rw (e.2.2.map eI))], true⟩⟩) h21 ?_ (fun _ => nl rfl) ?_
          · exact .sub' (nl rfl) (.cons rfl (.cons rfl (.cons rfl (.cons rfl (.cons rfl (.cons rfl .nil))))))
          · intro e24 x25 h26;refine pw_seq ?_;refine pwa ?_;(conv=>whnf);refine pw_cond ?_;(conv=>whnf);refine pbr_oite h26 (fun g27 h26 => ?_) (fun g27 h26 => ?_)
            · (conv=>whnf);refine pw_skip ?_;(conv=>whnf);refine pw_block ?_;refine pwa ?_;(conv=>whnf);obtain ⟨g28, h26⟩ := ogrd_some h26;obtain ⟨y29, h30, h26⟩ := obnd_some h26;refine ICalls.goB (l := e24.2.2) (l2 := y29) (c137 hp0 h30) rfl g28 ?_;(conv=>whnf);refine pwa ?_;(conv=>whnf);refine pw_ops ?_;refine po_all ?_;(conv=>whnf);cases h26;refine ⟨_, rfl, ?_⟩;exact .sub' (nl rfl) (.cons rfl (.cons rfl (.cons rfl (.cons rfl (.cons rfl (.cons rfl .nil))))))
            · (conv=>whnf);refine pw_exit ?_;(conv=>whnf);cases h26;refine ⟨_, rfl, ?_⟩; rintro rfl;(conv=>whnf);exact ⟨by (repeat refine .cons rfl ?_);exact .nil,rfl⟩
        · refine pw_seq ?_;refine pwa ?_;(conv=>whnf);refine pwa ?_;(conv=>whnf);refine pw_cond ?_;(conv=>whnf);refine pbr_oite h18 (fun g32 h18 => ?_) (fun g32 h18 => ?_)
          · (conv=>whnf);refine pw_ops ?_;refine po_all ?_;(conv=>whnf);obtain ⟨g33, h18⟩ := ogrd_some h18;obtain ⟨y34, h35, h18⟩ := obnd_some h18;refine ICalls.goB (l := r20.2) (l2 := y34) (c137 hp0 h35) rfl g33 ?_;(conv=>whnf);refine pw_ops ?_;refine po_all ?_;(conv=>whnf);cases h18;refine ⟨_, rfl, ?_⟩;exact .sub' (nl rfl) (.cons rfl (.cons rfl (.cons rfl (.cons rfl .nil))))
          · (conv=>whnf);refine pw_skip ?_;(conv=>whnf);refine pw_ops ?_;refine po_all ?_;(conv=>whnf);cases h18;refine ⟨_, rfl, ?_⟩;exact .sub' (nl rfl) (.cons rfl (.cons rfl (.cons rfl (.cons rfl .nil))))
      · (conv=>whnf);refine pw_exit ?_;(conv=>whnf);cases h18;refine ⟨_, rfl, ?_⟩; rintro rfl;(conv=>whnf);exact ⟨rfl, rfl⟩

/-- slices.SortStableFunc[[]int,int] -/
noncomputable def f106 [LO] (p0 : Int → Int → Option Int) (a0 : List Int) : Option ((List Int)) :=
 obnd (f120 p0 a0 (a0.length : Int)) fun (y1 : List Int) =>
 some y1
theorem c106 [LO] {p0 : Int → Int → Option Int} {a0 : List Int} {g0 : Value} [Cl g0] (hp0 : ∀ y0 y1 y, p0 y0 y1 = some y → ICallV E g0 [(.int .i64 y0), (.int .i64 y1)] AHeap.none fun v _ => v = (.int .i64 y)) {x : (List Int)} (H : f106 p0 a0 = some x) : ICalls E 106 [(.slice (some ⟨0, 0, none⟩) a0.length 1), g0] (hOne a0) fun v h'' => v = .tuple #[] ∧ h'' = hOne x := by
  refine icalls_fn (pfnw ?_); unfold f106 at H;(conv=>whnf);refine pw_ops ?_;refine po_all ?_;(conv=>whnf);obtain ⟨y1, h2, H⟩ := obnd_some H;refine ICalls.goB (l := a0) (l2 := y1) (c120 hp0 h2) rfl (Nat.beq_refl _) ?_;(conv=>whnf);cases H;exact ⟨rfl, rfl⟩

/-- cmp.isNaN[int] -/
noncomputable def f121  (a0 : Int) : Option Bool :=
 some (!(ieq a0 a0))
theorem c121  {a0 : Int} {x : Bool} (H : f121 a0 = some x) : ICalls E 121 [(.int .i64 a0)] AHeap.none fun v _ => v = (.bool x) := by
  refine icalls_fn (pfnw ?_); unfold f121 at H;(conv=>whnf);refine pwa ?_;(conv=>whnf);refine pwa ?_;(conv=>whnf);refine pw_ret ?_;(conv=>whnf);cases H; rfl

/-- cmp.Compare[int] -/
noncomputable def f108  (a0 : Int) (a1 : Int) : Option Int :=
 obnd (f121 a0) fun (y1 : Bool) =>
 obnd (f121 a1) fun (y3 : Bool) =>
 oite y1 (
 oite y3 (
 some (0 : Int)
 ) (
 some (-1 : Int))
 ) (
 oite y3 (
 some (1 : Int)
 ) (
 oite ((ilt a0 a1)) (
 some (-1 : Int)
 ) (
 oite ((ilt a1 a0)) (
 some (1 : Int)
 ) (
 some (0 : Int)))))
theorem c108  {a0 : Int} {a1 : Int} {x : Int} (H : f108 a0 a1 = some x) : ICalls E 108 [(.int .i64 a0), (.int .i64 a1)] AHeap.none fun v _ => v = (.int .i64 x) := by
  refine icalls_fn (pfnw ?_); unfold f108 at H;(conv=>whnf);refine pwa ?_;(conv=>whnf);refine pwa ?_;(conv=>whnf);obtain ⟨y1, h2, H⟩ := obnd_some H;refine (c121 h2).go ?_;(conv=>whnf);refine pwa ?_;(conv=>whnf);obtain ⟨y3, h4, H⟩ := obnd_some H;refine (c121 h4).go ?_;(conv=>whnf);refine pw_seq ?_;refine pwa ?_;(conv=>whnf);refine pw_cond ?_;(conv=>whnf);refine pbr_oite H (fun g5 H => ?_) (fun g5 H => ?_)
  · (conv=>whnf);refine pw_seq ?_;refine pwa ?_;(conv=>whnf);refine pw_cond ?_;(conv=>whnf);refine pbr_oite H (fun g6 H => ?_) (fun g6 H => ?_)
    · (conv=>whnf);refine pwa ?_;(conv=>whnf);refine pw_ret ?_;(conv=>whnf);cases H; rfl
    · (conv=>whnf);refine pw_skip ?_;(conv=>whnf);refine pwa ?_;(conv=>whnf);refine pw_ret ?_;(conv=>whnf);cases H; rfl
  · (conv=>whnf);refine pw_skip ?_;(conv=>whnf);refine pw_seq ?_;refine pwa ?_;(conv=>whnf);refine pw_cond ?_;(conv=>whnf);refine pbr_oite H (fun g7 H => ?_) (fun g7 H => ?_)
    · (conv=>whnf);refine pwa ?_;(conv=>whnf);refine pw_ret ?_;(conv=>whnf);cases H; rfl
    · (conv=>whnf);refine pw_skip ?_;(conv=>whnf);refine pw_seq ?_;refine pwa ?_;(conv=>whnf);refine pw_cond ?_;(conv=>whnf);refine pbr_oite H (fun g8 H => ?_) (fun g8 H => ?_)
      · (conv=>whnf);refine pwa ?_;(conv=>whnf);refine pw_ret ?_;(conv=>whnf);cases H; rfl
      · (conv=>whnf);refine pw_skip ?_;(conv=>whnf);refine pw_seq ?_;refine pwa ?_;(conv=>whnf);refine pw_cond ?_;(conv=>whnf);refine pbr_oite H (fun g9 H => ?_) (fun g9 H => ?_)
        · (conv=>whnf);refine pwa ?_;(conv=>whnf);refine pw_ret ?_;(conv=>whnf);cases H; rfl
        · (conv=>whnf);refine pw_skip ?_;(conv=>whnf);refine pwa ?_;(conv=>whnf);refine pw_ret ?_;(conv=>whnf);cases H; rfl

/-- (guidevane/dam.valley).sweep$2 -/
noncomputable def f107  (a0 : Int) (a1 : Int) (_ : List (Int × Int)) (a3 : List Int) : Option Int :=
 ogrd ((ile 0 a0)) (
 obnd (a3[a0.toNat]?) fun (x2 : Int) =>
 ogrd ((ile 0 a1)) (
 obnd (a3[a1.toNat]?) fun (x4 : Int) =>
 obnd (f108 x2 x4) fun (y5 : Int) =>
 some y5))
theorem c107  {a0 : Int} {a1 : Int} {a2 : List (Int × Int)} {a3 : List Int} {x : Int} (H : f107 a0 a1 a2 a3 = some x) : ICallV E (.func (.func (E.id 107)) ⟨[]⟩ ⟨[(VP (.agg ⟨[(VS 2 (a2.map e_II)), (VS 1 (a3.map eI))]⟩) 0)]⟩) [(.int .i64 a0), (.int .i64 a1)] AHeap.none fun v _ => v = (.int .i64 x) := by
  refine icallv_fn (pfnw ?_); unfold f107 at H;(conv=>whnf);refine pwa ?_;(conv=>whnf);refine pw_sd ?_;(conv=>whnf);refine pbr_ogrd H (fun g1 H => ?_);(conv=>whnf);refine nth_o (l := a3) H (fun x2 _ H => ?_);(conv=>whnf);refine pbr_ogrd H (fun g3 H => ?_);(conv=>whnf);refine nth_o (l := a3) H (fun x4 _ H => ?_);(conv=>whnf);refine ⟨?_, trivial⟩;(conv=>whnf);obtain ⟨y5, h6, H⟩ := obnd_some H;refine (c108 h6).go ?_;(conv=>whnf);refine ⟨by trivial,?_⟩;(conv=>whnf);refine pw_ret ?_;(conv=>whnf);cases H; rfl

/-- (guidevane/dam.valley).sweep -/
noncomputable def f74 [LO]  (a0 : List (Int × Int)) (a1 : List Int) (a2 : List Int) (a3 : Int) : Option ((Option (List Int)) × Bool) :=
 obnd (
 oloop (τ := (Option (List Int)) × Int) (ρ := (Option (List Int))) (fun e5 =>
 oite ((ilt e5.2 ((a1.map eI).length : Int))) (
 obnd (f80 (fun (z0 : Int) => f104 z0 a0 a1 e5.2) a2) fun (y9 : Bool) =>
 oite (!y9) (
 ocase e5.1 (
 some (.inl (((some ([e5.2] : List Int)), (IntKind.i64.wrap (e5.2 + (1 : Int))))))
 ) fun (m13 : List Int) =>
 ogrd (fits 8 (m13.length + ([e5.2] : List Int).length)) (
 some (.inl (((some (m13 ++ ([e5.2] : List Int))), (IntKind.i64.wrap (e5.2 + (1 : Int)))))))
 ) (
 some (.inl (e5.1, (IntKind.i64.wrap (e5.2 + (1 : Int))))))
 ) (
 some (.inr (e5.1)))
 ) (none, (0 : Int))
 ) fun (r1 : (Option (List Int))) =>
 ocase r1 (
 obnd (
 some ()
 ) fun (_ : Unit) =>
 obnd (
 some ()
 ) fun (_ : Unit) =>
 some (none, true)
 ) fun (m16 : List Int) =>
 obnd (f106 (fun (z0 : Int) (z1 : Int) => f107 z0 z1 a0 a1) m16) fun (y25 : List Int) =>
 obndS (
 oloop (τ := (Option (List Int)) × Int × Int) (ρ := ((Option (List Int))) ⊕ ((Option (List Int)) × Bool)) (fun e31 =>
 oite ((ilt e31.2.2 (m16.length : Int))) (
 ogrd ((ile 0 e31.2.2)) (
 obnd (y25[e31.2.2.toNat]?) fun (x36 : Int) =>
 ogrd ((ile 0 x36)) (
 obnd (a1[x36.toNat]?) fun (x40 : Int) =>
 oite ((ile x40 e31.2.1)) (
 some (.inl (e31.1, e31.2.1, (IntKind.i64.wrap (e31.2.2 + (1 : Int)))))
 ) (
 obnd (
 obnd (oslL a0 a3) fun (m46 : List (Int × Int)) =>
 oloop (τ := Int × Int) (ρ := Int) (fun e49 =>
 oite ((ilt e49.2 ((m46.map e_II).length : Int))) (
 ogrd ((ile 0 e49.2)) (
 obnd (m46[e49.2.toNat]?) fun (x54 : Int × Int) =>
 obnd (f105 a0 a1 x36 x54.1 x54.2) fun (y55 : Bool) =>
 oite y55 (
 some (.inl (((imax e49.1 (IntKind.i64.wrap (x54.1 + x54.2))), (IntKind.i64.wrap (e49.2 + (1 : Int))))))
 ) (
 some (.inl (e49.1, (IntKind.i64.wrap (e49.2 + (1 : Int)))))))
 ) (
 some (.inr (e49.1)))
 ) (((-1 : Int), (0 : Int)))
 ) fun (r42 : Int) =>
 oite ((ilt r42 (0 : Int))) (
 some (.inr (.inr ((none, false))))
 ) (
 ocase e31.1 (
 some (.inl (((some ([x36] : List Int)), r42, (IntKind.i64.wrap (e31.2.2 + (1 : Int))))))
 ) fun (m62 : List Int) =>
 ogrd (fits 8 (m62.length + ([x36] : List Int).length)) (
 some (.inl (((some (m62 ++ ([x36] : List Int))), r42, (IntKind.i64.wrap (e31.2.2 + (1 : Int)))))))))))
 ) (
 some (.inr (.inl e31.1)))
 ) ((none, (-1 : Int), (0 : Int)))
 ) fun (r64 : (Option (List Int))) =>
 ocase r64 (
 some (none, true)
 ) fun (m66 : List Int) =>
 some ((some m66), true)
theorem c74 [LO]  {a0 : List (Int × Int)} {a1 : List Int} {a2 : List Int} {a3 : Int} {x : (Option (List Int)) × Bool} (H : f74 a0 a1 a2 a3 = some x) : ICalls E 74 [(.agg ⟨[(VS 2 (a0.map e_II)), (VS 1 (a1.map eI))]⟩), (VS 1 (a2.map eI)), (.int .i64 a3)] AHeap.none fun v h' => ∃ b c, v = .tuple ⟨[nsv b x.1 c, (.bool x.2)]⟩ ∧ h'.get b = (nso x.1).live := by
  refine ICalls.modeT ?_;refine icalls_fn (pfnw ?_); unfold f74 at H;(conv=>whnf);refine pw_soR ?_;refine po_all ?_;(conv=>whnf);refine ⟨⟨[(1, (VS 1 (a2.map eI))), (2, (.int .i64 a3)), (3, (VP (.agg ⟨[(VS 2 (a0.map e_II)), (VS 1 (a1.map eI))]⟩) 0))], ⟨1, [], true⟩⟩, Recast.fz (fun b => Nat.beq b 0) (nl rfl) .nil (.cons rfl (.same _ .cl) (.cons rfl (.same _ .cl) (.cons rfl (.ptrc rfl rfl rfl) .nil))), ?_⟩;refine pwa ?_;(conv=>whnf);obtain ⟨r1, h2, H⟩ := obnd_some H;refine pw_join (ρ := (Option (List Int))) (fun e => ⟨[(2, (.int .i64 a3)), (3, (VP (.agg ⟨[(VS 2 (a0.map e_II)), (VS 1 (a1.map eI))]⟩) 0)), (8, (nsv 1 e 2))], ⟨2, [(1, nso e)], true⟩⟩) r1 ?_ ?_
  · refine pwa ?_;(conv=>whnf);refine pw_block ?_;refine pw_loop (τ := (Option (List Int)) × Int) (fun e => ⟨[(1, (VS 1 (a2.map eI))), (2, (.int .i64 a3)), (3, (VP (.agg ⟨[(VS 2 (a0.map e_II)), (VS 1 (a1.map eI))]⟩) 0)), (8, (nsv 1 e.1 2)), (19, (.int .i64 ((a1.map eI).length : Int))), (20, (.int .i64 e.2))], ⟨2, [(1, nso e.1)], true⟩⟩) h2 ?_ (fun _ => nl rfl) ?_
    · exact ((Recast.sub' (nl rfl) (.cons rfl (.cons rfl (.cons rfl (.cons rfl (.cons rfl (.cons rfl .nil)))))) : Recast _ _ ⟨[(1, (VS 1 (a2.map eI))), (2, (.int .i64 a3)), (3, (VP (.agg ⟨[(VS 2 (a0.map e_II)), (VS 1 (a1.map eI))]⟩) 0)), (8, (.slice none 0 0)), (19, (.int .i64 ((a1.map eI).length : Int))), (20, (.int .i64 0))], ⟨1, [], true⟩⟩).trans (Recast.deadn 1 (nl rfl) (nl rfl)))
    · intro e5 x6 h7;refine pwa ?_;(conv=>whnf);refine pw_seq ?_;refine pw_cond ?_;(conv=>whnf);refine pbr_oite h7 (fun g8 h7 => ?_) (fun g8 h7 => ?_)
      · (conv=>whnf);refine pw_skip ?_;(conv=>whnf);refine pw_seq ?_;refine pw_block ?_;refine pwa ?_;(conv=>whnf);refine pwa ?_;(conv=>whnf);obtain ⟨y9, h10, h7⟩ := obnd_some h7;refine ICalls.goD (c80 (fun _ _ h => (c104 h)) h10) (.cons .cl (.cons (.func .nil (.cons .cl (.cons (.ptr rfl (by intro v hv; simp only [List.mem_cons, List.not_mem_nil, or_false] at hv; rcases hv with rfl <;> rfl)) .nil))) .nil)) rfl ?_;(conv=>whnf);refine pw_cond ?_;(conv=>whnf);refine pbr_oite h7 (fun g11 h7 => ?_) (fun g11 h7 => ?_)
        · (conv=>whnf);refine pw_ops ?_;refine po_all ?_;(conv=>whnf);refine ocase_o h7 (fun g12 h7 => ?_) (fun m13 g12 h7 => ?_)
          · rw [g12];(conv=>whnf);refine ⟨by first | decide | simp [chunk], by first | decide | simp [chunk], ?_⟩;(conv=>whnf);refine pw_ops ?_;refine po_all ?_;(conv=>whnf);cases h7;refine ⟨_, rfl, ?_⟩;refine Recast.trans (s' := ⟨[(1, (VS 1 (a2.map eI))), (2, (.int .i64 a3)), (3, (VP (.agg ⟨[(VS 2 (a0.map e_II)), (VS 1 (a1.map eI))]⟩) 0)), (8, (.slice (some ⟨4, 0, none⟩) ([e5.2] : List Int).length 2)), (19, (.int .i64 ((a1.map eI).length : Int))), (20, (.int .i64 (IntKind.i64.wrap (e5.2 + (1 : Int)))))], ⟨5, [(4, .rw (([e5.2] : List Int).map eI))], true⟩⟩) (by exact Recast.fz (fun _ => false) (nl rfl) (.cons (.same rfl rfl (OBnd.rwc (nl rfl) (oneL_map fun _ => rfl))) .nil) (.cons rfl (.same _ .cl) (.cons rfl (.same _ .cl) (.cons rfl (.same _ .cl) (.cons rfl (.same _ (.slice (nl rfl))) (.cons rfl (.same _ .cl) (.cons rfl (.same _ .cl) .nil))))))) ?_
            exact (Recast.mv 4 1 (nl rfl) (nl rfl) (.cons (.mv rfl (nl rfl) rfl (oneL_map fun _ => rfl) .cl) .nil) (.cons rfl .cl (.cons rfl .cl (.cons rfl .cl (.cons rfl (.slicem (nl rfl)) (.cons rfl .cl (.cons rfl .cl .nil)))))))
          · rw [g12];(conv=>whnf);refine appg_o (l := m13) (m := ([e5.2] : List Int)) h7 (Nat.beq_refl _) rfl (fun h7 => ?_);(conv=>whnf);refine pw_ops ?_;refine po_all ?_;(conv=>whnf);cases h7;refine ⟨_, rfl, ?_⟩;refine Recast.trans (s' := ⟨[(1, (VS 1 (a2.map eI))), (2, (.int .i64 a3)), (3, (VP (.agg ⟨[(VS 2 (a0.map e_II)), (VS 1 (a1.map eI))]⟩) 0)), (8, (.slice (some ⟨4, 0, none⟩) (m13 ++ ([e5.2] : List Int)).length 2)), (19, (.int .i64 ((a1.map eI).length : Int))), (20, (.int .i64 (IntKind.i64.wrap (e5.2 + (1 : Int)))))], ⟨5, [(4, .rw ((m13 ++ ([e5.2] : List Int)).map eI))], true⟩⟩) (by exact Recast.fz (fun _ => false) (nl rfl) (.cons (.same rfl rfl (OBnd.rwc (nl rfl) (oneL_map fun _ => rfl))) .nil) (.cons rfl (.same _ .cl) (.cons rfl (.same _ .cl) (.cons rfl (.same _ .cl) (.cons rfl (.same _ (.slice (nl rfl))) (.cons rfl (.same _ .cl) (.cons rfl (.same _ .cl) .nil))))))) ?_
            exact (Recast.mv 4 1 (nl rfl) (nl rfl) (.cons (.mv rfl (nl rfl) rfl (oneL_map fun _ => rfl) .cl) .nil) (.cons rfl .cl (.cons rfl .cl (.cons rfl .cl (.cons rfl (.slicem (nl rfl)) (.cons rfl .cl (.cons rfl .cl .nil)))))))
        · (conv=>whnf);refine pw_skip ?_;(conv=>whnf);refine pw_ops ?_;refine po_all ?_;(conv=>whnf);cases h7;refine ⟨_, rfl, ?_⟩;exact Recast.fz (fun _ => false) (nl rfl) (.cons (.same rfl rfl (.ns (nl rfl))) .nil) (.cons rfl (.same _ .cl) (.cons rfl (.same _ .cl) (.cons rfl (.same _ .cl) (.cons rfl (.same _ (.ns (nl rfl))) (.cons rfl (.same _ .cl) (.cons rfl (.same _ .cl) .nil))))))
      · (conv=>whnf);refine pw_exit ?_;(conv=>whnf);cases h7;refine ⟨_, rfl, ?_⟩; rintro rfl;(conv=>whnf);exact ⟨(.cons rfl (.cons rfl (.cons rfl .nil))), rfl⟩
  · refine pwa ?_;(conv=>whnf);refine ocase_o H (fun g15 H => ?_) (fun m16 g15 H => ?_)
    · rw [g15];(conv=>whnf);refine pcalls_in ?_;(conv=>whnf);refine pw_ops ?_;refine po_all ?_;(conv=>whnf);refine pcalls_in ?_;(conv=>whnf);refine pwa ?_;(conv=>whnf);refine pwa ?_;(conv=>whnf);obtain ⟨r17, h18, H⟩ := obnd_some H;refine pw_join (ρ := Unit) (fun e => ⟨[(0, (.slice none 0 0)), (1, (.int .i64 0)), (2, (.func (.func (E.id 107)) ⟨[]⟩ ⟨[(VP (.agg ⟨[(VS 2 (a0.map e_II)), (VS 1 (a1.map eI))]⟩) 0)]⟩)), (6, (.int .i64 20)), (7, (.int .i64 0))], ⟨2, [(1, .dead)], true⟩⟩) r17 ?_ ?_
      · refine pw_block ?_;refine pw_unroll 1 ?_;(conv=>whnf);refine pw_seq ?_;refine pwa ?_;(conv=>whnf);refine pw_cond ?_;(conv=>whnf);refine pw_exit ?_;(conv=>whnf);cases h18;exact ⟨by (repeat refine .cons rfl ?_);exact .nil,rfl⟩
      · refine pwa ?_;(conv=>whnf);refine pcalls_in ?_;(conv=>whnf);refine pwa ?_;(conv=>whnf);refine pw_block ?_;refine pw_unroll 1 ?_;(conv=>whnf);refine pw_seq ?_;refine pwa ?_;(conv=>whnf);refine pw_cond ?_;(conv=>whnf);refine pw_exit ?_;(conv=>whnf);refine pw_block ?_;refine pw_unroll 1 ?_;(conv=>whnf);refine pw_seq ?_;refine pwa ?_;(conv=>whnf);refine pw_cond ?_;(conv=>whnf);refine pw_exit ?_;(conv=>whnf);refine pwa ?_;(conv=>whnf);refine pwa ?_;(conv=>whnf);obtain ⟨r21, h22, H⟩ := obnd_some H;refine pw_join (ρ := Unit) (fun e => ⟨[(10, (.slice none 0 0))], ⟨2, [(1, .dead)], true⟩⟩) r21 ?_ ?_
        · refine pwa ?_;(conv=>whnf);refine pw_block ?_;refine pw_unroll 1 ?_;(conv=>whnf);refine pwa ?_;(conv=>whnf);refine pw_seq ?_;refine pw_cond ?_;(conv=>whnf);refine pw_exit ?_;(conv=>whnf);cases h22;exact ⟨(.cons rfl .nil), rfl⟩
        · refine pwa ?_;(conv=>whnf);refine pw_ret ?_;(conv=>whnf);cases H;exact ⟨999, 0, rfl, rfl⟩
    · rw [g15];(conv=>whnf);obtain ⟨y25, h26, H⟩ := obnd_some H;refine ICalls.goB (l := m16) (l2 := y25) (c106 (fun _ _ _ h => (c107 h)) h26) rfl (Nat.beq_refl _) ?_;(conv=>whnf);refine pwa ?_;(conv=>whnf);refine pwa ?_;(conv=>whnf);obtain ⟨r27, h28, h29, h30⟩ := obndS_some H;refine pw_joinS (ρ := (Option (List Int))) (fun e => ⟨[(10, (nsv 2 e 2))], ⟨3, [(2, nso e), (1, .rw (y25.map eI))], true⟩⟩) r27 ?_ ?_
      · refine pwa ?_;(conv=>whnf);refine pw_block ?_;refine pw_loop (τ := (Option (List Int)) × Int × Int) (fun e => ⟨[(2, (.int .i64 a3)), (3, (VP (.agg ⟨[(VS 2 (a0.map e_II)), (VS 1 (a1.map eI))]⟩) 0)), (10, (nsv 2 e.1 2)), (11, (.int .i64 e.2.1)), (35, (.slice (some ⟨1, 0, none⟩) m16.length 2)), (36, (.int .i64 (m16.length : Int))), (37, (.int .i64 e.2.2))], ⟨3, [(2, nso e.1), (1, .rw (y25.map eI))], true⟩⟩) h28 ?_ (fun _ => nl rfl) ?_
        · exact ((Recast.sub' (nl rfl) (.cons rfl (.cons rfl (.cons rfl (.cons rfl (.cons rfl (.cons rfl (.cons rfl .nil))))))) : Recast _ _ ⟨[(2, (.int .i64 a3)), (3, (VP (.agg ⟨[(VS 2 (a0.map e_II)), (VS 1 (a1.map eI))]⟩) 0)), (10, (.slice none 0 0)), (11, (.int .i64 (-1))), (35, (.slice (some ⟨1, 0, none⟩) m16.length 2)), (36, (.int .i64 (m16.length : Int))), (37, (.int .i64 0))], ⟨2, [(1, .rw (y25.map eI))], true⟩⟩).trans (Recast.deadn 2 (nl rfl) (nl rfl)))
        · intro e31 x32 h33;refine pwa ?_;(conv=>whnf);refine pw_seq ?_;refine pw_cond ?_;(conv=>whnf);refine pbr_oite h33 (fun g34 h33 => ?_) (fun g34 h33 => ?_)
          · (conv=>whnf);refine pw_skip ?_;(conv=>whnf);refine pw_seq ?_;refine pw_block ?_;refine pwa ?_;(conv=>whnf);refine pbr_ogrd h33 (fun g35 h33 => ?_);(conv=>whnf);refine pbr_t g34 ?_;(conv=>whnf);refine nth_a (l := y25) (f := eI) h33 (fun x36 h37 h33 => ?_);(conv=>whnf);refine pw_seq ?_;refine pwa ?_;(conv=>whnf);refine pbr_ogrd h33 (fun g39 h33 => ?_);(conv=>whnf);refine nth_o (l := a1) h33 (fun x40 _ h33 => ?_);(conv=>whnf);refine pw_cond ?_;(conv=>whnf);refine pbr_oite h33 (fun g41 h33 => ?_) (fun g41 h33 => ?_)
            · (conv=>whnf);refine pw_exit ?_;(conv=>whnf);refine pw_ops ?_;refine po_all ?_;(conv=>whnf);cases h33;refine ⟨_, rfl, ?_⟩;exact .sub' (nl rfl) (.cons rfl (.cons rfl (.cons rfl (.cons rfl (.cons rfl (.cons rfl (.cons rfl .nil)))))))
            · (conv=>whnf);refine pw_skip ?_;(conv=>whnf);refine pwa ?_;(conv=>whnf);obtain ⟨r42, h43, h33⟩ := obnd_some h33;refine pw_join (ρ := Int) (fun e => ⟨[(2, (.int .i64 a3)), (3, (VP (.agg ⟨[(VS 2 (a0.map e_II)), (VS 1 (a1.map eI))]⟩) 0)), (10, (nsv 2 e31.1 2)), (11, (.int .i64 e)), (13, (.int .i64 x36)), (35, (.slice (some ⟨1, 0, none⟩) m16.length 2)), (36, (.int .i64 (m16.length : Int))), (37, (.int .i64 e31.2.2))], ⟨3, [(2, nso e31.1), (1, .rw (y25.map eI))], true⟩⟩) r42 ?_ ?_
              · refine pwa ?_;(conv=>whnf);refine oslL_o (f := e_II) h43 (fun m46 _ h43 h47 h48 => ?_);refine pbr_t (ile_t h47.1) ?_;(conv=>whnf);refine pbr_t (ile_t (by simpa only [List.length_map] using h47.2)) ?_; rw [h48];(conv=>whnf);refine pw_block ?_;refine pw_loop (τ := Int × Int) (fun e => ⟨[(2, (.int .i64 a3)), (3, (VP (.agg ⟨[(VS 2 (a0.map e_II)), (VS 1 (a1.map eI))]⟩) 0)), (10, (nsv 2 e31.1 2)), (11, (.int .i64 e.1)), (13, (.int .i64 x36)), (35, (.slice (some ⟨1, 0, none⟩) m16.length 2)), (36, (.int .i64 (m16.length : Int))), (37, (.int .i64 e31.2.2)), (53, (VS 2 (m46.map e_II))), (54, (.int .i64 ((m46.map e_II).length : Int))), (55, (.int .i64 e.2))], ⟨3, [(2, nso e31.1), (1, .rw (y25.map eI))], true⟩⟩) h43 ?_ (fun _ => nl rfl) ?_
                · exact .sub' (nl rfl) (.cons rfl (.cons rfl (.cons rfl (.cons rfl (.cons rfl (.cons rfl (.cons rfl (.cons rfl (.cons rfl (.cons rfl (.cons rfl .nil)))))))))))
                · intro e49 x50 h51;refine pwa ?_;(conv=>whnf);refine pw_seq ?_;refine pw_cond ?_;(conv=>whnf);refine pbr_oite h51 (fun g52 h51 => ?_) (fun g52 h51 => ?_)
                  · (conv=>whnf);refine pw_skip ?_;(conv=>whnf);refine pw_seq ?_;refine pw_block ?_;refine pwa ?_;(conv=>whnf);refine pbr_ogrd h51 (fun g53 h51 => ?_);(conv=>whnf);refine nth_o (l := m46) h51 (fun x54 _ h51 => ?_);(conv=>whnf);refine pwa ?_;(conv=>whnf);obtain ⟨y55, h56, h51⟩ := obnd_some h51;refine (c105 h56).go ?_;(conv=>whnf);refine pw_cond ?_;(conv=>whnf);refine pbr_oite h51 (fun g57 h51 => ?_) (fun g57 h51 => ?_)
                    · (conv=>whnf);refine pw_ops ?_;refine po_all ?_;(conv=>whnf);refine pw_ops ?_;refine po_all ?_;(conv=>whnf);cases h51;refine ⟨_, rfl, ?_⟩;exact Recast.fz (fun _ => false) (nl rfl) (.cons (.same rfl rfl (.ns (nl rfl))) (.cons (.same rfl rfl (OBnd.rwc (nl rfl) (oneL_map fun _ => rfl))) .nil)) (.cons rfl (.same _ .cl) (.cons rfl (.same _ .cl) (.cons rfl (.same _ (.ns (nl rfl))) (.cons rfl (.same _ .cl) (.cons rfl (.same _ .cl) (.cons rfl (.same _ (.slice (nl rfl))) (.cons rfl (.same _ .cl) (.cons rfl (.same _ .cl) (.cons rfl (.same _ .cl) (.cons rfl (.same _ .cl) (.cons rfl (.same _ .cl) .nil)))))))))))
                    · (conv=>whnf);refine pw_skip ?_;(conv=>whnf);refine pw_ops ?_;refine po_all ?_;(conv=>whnf);cases h51;refine ⟨_, rfl, ?_⟩;exact Recast.fz (fun _ => false) (nl rfl) (.cons (.same rfl rfl (.ns (nl rfl))) (.cons (.same rfl rfl (OBnd.rwc (nl rfl) (oneL_map fun _ => rfl))) .nil)) (.cons rfl (.same _ .cl) (.cons rfl (.same _ .cl) (.cons rfl (.same _ (.ns (nl rfl))) (.cons rfl (.same _ .cl) (.cons rfl (.same _ .cl) (.cons rfl (.same _ (.slice (nl rfl))) (.cons rfl (.same _ .cl) (.cons rfl (.same _ .cl) (.cons rfl (.same _ .cl) (.cons rfl (.same _ .cl) (.cons rfl (.same _ .cl) .nil)))))))))))
                  · (conv=>whnf);refine pw_exit ?_;(conv=>whnf);cases h51;refine ⟨_, rfl, ?_⟩; rintro rfl;(conv=>whnf);exact ⟨by (repeat refine .cons rfl ?_);exact .nil,rfl⟩
              · refine pw_seq ?_;refine pwa ?_;(conv=>whnf);refine pw_cond ?_;(conv=>whnf);refine pbr_oite h33 (fun g59 h33 => ?_) (fun g59 h33 => ?_)
                · (conv=>whnf);refine pwa ?_;(conv=>whnf);refine pw_ret ?_;(conv=>whnf);cases h33;refine ⟨_, rfl, ?_⟩; rintro rfl;(conv=>whnf);obtain rfl := h30 _ rfl;exact ⟨999, 0, rfl, rfl⟩
                · (conv=>whnf);refine pw_skip ?_;(conv=>whnf);refine pw_ops ?_;refine po_all ?_;(conv=>whnf);refine ocase_o h33 (fun g61 h33 => ?_) (fun m62 g61 h33 => ?_)
                  · rw [g61];(conv=>whnf);refine ⟨by first | decide | simp [chunk], by first | decide | simp [chunk], ?_⟩;(conv=>whnf);refine pw_ops ?_;refine po_all ?_;(conv=>whnf);cases h33;refine ⟨_, rfl, ?_⟩;refine Recast.trans (s' := ⟨[(2, (.int .i64 a3)), (3, (VP (.agg ⟨[(VS 2 (a0.map e_II)), (VS 1 (a1.map eI))]⟩) 0)), (10, (.slice (some ⟨4, 0, none⟩) ([x36] : List Int).length 2)), (11, (.int .i64 r42)), (35, (.slice (some ⟨1, 0, none⟩) m16.length 2)), (36, (.int .i64 (m16.length : Int))), (37, (.int .i64 (IntKind.i64.wrap (e31.2.2 + (1 : Int)))))], ⟨5, [(4, .rw (([x36] : List Int).map eI)), (1, .rw (y25.map eI))], true⟩⟩) (by exact Recast.fz (fun _ => false) (nl rfl) (.cons (.same rfl rfl (OBnd.rwc (nl rfl) (oneL_map fun _ => rfl))) (.cons (.same rfl rfl (OBnd.rwc (nl rfl) (oneL_map fun _ => rfl))) .nil)) (.cons rfl (.same _ .cl) (.cons rfl (.same _ .cl) (.cons rfl (.same _ (.slice (nl rfl))) (.cons rfl (.same _ .cl) (.cons rfl (.same _ (.slice (nl rfl))) (.cons rfl (.same _ .cl) (.cons rfl (.same _ .cl) .nil)))))))) ?_
                    exact (Recast.mv 4 2 (nl rfl) (nl rfl) (.cons (.mv rfl (nl rfl) rfl (oneL_map fun _ => rfl) .cl) (.cons (.rw (nn rfl) (nn rfl) (nl rfl) rfl (oneL_map fun _ => rfl) .cl) .nil)) (.cons rfl .cl (.cons rfl .cl (.cons rfl (.slicem (nl rfl)) (.cons rfl .cl (.cons rfl (.slice (nn rfl) (nl rfl)) (.cons rfl .cl (.cons rfl .cl .nil))))))))
                  · rw [g61];(conv=>whnf);refine appg_o (l := m62) (m := ([x36] : List Int)) h33 (Nat.beq_refl _) rfl (fun h33 => ?_);(conv=>whnf);refine pw_ops ?_;refine po_all ?_;(conv=>whnf);cases h33;refine ⟨_, rfl, ?_⟩;refine Recast.trans (s' := ⟨[(2, (.int .i64 a3)), (3, (VP (.agg ⟨[(VS 2 (a0.map e_II)), (VS 1 (a1.map eI))]⟩) 0)), (10, (.slice (some ⟨4, 0, none⟩) (m62 ++ ([x36] : List Int)).length 2)), (11, (.int .i64 r42)), (35, (.slice (some ⟨1, 0, none⟩) m16.length 2)), (36, (.int .i64 (m16.length : Int))), (37, (.int .i64 (IntKind.i64.wrap (e31.2.2 + (1 : Int)))))], ⟨5, [(4, .rw ((m62 ++ ([x36] : List Int)).map eI)), (1, .rw (y25.map eI))], true⟩⟩) (by exact Recast.fz (fun _ => false) (nl rfl) (.cons (.same rfl rfl (OBnd.rwc (nl rfl) (oneL_map fun _ => rfl))) (.cons (.same rfl rfl (OBnd.rwc (nl rfl) (oneL_map fun _ => rfl))) .nil)) (.cons rfl (.same _ .cl) (.cons rfl (.same _ .cl) (.cons rfl (.same _ (.slice (nl rfl))) (.cons rfl (.same _ .cl) (.cons rfl (.same _ (.slice (nl rfl))) (.cons rfl (.same _ .cl) (.cons rfl (.same _ .cl) .nil)))))))) ?_
                    exact (Recast.mv 4 2 (nl rfl) (nl rfl) (.cons (.mv rfl (nl rfl) rfl (oneL_map fun _ => rfl) .cl) (.cons (.rw (nn rfl) (nn rfl) (nl rfl) rfl (oneL_map fun _ => rfl) .cl) .nil)) (.cons rfl .cl (.cons rfl .cl (.cons rfl (.slicem (nl rfl)) (.cons rfl .cl (.cons rfl (.slice (nn rfl) (nl rfl)) (.cons rfl .cl (.cons rfl .cl .nil))))))))
          · (conv=>whnf);refine pw_exit ?_;(conv=>whnf);cases h33;refine ⟨_, rfl, ?_⟩; rintro rfl;(conv=>whnf);exact ⟨_, rfl, ⟨(.cons rfl .nil), rfl⟩⟩
      · intro r64 hr; have H := h29 _ hr;refine pwa ?_;(conv=>whnf);refine pw_ret ?_;(conv=>whnf);refine ocase_o H (fun g65 H => ?_) (fun m66 g65 H => ?_)
        · rw [g65];(conv=>whnf);cases H;exact ⟨999, 0, rfl, rfl⟩
        · rw [g65];(conv=>whnf);cases H;exact ⟨2, 2, rfl, rfl⟩

/-- guidevane/dam.unless -/
noncomputable def f64  (a0 : Bool) (a1 : Int) : Option Int :=
 oite a0 (
 some (0 : Int)
 ) (
 some a1)
theorem c64  {a0 : Bool} {a1 : Int} {x : Int} (H : f64 a0 a1 = some x) : ICalls E 64 [(.bool a0), (.int .i64 a1)] AHeap.none fun v _ => v = (.int .i64 x) := by
  refine icalls_fn (pfnw ?_); unfold f64 at H;(conv=>whnf);refine pwa ?_;(conv=>whnf);refine pw_seq ?_;refine pwa ?_;(conv=>whnf);refine pw_cond ?_;(conv=>whnf);refine pbr_oite H (fun g1 H => ?_) (fun g1 H => ?_)
  · (conv=>whnf);refine pwa ?_;(conv=>whnf);refine pw_ret ?_;(conv=>whnf);cases H; rfl
  · (conv=>whnf);refine pw_skip ?_;(conv=>whnf);refine pwa ?_;(conv=>whnf);refine pw_ret ?_;(conv=>whnf);cases H; rfl

/-- guidevane/dam.openValley -/
noncomputable def f72 [LO]  (a0 : List (Int × Int)) (a1 : List Int) : Option ((List (Int × Int)) × (List Int) × (List Int) × Int) :=
 obnd (f20 a0 a1) fun (y1 : Int × Int) =>
 oite ((!(ieq y1.2 (0 : Int)))) (
 some (a0, a1, ([] : List Int), y1.2)
 ) (
 obnd (f74 a0 a1 ([] : List Int) (0 : Int)) fun (y4 : (Option (List Int)) × Bool) =>
 ocase y4.1 (
 obnd (f64 y4.2 (12 : Int)) fun (y8 : Int) =>
 some (a0, a1, ([] : List Int), y8)
 ) fun (m7 : List Int) =>
 ogrd (Nat.blt m7.length 4611686018427387904) (
 obnd (f64 y4.2 (12 : Int)) fun (y11 : Int) =>
 some (a0, a1, (srt m7), y11)))
theorem c72 [LO]  {a0 : List (Int × Int)} {a1 : List Int} {x : (List (Int × Int)) × (List Int) × (List Int) × Int} (H : f72 a0 a1 = some x) : ICalls E 72 [(.agg ⟨[(VS 2 (a0.map e_II)), (VS 1 (a1.map eI))]⟩)] AHeap.none fun v _ => v = (.tuple ⟨[(.agg ⟨[(VS 2 (x.1.map e_II)), (VS 1 (x.2.1.map eI))]⟩), (VS 1 (x.2.2.1.map eI)), (.int .i64 x.2.2.2)]⟩) := by
  refine ICalls.frz ?_;refine icalls_fn (pfnw ?_); unfold f72 at H;(conv=>whnf);refine pwa ?_;(conv=>whnf);refine pwa ?_;(conv=>whnf);refine pw_seq ?_;refine pwa ?_;(conv=>whnf);obtain ⟨y1, h2, H⟩ := obnd_some H;refine (c20 h2).go ?_;(conv=>whnf);refine pwa ?_;(conv=>whnf);refine pw_cond ?_;(conv=>whnf);refine pbr_oite H (fun g3 H => ?_) (fun g3 H => ?_)
  · (conv=>whnf);refine pwa ?_;(conv=>whnf);refine pw_ret ?_;(conv=>whnf);cases H; show ∃ D, Fz _ D 0 (.tuple ⟨[(.agg ⟨[(VS 2 _), (VS 1 _)]⟩), (.slice none 0 0), (.int .i64 y1.2)]⟩) _;exact ⟨fun _ => false, .tuplel (.cons .cl (.cons (.nil _) (.cons .cl (.nil))))⟩
  · (conv=>whnf);refine pw_skip ?_;(conv=>whnf);refine pwa ?_;(conv=>whnf);obtain ⟨y4, h5, H⟩ := obnd_some H;refine ocase_o H (fun g6 H => ?_) (fun m7 g6 H => ?_)
    · refine ICalls.goT0 g6 (c74 h5) (.cons (.refl _) (.cons (.nil _) (.cons (.refl _) .nil))) ?_;(conv=>whnf);refine pwa ?_;(conv=>whnf);refine sort_nil ?_;(conv=>whnf);refine pw_sd ?_;(conv=>whnf);refine ⟨?_, trivial⟩;(conv=>whnf);obtain ⟨y8, h9, H⟩ := obnd_some H;refine (c64 h9).go ?_;(conv=>whnf);refine ⟨by trivial,?_⟩;(conv=>whnf);refine ⟨?_, trivial⟩;(conv=>whnf);refine ⟨by trivial,?_⟩;(conv=>whnf);refine pw_ret ?_;(conv=>whnf);cases H; show ∃ D, Fz _ D 0 (.tuple ⟨[(.agg ⟨[(VS 2 _), (VS 1 _)]⟩), (.slice none 0 0), (.int .i64 y8)]⟩) _
      exact ⟨fun _ => false, .tuplel (.cons .cl (.cons (.nil _) (.cons .cl (.nil))))⟩
    · refine ICalls.goT1 g6 (c74 h5) (.cons (.refl _) (.cons (.nil _) (.cons (.refl _) .nil))) ?_;(conv=>whnf);refine pwa ?_;(conv=>whnf);obtain ⟨g10, H⟩ := ogrd_some H;refine sort_o (l := m7) rfl (Nat.beq_refl _) g10 ?_;(conv=>whnf);refine pw_sd ?_;(conv=>whnf);refine ⟨?_, trivial⟩;(conv=>whnf);obtain ⟨y11, h12, H⟩ := obnd_some H;refine (c64 h12).go ?_;(conv=>whnf);refine ⟨by trivial,?_⟩;(conv=>whnf);refine ⟨?_, trivial⟩;(conv=>whnf);refine ⟨by trivial,?_⟩;(conv=>whnf);refine pw_ret ?_
      (conv=>whnf);cases H; show ∃ D, Fz _ D 0 (.tuple ⟨[(.agg ⟨[(VS 2 _), (VS 1 _)]⟩), (.slice (some ⟨3, 0, none⟩) m7.length 1), (.int .i64 y11)]⟩) _;exact ⟨fun b => Nat.beq b 3, .tuplel (.cons .cl (.cons (.slm rfl rfl (srt_len (Nat.beq_refl _)) (fun _ => rfl)) (.cons .cl (.nil))))⟩

/-- guidevane/dam.CoverOf -/
noncomputable def f22 [LO]  (a0 : List (Int × Int)) (a1 : List Int) : Option ((List Int) × Int) :=
 obnd (f72 a0 a1) fun (y1 : (List (Int × Int)) × (List Int) × (List Int) × Int) =>
 oite ((!(ieq y1.2.2.2 (0 : Int)))) (
 some (([] : List Int), y1.2.2.2)
 ) (
 obnd (
 oloop (τ := (List Int) × Int) (ρ := (List Int)) (fun e8 =>
 oite ((ilt ((e8.1.map eI).length : Int) ((y1.2.2.1.map eI).length : Int))) (
 oite e8.1.isEmpty (
 obnd (f74 y1.1 y1.2.1 ([e8.2] : List Int) (IntKind.i64.wrap (e8.2 + (1 : Int)))) fun (y13 : (Option (List Int)) × Bool) =>
 ocase y13.1 (
 obnd (
 oite y13.2 (
 some (ile (1 : Int) ((y1.2.2.1.map eI).length : Int))
 ) (
 some false)
 ) fun (r17 : Bool) =>
 oite r17 (
 ogrd (!([e8.2] : List Int).isEmpty) (
 some (.inl ((([e8.2] : List Int), (IntKind.i64.wrap (e8.2 + (1 : Int)))))))
 ) (
 some (.inl ((([] : List Int), (IntKind.i64.wrap (e8.2 + (1 : Int)))))))
 ) fun (m16 : List Int) =>
 obnd (
 oite y13.2 (
 some (ile (IntKind.i64.wrap ((1 : Int) + (m16.length : Int))) ((y1.2.2.1.map eI).length : Int))
 ) (
 some false)
 ) fun (r24 : Bool) =>
 oite r24 (
 ogrd (!([e8.2] : List Int).isEmpty) (
 some (.inl ((([e8.2] : List Int), (IntKind.i64.wrap (e8.2 + (1 : Int)))))))
 ) (
 some (.inl ((([] : List Int), (IntKind.i64.wrap (e8.2 + (1 : Int)))))))
 ) (
 ogrd (fits 8 (([] : List Int).length + e8.1.length)) (
 ogrd (fits 8 ((([] : List Int) ++ e8.1).length + ([e8.2] : List Int).length)) (
 obnd (f74 y1.1 y1.2.1 (((([] : List Int) ++ e8.1) ++ ([e8.2] : List Int))) (IntKind.i64.wrap (e8.2 + (1 : Int)))) fun (y31 : (Option (List Int)) × Bool) =>
 ocase y31.1 (
 obnd (
 oite y31.2 (
 some (ile (IntKind.i64.wrap (((((([] : List Int) ++ e8.1) ++ ([e8.2] : List Int)).map eI).length : Int) + (0 : Int))) ((y1.2.2.1.map eI).length : Int))
 ) (
 some false)
 ) fun (r35 : Bool) =>
 oite r35 (
 ogrd (!((([] : List Int) ++ e8.1) ++ ([e8.2] : List Int)).isEmpty) (
 some (.inl ((((([] : List Int) ++ e8.1) ++ ([e8.2] : List Int)), (IntKind.i64.wrap (e8.2 + (1 : Int)))))))
 ) (
 some (.inl (e8.1, (IntKind.i64.wrap (e8.2 + (1 : Int))))))
 ) fun (m34 : List Int) =>
 obnd (
 oite y31.2 (
 some (ile (IntKind.i64.wrap (((((([] : List Int) ++ e8.1) ++ ([e8.2] : List Int)).map eI).length : Int) + (m34.length : Int))) ((y1.2.2.1.map eI).length : Int))
 ) (
 some false)
 ) fun (r42 : Bool) =>
 oite r42 (
 ogrd (!((([] : List Int) ++ e8.1) ++ ([e8.2] : List Int)).isEmpty) (
 some (.inl ((((([] : List Int) ++ e8.1) ++ ([e8.2] : List Int)), (IntKind.i64.wrap (e8.2 + (1 : Int)))))))
 ) (
 some (.inl (e8.1, (IntKind.i64.wrap (e8.2 + (1 : Int)))))))))
 ) (
 some (.inr (e8.1)))
 ) ((([] : List Int), (0 : Int)))
 ) fun (r4 : (List Int)) =>
 some (r4, (0 : Int)))
theorem c22 [LO]  {a0 : List (Int × Int)} {a1 : List Int} {x : (List Int) × Int} (H : f22 a0 a1 = some x) : ICalls E 22 [(.agg ⟨[(VS 2 (a0.map e_II)), (VS 1 (a1.map eI))]⟩)] AHeap.none fun v _ => v = (.tuple ⟨[(VS 1 (x.1.map eI)), (.int .i64 x.2)]⟩) := by
  refine ICalls.frz ?_;refine icalls_fn (pfnw ?_); unfold f22 at H;(conv=>whnf);refine pwa ?_;(conv=>whnf);refine pwa ?_;(conv=>whnf);obtain ⟨y1, h2, H⟩ := obnd_some H;refine (c72 h2).go ?_;(conv=>whnf);refine pw_seq ?_;refine pwa ?_;(conv=>whnf);refine pw_cond ?_;(conv=>whnf);refine pbr_oite H (fun g3 H => ?_) (fun g3 H => ?_)
  · (conv=>whnf);refine pwa ?_;(conv=>whnf);refine pw_ret ?_;(conv=>whnf);cases H; show ∃ D, Fz _ D 0 (.tuple ⟨[(.slice none 0 0), (.int .i64 y1.2.2.2)]⟩) _;exact ⟨fun _ => false, .tuplel (.cons (.nil _) (.cons .cl (.nil)))⟩
  · (conv=>whnf);refine pw_skip ?_;(conv=>whnf);refine pwa ?_;(conv=>whnf);obtain ⟨r4, h5, H⟩ := obnd_some H;refine pw_join (ρ := (List Int)) (fun e => ⟨[(7, (vni e))], ⟨2, [(1, .rw [(VS 2 (y1.1.map e_II)), (VS 1 (y1.2.1.map eI))]), (0, .rw [(VS 2 (a0.map e_II)), (VS 1 (a1.map eI))])], false⟩⟩) r4 ?_ ?_
    · refine pwa ?_;(conv=>whnf);refine pw_block ?_;refine pw_loop (τ := (List Int) × Int) (fun e => ⟨[(4, (.pointer (some ⟨1, 0, none⟩))), (5, (VS 1 (y1.2.2.1.map eI))), (7, (vni e.1)), (8, (.int .i64 e.2))], ⟨2, [(1, .rw [(VS 2 (y1.1.map e_II)), (VS 1 (y1.2.1.map eI))]), (0, .rw [(VS 2 (a0.map e_II)), (VS 1 (a1.map eI))])], false⟩⟩) h5 ?_ (fun _ => nl rfl) ?_
      · exact .sub' (nl rfl) (.cons rfl (.cons rfl (.cons rfl (.cons rfl .nil))))
      · intro e8 x9 h10;refine pw_seq ?_;refine pwa ?_;(conv=>whnf);obtain ⟨_, _, q50⟩ := vsl_vni e8.1; rw [q50];(conv=>whnf);refine pw_cond ?_;(conv=>whnf);refine pbr_oite h10 (fun g11 h10 => ?_) (fun g11 h10 => ?_)
        · (conv=>whnf);refine pw_skip ?_;(conv=>whnf);refine pw_seq ?_;refine pw_block ?_;refine pwa ?_;(conv=>whnf);refine pcalls_in ?_;(conv=>whnf);refine pwa ?_;(conv=>whnf);refine pw_seq ?_;refine pwa ?_;(conv=>whnf);refine vni_o h10 (fun g12 h10 => ?_) (fun g12 h10 => ?_)
          · rw [vni_e g12];(conv=>whnf);refine pw_cond ?_;(conv=>whnf);refine pwa ?_;(conv=>whnf);refine pw_ret ?_;(conv=>whnf);refine ⟨by first | decide | simp, by first | decide | simp, ?_⟩;(conv=>whnf);refine pwa ?_;(conv=>whnf);obtain ⟨y13, h14, h10⟩ := obnd_some h10;refine ocase_o h10 (fun g15 h10 => ?_) (fun m16 g15 h10 => ?_)
            · refine ICalls.goT0 g15 (c74 h14) (.cons (.refl _) (.cons (.vt _ _ _) (.cons (.refl _) .nil))) ?_;(conv=>whnf);obtain ⟨r17, h18, h10⟩ := obnd_some h10;refine pw_join (ρ := Bool) (fun e => ⟨[(4, (.pointer (some ⟨1, 0, none⟩))), (5, (VS 1 (y1.2.2.1.map eI))), (7, (.slice none 0 0)), (8, (.int .i64 e8.2)), (9, (VT 1 (([e8.2] : List Int).map eI) 3)), (51, (.bool e))], ⟨4, [(3, .tail (([e8.2] : List Int).map eI).length 1), (2, .tail 1 1), (1, .rw [(VS 2 (y1.1.map e_II)), (VS 1 (y1.2.1.map eI))]), (0, .rw [(VS 2 (a0.map e_II)), (VS 1 (a1.map eI))])], false⟩⟩) r17 ?_ ?_
              · refine pw_ops ?_;refine po_all ?_;(conv=>whnf);refine pbr_oite h18 (fun g21 h18 => ?_) (fun g21 h18 => ?_)
                · (conv=>whnf);(iterate 8 refine pbr_t g21 ?_;(conv=>whnf));cases h18;exact ⟨by (repeat refine .cons rfl ?_);exact .nil,rfl⟩
                · (conv=>whnf);(iterate 8 refine pbr_f g21 ?_;(conv=>whnf));cases h18;exact ⟨by (repeat refine .cons rfl ?_);exact .nil,rfl⟩
              · refine pw_cond ?_;(conv=>whnf);refine pbr_oite h10 (fun g22 h10 => ?_) (fun g22 h10 => ?_)
                · (conv=>whnf);refine pw_ops ?_;refine po_all ?_;(conv=>whnf);refine pw_ops ?_;refine po_all ?_;(conv=>whnf);obtain ⟨g23, h10⟩ := ogrd_some h10;cases h10;refine ⟨_, rfl, ?_⟩;refine Recast.trans (s' := ⟨[(4, (.pointer (some ⟨1, 0, none⟩))), (5, (VS 1 (y1.2.2.1.map eI))), (7, (VS 1 (([e8.2] : List Int).map eI))), (8, (.int .i64 (IntKind.i64.wrap (e8.2 + (1 : Int)))))], ⟨2, [(1, .rw [(VS 2 (y1.1.map e_II)), (VS 1 (y1.2.1.map eI))]), (0, .rw [(VS 2 (a0.map e_II)), (VS 1 (a1.map eI))])], false⟩⟩) (by exact Recast.fz (fun _ => false) (nl rfl) (.cons (.same rfl rfl (OBnd.rwl (nl rfl) rfl (.cons .cl (.cons .cl .nil)))) (.cons (.same rfl rfl (OBnd.rwl (nl rfl) rfl (.cons .cl (.cons .cl .nil)))) .nil)) (.cons rfl (.same _ (.ptr (nl rfl))) (.cons rfl (.same _ .cl) (.cons rfl .vtc (.cons rfl (.same _ .cl) .nil))))) ?_
                  exact Recast.eq (congrArg (fun v => (⟨[(4, (.pointer (some ⟨1, 0, none⟩))), (5, (VS 1 (y1.2.2.1.map eI))), (7, v), (8, (.int .i64 (IntKind.i64.wrap (e8.2 + (1 : Int)))))], ⟨2, [(1, .rw [(VS 2 (y1.1.map e_II)), (VS 1 (y1.2.1.map eI))]), (0, .rw [(VS 2 (a0.map e_II)), (VS 1 (a1.map eI))])], false⟩⟩ : St)) (vni_ne g23).symm)
                · (conv=>whnf);refine pw_skip ?_;(conv=>whnf);refine pw_ops ?_;refine po_all ?_;(conv=>whnf);cases h10;refine ⟨_, rfl, ?_⟩;refine Recast.trunc (nl rfl) ?_ ?_
                  · repeat (first | exact .nil | refine .cons rfl (by first | exact OBnd.rwc (nl rfl) rfl | exact OBnd.tail (nl rfl) | trivial) ?_)
                  · repeat (first | exact .nil | refine .cons rfl (by first | exact Bnd.ptr (nl rfl) | exact Bnd.vt (nl rfl) | exact Bnd.cl) ?_)
            · refine ICalls.goT1 g15 (c74 h14) (.cons (.refl _) (.cons (.vt _ _ _) (.cons (.refl _) .nil))) ?_;(conv=>whnf);obtain ⟨r24, h25, h10⟩ := obnd_some h10;refine pw_join (ρ := Bool) (fun e => ⟨[(4, (.pointer (some ⟨1, 0, none⟩))), (5, (VS 1 (y1.2.2.1.map eI))), (7, (.slice none 0 0)), (8, (.int .i64 e8.2)), (9, (VT 1 (([e8.2] : List Int).map eI) 3)), (51, (.bool e))], ⟨5, [(4, .rw (m16.map eI)), (3, .tail (([e8.2] : List Int).map eI).length 1), (2, .tail 1 1), (1, .rw [(VS 2 (y1.1.map e_II)), (VS 1 (y1.2.1.map eI))]), (0, .rw [(VS 2 (a0.map e_II)), (VS 1 (a1.map eI))])], false⟩⟩) r24 ?_ ?_
              · refine pw_ops ?_;refine po_all ?_;(conv=>whnf);refine pbr_oite h25 (fun g28 h25 => ?_) (fun g28 h25 => ?_)
                · (conv=>whnf);(iterate 8 refine pbr_t g28 ?_;(conv=>whnf));cases h25;exact ⟨by (repeat refine .cons rfl ?_);exact .nil,rfl⟩
                · (conv=>whnf);(iterate 8 refine pbr_f g28 ?_;(conv=>whnf));cases h25;exact ⟨by (repeat refine .cons rfl ?_);exact .nil,rfl⟩
              · refine pw_cond ?_;(conv=>whnf);refine pbr_oite h10 (fun g29 h10 => ?_) (fun g29 h10 => ?_)
                · (conv=>whnf);refine pw_ops ?_;refine po_all ?_;(conv=>whnf);refine pw_ops ?_;refine po_all ?_;(conv=>whnf);obtain ⟨g30, h10⟩ := ogrd_some h10;cases h10;refine ⟨_, rfl, ?_⟩;refine Recast.trans (s' := ⟨[(4, (.pointer (some ⟨1, 0, none⟩))), (5, (VS 1 (y1.2.2.1.map eI))), (7, (VS 1 (([e8.2] : List Int).map eI))), (8, (.int .i64 (IntKind.i64.wrap (e8.2 + (1 : Int)))))], ⟨2, [(1, .rw [(VS 2 (y1.1.map e_II)), (VS 1 (y1.2.1.map eI))]), (0, .rw [(VS 2 (a0.map e_II)), (VS 1 (a1.map eI))])], false⟩⟩) (by exact Recast.fz (fun _ => false) (nl rfl) (.cons (.same rfl rfl (OBnd.rwl (nl rfl) rfl (.cons .cl (.cons .cl .nil)))) (.cons (.same rfl rfl (OBnd.rwl (nl rfl) rfl (.cons .cl (.cons .cl .nil)))) .nil)) (.cons rfl (.same _ (.ptr (nl rfl))) (.cons rfl (.same _ .cl) (.cons rfl .vtc (.cons rfl (.same _ .cl) .nil))))) ?_
                  exact Recast.eq (congrArg (fun v => (⟨[(4, (.pointer (some ⟨1, 0, none⟩))), (5, (VS 1 (y1.2.2.1.map eI))), (7, v), (8, (.int .i64 (IntKind.i64.wrap (e8.2 + (1 : Int)))))], ⟨2, [(1, .rw [(VS 2 (y1.1.map e_II)), (VS 1 (y1.2.1.map eI))]), (0, .rw [(VS 2 (a0.map e_II)), (VS 1 (a1.map eI))])], false⟩⟩ : St)) (vni_ne g30).symm)
                · (conv=>whnf);refine pw_skip ?_;(conv=>whnf);refine pw_ops ?_;refine po_all ?_;(conv=>whnf);cases h10;refine ⟨_, rfl, ?_⟩;refine Recast.trunc (nl rfl) ?_ ?_
                  · repeat (first | exact .nil | refine .cons rfl (by first | exact OBnd.rwc (nl rfl) rfl | exact OBnd.tail (nl rfl) | trivial) ?_)
                  · repeat (first | exact .nil | refine .cons rfl (by first | exact Bnd.ptr (nl rfl) | exact Bnd.vt (nl rfl) | exact Bnd.cl) ?_)
          · rw [vni_ne g12];refine xnil_o rfl g12 ?_;(conv=>whnf);refine pw_cond ?_;(conv=>whnf);refine pw_skip ?_;(conv=>whnf);refine pwa ?_;(conv=>whnf);refine app_o (l := ([] : List Int)) (m := e8.1) (f := eI) h10 (by rfl) (by rfl) (by rfl) (fun h10 => ?_);(conv=>whnf);refine pw_ret ?_;(conv=>whnf);refine app_o (l := (([] : List Int) ++ e8.1)) (m := ([e8.2] : List Int)) (f := eI) h10 (by rfl) (by rfl) (by rfl) (fun h10 => ?_);(conv=>whnf);refine pwa ?_;(conv=>whnf);obtain ⟨y31, h32, h10⟩ := obnd_some h10;refine ocase_o h10 (fun g33 h10 => ?_) (fun m34 g33 h10 => ?_)
            · refine ICalls.goT0 g33 (c74 h32) (.cons (.refl _) (.cons (.vt _ _ _) (.cons (.refl _) .nil))) ?_;(conv=>whnf);obtain ⟨r35, h36, h10⟩ := obnd_some h10;refine pw_join (ρ := Bool) (fun e => ⟨[(4, (.pointer (some ⟨1, 0, none⟩))), (5, (VS 1 (y1.2.2.1.map eI))), (7, (VS 1 (e8.1.map eI))), (8, (.int .i64 e8.2)), (9, (VT 1 (((([] : List Int) ++ e8.1) ++ ([e8.2] : List Int)).map eI) 2)), (51, (.bool e))], ⟨4, [(3, .tail 1 1), (2, .tail (((([] : List Int) ++ e8.1) ++ ([e8.2] : List Int)).map eI).length 1), (1, .rw [(VS 2 (y1.1.map e_II)), (VS 1 (y1.2.1.map eI))]), (0, .rw [(VS 2 (a0.map e_II)), (VS 1 (a1.map eI))])], false⟩⟩) r35 ?_ ?_
              · refine pw_ops ?_;refine po_all ?_;(conv=>whnf);refine pbr_oite h36 (fun g39 h36 => ?_) (fun g39 h36 => ?_)
                · (conv=>whnf);(iterate 8 refine pbr_t g39 ?_;(conv=>whnf));cases h36;exact ⟨by (repeat refine .cons rfl ?_);exact .nil,rfl⟩
                · (conv=>whnf);(iterate 8 refine pbr_f g39 ?_;(conv=>whnf));cases h36;exact ⟨by (repeat refine .cons rfl ?_);exact .nil,rfl⟩
              · refine pw_cond ?_;(conv=>whnf);refine pbr_oite h10 (fun g40 h10 => ?_) (fun g40 h10 => ?_)
                · (conv=>whnf);refine pw_ops ?_;refine po_all ?_;(conv=>whnf);refine pw_ops ?_;refine po_all ?_;(conv=>whnf);obtain ⟨g41, h10⟩ := ogrd_some h10;cases h10;refine ⟨_, rfl, ?_⟩;refine Recast.trans (s' := ⟨[(4, (.pointer (some ⟨1, 0, none⟩))), (5, (VS 1 (y1.2.2.1.map eI))), (7, (VS 1 (((([] : List Int) ++ e8.1) ++ ([e8.2] : List Int)).map eI))), (8, (.int .i64 (IntKind.i64.wrap (e8.2 + (1 : Int)))))], ⟨2, [(1, .rw [(VS 2 (y1.1.map e_II)), (VS 1 (y1.2.1.map eI))]), (0, .rw [(VS 2 (a0.map e_II)), (VS 1 (a1.map eI))])], false⟩⟩) (by exact Recast.fz (fun _ => false) (nl rfl) (.cons (.same rfl rfl (OBnd.rwl (nl rfl) rfl (.cons .cl (.cons .cl .nil)))) (.cons (.same rfl rfl (OBnd.rwl (nl rfl) rfl (.cons .cl (.cons .cl .nil)))) .nil)) (.cons rfl (.same _ (.ptr (nl rfl))) (.cons rfl (.same _ .cl) (.cons rfl .vtc (.cons rfl (.same _ .cl) .nil))))) ?_
                  exact Recast.eq (congrArg (fun v => (⟨[(4, (.pointer (some ⟨1, 0, none⟩))), (5, (VS 1 (y1.2.2.1.map eI))), (7, v), (8, (.int .i64 (IntKind.i64.wrap (e8.2 + (1 : Int)))))], ⟨2, [(1, .rw [(VS 2 (y1.1.map e_II)), (VS 1 (y1.2.1.map eI))]), (0, .rw [(VS 2 (a0.map e_II)), (VS 1 (a1.map eI))])], false⟩⟩ : St)) (vni_ne g41).symm)
                · (conv=>whnf);refine pw_skip ?_;(conv=>whnf);refine pw_ops ?_;refine po_all ?_;(conv=>whnf);cases h10;refine ⟨_, rfl, ?_⟩;refine Recast.trans (s' := ⟨[(4, (.pointer (some ⟨1, 0, none⟩))), (5, (VS 1 (y1.2.2.1.map eI))), (7, (VS 1 (e8.1.map eI))), (8, (.int .i64 (IntKind.i64.wrap (e8.2 + (1 : Int)))))], ⟨2, [(1, .rw [(VS 2 (y1.1.map e_II)), (VS 1 (y1.2.1.map eI))]), (0, .rw [(VS 2 (a0.map e_II)), (VS 1 (a1.map eI))])], false⟩⟩) (by exact Recast.fz (fun _ => false) (nl rfl) (.cons (.same rfl rfl (OBnd.rwl (nl rfl) rfl (.cons .cl (.cons .cl .nil)))) (.cons (.same rfl rfl (OBnd.rwl (nl rfl) rfl (.cons .cl (.cons .cl .nil)))) .nil)) (.cons rfl (.same _ (.ptr (nl rfl))) (.cons rfl (.same _ .cl) (.cons rfl (.same _ .cl) (.cons rfl (.same _ .cl) .nil))))) ?_
                  exact Recast.eq (congrArg (fun v => (⟨[(4, (.pointer (some ⟨1, 0, none⟩))), (5, (VS 1 (y1.2.2.1.map eI))), (7, v), (8, (.int .i64 (IntKind.i64.wrap (e8.2 + (1 : Int)))))], ⟨2, [(1, .rw [(VS 2 (y1.1.map e_II)), (VS 1 (y1.2.1.map eI))]), (0, .rw [(VS 2 (a0.map e_II)), (VS 1 (a1.map eI))])], false⟩⟩ : St)) (vni_ne g12).symm)
            · refine ICalls.goT1 g33 (c74 h32) (.cons (.refl _) (.cons (.vt _ _ _) (.cons (.refl _) .nil))) ?_;(conv=>whnf);obtain ⟨r42, h43, h10⟩ := obnd_some h10;refine pw_join (ρ := Bool) (fun e => ⟨[(4, (.pointer (some ⟨1, 0, none⟩))), (5, (VS 1 (y1.2.2.1.map eI))), (7, (VS 1 (e8.1.map eI))), (8, (.int .i64 e8.2)), (9, (VT 1 (((([] : List Int) ++ e8.1) ++ ([e8.2] : List Int)).map eI) 2)), (51, (.bool e))], ⟨5, [(4, .rw (m34.map eI)), (3, .tail 1 1), (2, .tail (((([] : List Int) ++ e8.1) ++ ([e8.2] : List Int)).map eI).length 1), (1, .rw [(VS 2 (y1.1.map e_II)), (VS 1 (y1.2.1.map eI))]), (0, .rw [(VS 2 (a0.map e_II)), (VS 1 (a1.map eI))])], false⟩⟩) r42 ?_ ?_
              · refine pw_ops ?_;refine po_all ?_;(conv=>whnf);refine pbr_oite h43 (fun g46 h43 => ?_) (fun g46 h43 => ?_)
                · (conv=>whnf);(iterate 8 refine pbr_t g46 ?_;(conv=>whnf));cases h43;exact ⟨by (repeat refine .cons rfl ?_);exact .nil,rfl⟩
                · (conv=>whnf);(iterate 8 refine pbr_f g46 ?_;(conv=>whnf));cases h43;exact ⟨by (repeat refine .cons rfl ?_);exact .nil,rfl⟩
              · refine pw_cond ?_;(conv=>whnf);refine pbr_oite h10 (fun g47 h10 => ?_) (fun g47 h10 => ?_)
                · (conv=>whnf);refine pw_ops ?_;refine po_all ?_;(conv=>whnf);refine pw_ops ?_;refine po_all ?_;(conv=>whnf);obtain ⟨g48, h10⟩ := ogrd_some h10;cases h10;refine ⟨_, rfl, ?_⟩;refine Recast.trans (s' := ⟨[(4, (.pointer (some ⟨1, 0, none⟩))), (5, (VS 1 (y1.2.2.1.map eI))), (7, (VS 1 (((([] : List Int) ++ e8.1) ++ ([e8.2] : List Int)).map eI))), (8, (.int .i64 (IntKind.i64.wrap (e8.2 + (1 : Int)))))], ⟨2, [(1, .rw [(VS 2 (y1.1.map e_II)), (VS 1 (y1.2.1.map eI))]), (0, .rw [(VS 2 (a0.map e_II)), (VS 1 (a1.map eI))])], false⟩⟩) (by exact Recast.fz (fun _ => false) (nl rfl) (.cons (.same rfl rfl (OBnd.rwl (nl rfl) rfl (.cons .cl (.cons .cl .nil)))) (.cons (.same rfl rfl (OBnd.rwl (nl rfl) rfl (.cons .cl (.cons .cl .nil)))) .nil)) (.cons rfl (.same _ (.ptr (nl rfl))) (.cons rfl (.same _ .cl) (.cons rfl .vtc (.cons rfl (.same _ .cl) .nil))))) ?_
                  exact Recast.eq (congrArg (fun v => (⟨[(4, (.pointer (some ⟨1, 0, none⟩))), (5, (VS 1 (y1.2.2.1.map eI))), (7, v), (8, (.int .i64 (IntKind.i64.wrap (e8.2 + (1 : Int)))))], ⟨2, [(1, .rw [(VS 2 (y1.1.map e_II)), (VS 1 (y1.2.1.map eI))]), (0, .rw [(VS 2 (a0.map e_II)), (VS 1 (a1.map eI))])], false⟩⟩ : St)) (vni_ne g48).symm)
                · (conv=>whnf);refine pw_skip ?_;(conv=>whnf);refine pw_ops ?_;refine po_all ?_;(conv=>whnf);cases h10;refine ⟨_, rfl, ?_⟩;refine Recast.trans (s' := ⟨[(4, (.pointer (some ⟨1, 0, none⟩))), (5, (VS 1 (y1.2.2.1.map eI))), (7, (VS 1 (e8.1.map eI))), (8, (.int .i64 (IntKind.i64.wrap (e8.2 + (1 : Int)))))], ⟨2, [(1, .rw [(VS 2 (y1.1.map e_II)), (VS 1 (y1.2.1.map eI))]), (0, .rw [(VS 2 (a0.map e_II)), (VS 1 (a1.map eI))])], false⟩⟩) (by exact Recast.fz (fun _ => false) (nl rfl) (.cons (.same rfl rfl (OBnd.rwl (nl rfl) rfl (.cons .cl (.cons .cl .nil)))) (.cons (.same rfl rfl (OBnd.rwl (nl rfl) rfl (.cons .cl (.cons .cl .nil)))) .nil)) (.cons rfl (.same _ (.ptr (nl rfl))) (.cons rfl (.same _ .cl) (.cons rfl (.same _ .cl) (.cons rfl (.same _ .cl) .nil))))) ?_
                  exact Recast.eq (congrArg (fun v => (⟨[(4, (.pointer (some ⟨1, 0, none⟩))), (5, (VS 1 (y1.2.2.1.map eI))), (7, v), (8, (.int .i64 (IntKind.i64.wrap (e8.2 + (1 : Int)))))], ⟨2, [(1, .rw [(VS 2 (y1.1.map e_II)), (VS 1 (y1.2.1.map eI))]), (0, .rw [(VS 2 (a0.map e_II)), (VS 1 (a1.map eI))])], false⟩⟩ : St)) (vni_ne g12).symm)
        · (conv=>whnf);refine pw_exit ?_;(conv=>whnf);cases h10;refine ⟨_, rfl, ?_⟩; rintro rfl;(conv=>whnf);exact ⟨(.cons rfl .nil), rfl⟩
    · refine pwa ?_;(conv=>whnf);refine pw_ret ?_;(conv=>whnf);cases H; show ∃ D, Fz _ D 0 (.tuple ⟨[(vni r4), (.int .i64 0)]⟩) _;exact ⟨fun _ => false, .tuplel (.cons .vni (.cons .cl (.nil)))⟩

/-- guidevane/dam.PackingOf -/
noncomputable def f23 [LO]  (a0 : List (Int × Int)) (a1 : List Int) : Option ((List Int) × Int) :=
 obnd (f72 a0 a1) fun (y1 : (List (Int × Int)) × (List Int) × (List Int) × Int) =>
 some (y1.2.2.1, y1.2.2.2)
theorem c23 [LO]  {a0 : List (Int × Int)} {a1 : List Int} {x : (List Int) × Int} (H : f23 a0 a1 = some x) : ICalls E 23 [(.agg ⟨[(VS 2 (a0.map e_II)), (VS 1 (a1.map eI))]⟩)] AHeap.none fun v _ => v = (.tuple ⟨[(VS 1 (x.1.map eI)), (.int .i64 x.2)]⟩) := by
  refine ICalls.frz ?_;refine icalls_fn (pfnw ?_); unfold f23 at H;(conv=>whnf);refine pwa ?_;(conv=>whnf);refine pwa ?_;(conv=>whnf);obtain ⟨y1, h2, H⟩ := obnd_some H;refine (c72 h2).go ?_;(conv=>whnf);refine pwa ?_;(conv=>whnf);refine pw_ret ?_;(conv=>whnf);cases H; show ∃ D, Fz _ D 0 (.tuple ⟨[(VS 1 _), (.int .i64 y1.2.2.2)]⟩) _;exact ⟨fun _ => false, .tuplel (.cons .cl (.cons .cl (.nil)))⟩

/-- guidevane/guidevanebase.Size -/
noncomputable def f109  (a0 : Int) : Option Int :=
 some (imax a0 (IntKind.i64.wrap (0 - a0)))
theorem c109  {a0 : Int} {x : Int} (H : f109 a0 = some x) : ICalls E 109 [(.int .i64 a0)] AHeap.none fun v _ => v = (.int .i64 x) := by
  refine icalls_fn (pfnw ?_); unfold f109 at H;(conv=>whnf);refine pwa ?_;(conv=>whnf);refine pwa ?_;(conv=>whnf);refine pw_ret ?_;(conv=>whnf);cases H; rfl

/-- guidevane/guidevaneref09.Hears -/
noncomputable def f76  (a0 : List (Int × Int)) (a1 : List Int) (a2 : Int) (a3 : Int) : Option Bool :=
 ogrd ((ile 0 a2)) (
 obnd (a1[a2.toNat]?) fun (x2 : Int) =>
 ogrd ((ile 0 a3)) (
 obnd (a0[a3.toNat]?) fun (x4 : Int × Int) =>
 obnd (a0[a3.toNat]?) fun (x5 : Int × Int) =>
 obnd (f109 (IntKind.i64.wrap (x2 - x4.1))) fun (y6 : Int) =>
 some (ile y6 x5.2)))
theorem c76  {a0 : List (Int × Int)} {a1 : List Int} {a2 : Int} {a3 : Int} {x : Bool} (H : f76 a0 a1 a2 a3 = some x) : ICalls E 76 [(.agg ⟨[(VS 2 (a0.map e_II)), (VS 1 (a1.map eI))]⟩), (.int .i64 a2), (.int .i64 a3)] AHeap.none fun v _ => v = (.bool x) := by
  refine icalls_fn (pfnw ?_); unfold f76 at H;(conv=>whnf);refine pwa ?_;(conv=>whnf);refine pw_sd ?_;(conv=>whnf);refine pbr_ogrd H (fun g1 H => ?_);(conv=>whnf);refine nth_o (l := a1) H (fun x2 _ H => ?_);(conv=>whnf);refine pbr_ogrd H (fun g3 H => ?_);(conv=>whnf);refine nth_o (l := a0) H (fun x4 _ H => ?_);(conv=>whnf);refine pbr_t g3 ?_;(conv=>whnf);refine nth_o (l := a0) H (fun x5 _ H => ?_);(conv=>whnf);refine ⟨?_, trivial⟩;(conv=>whnf);obtain ⟨y6, h7, H⟩ := obnd_some H;refine (c109 h7).go ?_;(conv=>whnf);refine ⟨by trivial,?_⟩
  (conv=>whnf);refine pw_ret ?_;(conv=>whnf);cases H; rfl

/-- guidevane/guidevaneref09.IsCover -/
noncomputable def f28 [LO]  (a0 : List (Int × Int)) (a1 : List Int) (a2 : List Int) : Option Bool :=
 obndS (
 oloop (τ := Int) (ρ := (Unit) ⊕ Bool) (fun e5 =>
 oite ((ilt e5 ((a1.map eI).length : Int))) (
 obnd (
 oloop (τ := Bool × Int) (ρ := Bool) (fun e13 =>
 oite ((ilt e13.2 ((a2.map eI).length : Int))) (
 oite e13.1 (
 some (.inl (true, (IntKind.i64.wrap (e13.2 + (1 : Int)))))
 ) (
 ogrd ((ile 0 e13.2)) (
 obnd (a2[e13.2.toNat]?) fun (x19 : Int) =>
 obnd (f76 a0 a1 e5 x19) fun (y20 : Bool) =>
 some (.inl (y20, (IntKind.i64.wrap (e13.2 + (1 : Int)))))))
 ) (
 some (.inr (e13.1)))
 ) (false, (0 : Int))
 ) fun (r9 : Bool) =>
 oite (!r9) (
 some (.inr (.inr (false)))
 ) (
 some (.inl (IntKind.i64.wrap (e5 + (1 : Int)))))
 ) (
 some (.inr (.inl ())))
 ) (0 : Int)
 ) fun (_ : Unit) =>
 some true
theorem c28 [LO]  {a0 : List (Int × Int)} {a1 : List Int} {a2 : List Int} {x : Bool} (H : f28 a0 a1 a2 = some x) : ICalls E 28 [(.agg ⟨[(VS 2 (a0.map e_II)), (VS 1 (a1.map eI))]⟩), (VS 1 (a2.map eI))] AHeap.none fun v _ => v = (.bool x) := by
  refine icalls_fn (pfnw ?_); unfold f28 at H;(conv=>whnf);refine pwa ?_;(conv=>whnf);obtain ⟨r1, h2, h3, h4⟩ := obndS_some H;refine pw_joinS (ρ := Unit) (fun e => ⟨[], ⟨1, [(0, .rw [(VS 2 (a0.map e_II)), (VS 1 (a1.map eI))])], false⟩⟩) r1 ?_ ?_
  · refine pwa ?_;(conv=>whnf);refine pw_block ?_;refine pw_loop (τ := Int) (fun e => ⟨[(1, (VS 1 (a2.map eI))), (2, (.pointer (some ⟨0, 0, none⟩))), (5, (.int .i64 e))], ⟨1, [(0, .rw [(VS 2 (a0.map e_II)), (VS 1 (a1.map eI))])], false⟩⟩) h2 ?_ (fun _ => nl rfl) ?_
    · exact .sub' (nl rfl) (.cons rfl (.cons rfl (.cons rfl .nil)))
    · intro e5 x6 h7;refine pw_seq ?_;refine pwa ?_;(conv=>whnf);refine pw_cond ?_;(conv=>whnf);refine pbr_oite h7 (fun g8 h7 => ?_) (fun g8 h7 => ?_)
      · (conv=>whnf);refine pw_skip ?_;(conv=>whnf);refine pw_seq ?_;refine pw_block ?_;refine pwa ?_;(conv=>whnf);obtain ⟨r9, h10, h7⟩ := obnd_some h7;refine pw_join (ρ := Bool) (fun e => ⟨[(1, (VS 1 (a2.map eI))), (2, (.pointer (some ⟨0, 0, none⟩))), (5, (.int .i64 e5)), (6, (.bool e))], ⟨1, [(0, .rw [(VS 2 (a0.map e_II)), (VS 1 (a1.map eI))])], false⟩⟩) r9 ?_ ?_
        · refine pwa ?_;(conv=>whnf);refine pw_block ?_;refine pw_loop (τ := Bool × Int) (fun e => ⟨[(1, (VS 1 (a2.map eI))), (2, (.pointer (some ⟨0, 0, none⟩))), (5, (.int .i64 e5)), (6, (.bool e.1)), (7, (.int .i64 e.2))], ⟨1, [(0, .rw [(VS 2 (a0.map e_II)), (VS 1 (a1.map eI))])], false⟩⟩) h10 ?_ (fun _ => nl rfl) ?_
          · exact .sub' (nl rfl) (.cons rfl (.cons rfl (.cons rfl (.cons rfl (.cons rfl .nil)))))
          · intro e13 x14 h15;refine pw_seq ?_;refine pwa ?_;(conv=>whnf);refine pw_cond ?_;(conv=>whnf);refine pbr_oite h15 (fun g16 h15 => ?_) (fun g16 h15 => ?_)
            · (conv=>whnf);refine pw_skip ?_;(conv=>whnf);refine pw_seq ?_;refine pw_block ?_;refine pw_draw ?_;(conv=>whnf);refine pbr_oite h15 (fun g17 h15 => ?_) (fun g17 h15 => ?_)
              · (conv=>whnf);(iterate 5 refine pbr_t g17 ?_;(conv=>whnf));refine ⟨?_, trivial⟩;(conv=>whnf);refine pbr_t g17 ?_;(conv=>whnf);refine pbr_t g17 ?_;(conv=>whnf);refine ⟨?_, trivial⟩;(conv=>whnf);refine ⟨by trivial,?_⟩;(conv=>whnf);refine pw_ops ?_;refine po_all ?_;(conv=>whnf);cases h15;refine ⟨_, rfl, ?_⟩;exact .sub' (nl rfl) (.cons rfl (.cons rfl (.cons rfl (.cons rfl (.cons rfl .nil)))))
              · (conv=>whnf);(iterate 4 refine pbr_f g17 ?_;(conv=>whnf));refine pbr_ogrd h15 (fun g18 h15 => ?_);(conv=>whnf);refine nth_o (l := a2) h15 (fun x19 _ h15 => ?_);(conv=>whnf);refine pbr_f g17 ?_;(conv=>whnf);refine ⟨?_, trivial⟩;(conv=>whnf);refine pbr_f g17 ?_;(conv=>whnf);obtain ⟨y20, h21, h15⟩ := obnd_some h15;refine (c76 h21).go ?_;(conv=>whnf);refine ⟨by trivial,?_⟩;(conv=>whnf);refine pbr_f g17 ?_;(conv=>whnf);refine ⟨?_, trivial⟩;(conv=>whnf);refine ⟨by trivial,?_⟩
                (conv=>whnf);refine pw_ops ?_;refine po_all ?_;(conv=>whnf);cases h15;refine ⟨_, rfl, ?_⟩;exact .sub' (nl rfl) (.cons rfl (.cons rfl (.cons rfl (.cons rfl (.cons rfl .nil)))))
            · (conv=>whnf);refine pw_exit ?_;(conv=>whnf);cases h15;refine ⟨_, rfl, ?_⟩; rintro rfl;(conv=>whnf);exact ⟨by (repeat refine .cons rfl ?_);exact .nil,rfl⟩
        · refine pwa ?_;(conv=>whnf);refine pw_cond ?_;(conv=>whnf);refine pbr_oite h7 (fun g23 h7 => ?_) (fun g23 h7 => ?_)
          · (conv=>whnf);refine pwa ?_;(conv=>whnf);refine pw_ret ?_;(conv=>whnf);cases h7;refine ⟨_, rfl, ?_⟩; rintro rfl;(conv=>whnf);obtain rfl := h4 _ rfl; rfl
          · (conv=>whnf);refine pw_skip ?_;(conv=>whnf);refine pw_ops ?_;refine po_all ?_;(conv=>whnf);cases h7;refine ⟨_, rfl, ?_⟩;exact .sub' (nl rfl) (.cons rfl (.cons rfl (.cons rfl .nil)))
      · (conv=>whnf);refine pw_exit ?_;(conv=>whnf);cases h7;refine ⟨_, rfl, ?_⟩; rintro rfl;(conv=>whnf);exact ⟨_, rfl, ⟨.nil, rfl⟩⟩
  · intro r26 hr; have H := h3 _ hr;refine pwa ?_;(conv=>whnf);refine pw_ret ?_;(conv=>whnf);cases H; rfl

/-- guidevane/guidevaneref09.covered -/
noncomputable def r75 [LO] (p99 : (List (Int × Int)) → (List Int) → (List Int) → Int → Int → Option ((List Int) × Bool)) (a0 : List (Int × Int)) (a1 : List Int) (a2 : List Int) (a3 : Int) (a4 : Int) : Option ((List Int) × Bool) :=
 oite ((ieq a4 (0 : Int))) (
 obnd (f38 a2) fun (y2 : (List Int)) =>
 obnd (f28 a0 a1 a2) fun (y4 : Bool) =>
 some (y2, y4)
 ) (
 obndS (
 oloop (τ := Int) (ρ := (Unit) ⊕ ((List Int) × Bool)) (fun e10 =>
 oite ((ile (IntKind.i64.wrap (e10 + a4)) ((a0.map e_II).length : Int))) (
 obnd (
 obnd (f38 a2) fun (y18 : (List Int)) =>
 ogrd (fits 8 (y18.length + ([e10] : List Int).length)) (
 obnd (p99 a0 a1 (y18 ++ ([e10] : List Int)) (IntKind.i64.wrap (e10 + (1 : Int))) (IntKind.i64.wrap (a4 - (1 : Int)))) fun (y21 : (List Int) × Bool) =>
 some (y21.1, y21.2))
 ) fun (r14 : (List Int) × Bool) =>
 oite r14.2 (
 some (.inr (.inr ((r14.1, true))))
 ) (
 some (.inl (IntKind.i64.wrap (e10 + (1 : Int)))))
 ) (
 some (.inr (.inl ())))
 ) a3
 ) fun (_ : Unit) =>
 some (([] : List Int), false))
theorem cr75 [LO] {p99 : (List (Int × Int)) → (List Int) → (List Int) → Int → Int → Option ((List Int) × Bool)} (hp99 : ∀ {a0 : List (Int × Int)} {a1 : List Int} {a2 : List Int} {a3 : Int} {a4 : Int} {x : (List Int) × Bool}, p99 a0 a1 a2 a3 a4 = some x → ICalls E 75 [(.agg ⟨[(VS 2 (a0.map e_II)), (VS 1 (a1.map eI))]⟩), (VS 1 (a2.map eI)), (.int .i64 a3), (.int .i64 a4)] AHeap.none fun v _ => v = (.tuple ⟨[(VS 1 (x.1.map eI)), (.bool x.2)]⟩)) {a0 : List (Int × Int)} {a1 : List Int} {a2 : List Int} {a3 : Int} {a4 : Int} {x : (List Int) × Bool} (H : r75 p99 a0 a1 a2 a3 a4 = some x) : ICalls E 75 [(.agg ⟨[(VS 2 (a0.map e_II)), (VS 1 (a1.map eI))]⟩), (VS 1 (a2.map eI)), (.int .i64 a3), (.int .i64 a4)] AHeap.none fun v _ => v = (.tuple ⟨[(VS 1 (x.1.map eI)), (.bool x.2)]⟩) := by
  refine ICalls.frz ?_;refine icalls_fn (pfnw ?_); unfold r75 at H;(conv=>whnf);refine pwa ?_;(conv=>whnf);refine pw_seq ?_;refine pwa ?_;(conv=>whnf);refine pw_cond ?_;(conv=>whnf);refine pbr_oite H (fun g1 H => ?_) (fun g1 H => ?_)
  · (conv=>whnf);refine pw_sd ?_;(conv=>whnf);refine ⟨?_, trivial⟩;(conv=>whnf);obtain ⟨y2, h3, H⟩ := obnd_some H;refine ICalls.goFW (c38 h3) (.cons (.refl _) .nil) ?_;(conv=>whnf);refine ⟨by trivial,?_⟩;(conv=>whnf);refine ⟨?_, trivial⟩;(conv=>whnf);obtain ⟨y4, h5, H⟩ := obnd_some H;refine (c28 h5).go ?_;(conv=>whnf);refine ⟨by trivial,?_⟩;(conv=>whnf);refine pw_ret ?_;(conv=>whnf);cases H; show ∃ D, Fz _ D 0 (.tuple ⟨[(VT 1 _ 1), (.bool y4)]⟩) _;exact ⟨fun _ => false, .tuplel (.cons .vtc (.cons .cl (.nil)))⟩
  · (conv=>whnf);refine pw_skip ?_;(conv=>whnf);obtain ⟨r6, h7, h8, h9⟩ := obndS_some H;refine pw_joinS (ρ := Unit) (fun e => ⟨[], ⟨1, [(0, .rw [(VS 2 (a0.map e_II)), (VS 1 (a1.map eI))])], false⟩⟩) r6 ?_ ?_
    · refine pwa ?_;(conv=>whnf);refine pw_block ?_;refine pw_loop (τ := Int) (fun e => ⟨[(1, (VS 1 (a2.map eI))), (3, (.int .i64 a4)), (4, (.pointer (some ⟨0, 0, none⟩))), (10, (.int .i64 e))], ⟨1, [(0, .rw [(VS 2 (a0.map e_II)), (VS 1 (a1.map eI))])], false⟩⟩) h7 ?_ (fun _ => nl rfl) ?_
      · exact .sub' (nl rfl) (.cons rfl (.cons rfl (.cons rfl (.cons rfl .nil))))
      · intro e10 x11 h12;refine pw_seq ?_;refine pwa ?_;(conv=>whnf);refine pw_cond ?_;(conv=>whnf);refine pbr_oite h12 (fun g13 h12 => ?_) (fun g13 h12 => ?_)
        · (conv=>whnf);refine pw_skip ?_;(conv=>whnf);refine pw_seq ?_;refine pw_block ?_;obtain ⟨r14, h15, h12⟩ := obnd_some h12;refine pw_joinR (ρ := (List Int) × Bool) (fun e => ⟨[(1, (VS 1 (a2.map eI))), (3, (.int .i64 a4)), (4, (.pointer (some ⟨0, 0, none⟩))), (10, (.int .i64 e10)), (11, (VS 1 (e.1.map eI))), (12, (.bool e.2))], ⟨1, [(0, .rw [(VS 2 (a0.map e_II)), (VS 1 (a1.map eI))])], false⟩⟩) r14 ?_ ?_
          · refine pw_draw ?_;(conv=>whnf);refine ⟨?_, ?_⟩
            · (conv=>whnf);obtain ⟨y18, h19, h15⟩ := obnd_some h15;refine ICalls.goFW (c38 h19) (.cons (.refl _) .nil) ?_;(conv=>whnf);refine ⟨by trivial,?_⟩;(conv=>whnf);refine ⟨?_, trivial⟩;(conv=>whnf);refine ⟨by trivial,?_⟩;(conv=>whnf);refine ⟨?_, trivial⟩;(conv=>whnf);obtain ⟨g20, h15⟩ := ogrd_some h15;refine app_o (l := y18) (m := ([e10] : List Int)) (f := eI) (ogrd_i g20) (by rfl) (by rfl) (by rfl) (fun _ => ?_);(conv=>whnf);refine ⟨by trivial,?_⟩;(conv=>whnf)
              refine ⟨?_, trivial⟩;(conv=>whnf);obtain ⟨y21, h22, h15⟩ := obnd_some h15;refine ICalls.goW (hp99 h22) (.cons (.refl _) (.cons (.vt _ _ _) (.cons (.refl _) (.cons (.refl _) .nil)))) ?_;(conv=>whnf);refine ⟨by trivial,?_⟩;(conv=>whnf);cases h15;exact Recast.fz (fun _ => false) (nl rfl) (.cons (.same rfl rfl (OBnd.rwl (nl rfl) rfl (.cons .cl (.cons .cl .nil)))) .nil) (.cons rfl (.same _ .cl) (.cons rfl (.same _ .cl) (.cons rfl (.same _ (.ptr (nl rfl))) (.cons rfl (.same _ .cl) (.cons rfl (.same _ .cl) (.cons rfl (.same _ .cl) .nil))))))
            · obtain ⟨y18, h19, h15⟩ := obnd_some h15;obtain ⟨g20, h15⟩ := ogrd_some h15;obtain ⟨y21, h22, h15⟩ := obnd_some h15;(conv=>whnf);refine ⟨?_, trivial⟩;(conv=>whnf);refine ⟨by trivial,?_⟩;(conv=>whnf);refine ⟨?_, trivial⟩;(conv=>whnf);refine ICalls.goFW (c38 h19) (.cons (.refl _) .nil) ?_;(conv=>whnf);refine ⟨by trivial,?_⟩;(conv=>whnf);refine ⟨?_, trivial⟩;(conv=>whnf);refine app_o (l := y18) (m := ([e10] : List Int)) (f := eI) (ogrd_i g20) (by rfl) (by rfl) (by rfl) (fun _ => ?_);(conv=>whnf);refine ⟨by trivial,?_⟩
              (conv=>whnf);refine ⟨?_, trivial⟩;(conv=>whnf);refine ICalls.goW (hp99 h22) (.cons (.refl _) (.cons (.vt _ _ _) (.cons (.refl _) (.cons (.refl _) .nil)))) ?_;(conv=>whnf);refine ⟨by trivial,?_⟩;(conv=>whnf);cases h15;exact Recast.fz (fun _ => false) (nl rfl) (.cons (.same rfl rfl (OBnd.rwl (nl rfl) rfl (.cons .cl (.cons .cl .nil)))) .nil) (.cons rfl (.same _ .cl) (.cons rfl (.same _ .cl) (.cons rfl (.same _ (.ptr (nl rfl))) (.cons rfl (.same _ .cl) (.cons rfl (.same _ .cl) (.cons rfl (.same _ .cl) .nil))))))
          · refine pwa ?_;(conv=>whnf);refine pw_cond ?_;(conv=>whnf);refine pbr_oite h12 (fun g23 h12 => ?_) (fun g23 h12 => ?_)
            · (conv=>whnf);refine pwa ?_;(conv=>whnf);refine pw_ret ?_;(conv=>whnf);cases h12;refine ⟨_, rfl, ?_⟩; rintro rfl;(conv=>whnf);obtain rfl := h9 _ rfl; show ∃ D, Fz _ D 0 (.tuple ⟨[(VS 1 _), (.bool true)]⟩) _;exact ⟨fun _ => false, .tuplel (.cons .cl (.cons .cl (.nil)))⟩
            · (conv=>whnf);refine pw_skip ?_;(conv=>whnf);refine pw_ops ?_;refine po_all ?_;(conv=>whnf);cases h12;refine ⟨_, rfl, ?_⟩;exact .sub' (nl rfl) (.cons rfl (.cons rfl (.cons rfl (.cons rfl .nil))))
        · (conv=>whnf);refine pw_exit ?_;(conv=>whnf);cases h12;refine ⟨_, rfl, ?_⟩; rintro rfl;(conv=>whnf);exact ⟨_, rfl, ⟨.nil, rfl⟩⟩
    · intro r26 hr; have H := h8 _ hr;refine pwa ?_;(conv=>whnf);refine pw_ret ?_;(conv=>whnf);cases H; show ∃ D, Fz _ D 0 (.tuple ⟨[(.slice none 0 0), (.bool false)]⟩) _;exact ⟨fun _ => false, .tuplel (.cons (.nil _) (.cons .cl (.nil)))⟩
noncomputable def f75n [LO] : Nat → (List (Int × Int)) → (List Int) → (List Int) → Int → Int → Option ((List Int) × Bool)
 | 0 => fun _ _ _ _ _ => none
 | n + 1 => r75 (f75n n)
theorem c75n [LO] : ∀ (n : Nat) {a0 : List (Int × Int)} {a1 : List Int} {a2 : List Int} {a3 : Int} {a4 : Int} {x : (List Int) × Bool}, f75n n a0 a1 a2 a3 a4 = some x → ICalls E 75 [(.agg ⟨[(VS 2 (a0.map e_II)), (VS 1 (a1.map eI))]⟩), (VS 1 (a2.map eI)), (.int .i64 a3), (.int .i64 a4)] AHeap.none fun v _ => v = (.tuple ⟨[(VS 1 (x.1.map eI)), (.bool x.2)]⟩)
  | 0, _, _, _, _, _, _, H => by cases H
  | n + 1, _, _, _, _, _, _, H => cr75  (fun h => c75n n h) H
noncomputable def f75 [LO] (a0 : List (Int × Int)) (a1 : List Int) (a2 : List Int) (a3 : Int) (a4 : Int) : Option ((List Int) × Bool) := f75n (a4.toNat + 1) a0 a1 a2 a3 a4
theorem c75 [LO] {a0 : List (Int × Int)} {a1 : List Int} {a2 : List Int} {a3 : Int} {a4 : Int} {x : (List Int) × Bool} (H : f75 a0 a1 a2 a3 a4 = some x) : ICalls E 75 [(.agg ⟨[(VS 2 (a0.map e_II)), (VS 1 (a1.map eI))]⟩), (VS 1 (a2.map eI)), (.int .i64 a3), (.int .i64 a4)] AHeap.none fun v _ => v = (.tuple ⟨[(VS 1 (x.1.map eI)), (.bool x.2)]⟩) := c75n _ H

/-- guidevane/guidevaneref09.Cover -/
noncomputable def f25 [LO]  (a0 : List (Int × Int)) (a1 : List Int) : Option ((List Int) × Bool) :=
 obndS (
 oloop (τ := Int) (ρ := (Unit) ⊕ ((List Int) × Bool)) (fun e5 =>
 oite ((ile e5 ((a0.map e_II).length : Int))) (
 obnd (f75 a0 a1 ([] : List Int) (0 : Int) e5) fun (y9 : (List Int) × Bool) =>
 oite y9.2 (
 some (.inr (.inr ((y9.1, true))))
 ) (
 some (.inl (IntKind.i64.wrap (e5 + (1 : Int)))))
 ) (
 some (.inr (.inl ())))
 ) (0 : Int)
 ) fun (_ : Unit) =>
 some (([] : List Int), false)
theorem c25 [LO]  {a0 : List (Int × Int)} {a1 : List Int} {x : (List Int) × Bool} (H : f25 a0 a1 = some x) : ICalls E 25 [(.agg ⟨[(VS 2 (a0.map e_II)), (VS 1 (a1.map eI))]⟩)] AHeap.none fun v _ => v = (.tuple ⟨[(VS 1 (x.1.map eI)), (.bool x.2)]⟩) := by
  refine ICalls.frz ?_;refine icalls_fn (pfnw ?_); unfold f25 at H;(conv=>whnf);refine pwa ?_;(conv=>whnf);obtain ⟨r1, h2, h3, h4⟩ := obndS_some H;refine pw_joinS (ρ := Unit) (fun e => ⟨[], ⟨1, [(0, .rw [(VS 2 (a0.map e_II)), (VS 1 (a1.map eI))])], false⟩⟩) r1 ?_ ?_
  · refine pwa ?_;(conv=>whnf);refine pw_block ?_;refine pw_loop (τ := Int) (fun e => ⟨[(1, (.pointer (some ⟨0, 0, none⟩))), (4, (.int .i64 e))], ⟨1, [(0, .rw [(VS 2 (a0.map e_II)), (VS 1 (a1.map eI))])], false⟩⟩) h2 ?_ (fun _ => nl rfl) ?_
    · exact .sub' (nl rfl) (.cons rfl (.cons rfl .nil))
    · intro e5 x6 h7;refine pw_seq ?_;refine pwa ?_;(conv=>whnf);refine pw_cond ?_;(conv=>whnf);refine pbr_oite h7 (fun g8 h7 => ?_) (fun g8 h7 => ?_)
      · (conv=>whnf);refine pw_skip ?_;(conv=>whnf);refine pw_seq ?_;refine pw_block ?_;refine pwa ?_;(conv=>whnf);obtain ⟨y9, h10, h7⟩ := obnd_some h7;refine ICalls.goW (c75 h10) (.cons (.refl _) (.cons (.nil _) (.cons (.refl _) (.cons (.refl _) .nil)))) ?_;(conv=>whnf);refine pwa ?_;(conv=>whnf);refine pw_cond ?_;(conv=>whnf);refine pbr_oite h7 (fun g11 h7 => ?_) (fun g11 h7 => ?_)
        · (conv=>whnf);refine pwa ?_;(conv=>whnf);refine pw_ret ?_;(conv=>whnf);cases h7;refine ⟨_, rfl, ?_⟩; rintro rfl;(conv=>whnf);obtain rfl := h4 _ rfl; show ∃ D, Fz _ D 0 (.tuple ⟨[(VS 1 _), (.bool true)]⟩) _;exact ⟨fun _ => false, .tuplel (.cons .cl (.cons .cl (.nil)))⟩
        · (conv=>whnf);refine pw_skip ?_;(conv=>whnf);refine pw_ops ?_;refine po_all ?_;(conv=>whnf);cases h7;refine ⟨_, rfl, ?_⟩;exact .sub' (nl rfl) (.cons rfl (.cons rfl .nil))
      · (conv=>whnf);refine pw_exit ?_;(conv=>whnf);cases h7;refine ⟨_, rfl, ?_⟩; rintro rfl;(conv=>whnf);exact ⟨_, rfl, ⟨.nil, rfl⟩⟩
  · intro r14 hr; have H := h3 _ hr;refine pwa ?_;(conv=>whnf);refine pw_ret ?_;(conv=>whnf);cases H; show ∃ D, Fz _ D 0 (.tuple ⟨[(.slice none 0 0), (.bool false)]⟩) _;exact ⟨fun _ => false, .tuplel (.cons (.nil _) (.cons .cl (.nil)))⟩

/-- guidevane/guidevanebase.Ints -/
noncomputable def f26 [LO]  (a0 : List Int) (a1 : List Int) : Option Bool :=
 oite ((!(ieq ((a0.map eI).length : Int) ((a1.map eI).length : Int)))) (
 some false
 ) (
 obndS (
 oloop (τ := Int) (ρ := (Unit) ⊕ Bool) (fun e6 =>
 oite ((ilt e6 ((a0.map eI).length : Int))) (
 ogrd ((ile 0 e6)) (
 obnd (a0[e6.toNat]?) fun (x11 : Int) =>
 obnd (a1[e6.toNat]?) fun (x12 : Int) =>
 oite ((!(ieq x11 x12))) (
 some (.inr (.inr (false)))
 ) (
 some (.inl (IntKind.i64.wrap (e6 + (1 : Int))))))
 ) (
 some (.inr (.inl ())))
 ) (0 : Int)
 ) fun (_ : Unit) =>
 some true)
theorem c26 [LO]  {a0 : List Int} {a1 : List Int} {x : Bool} (H : f26 a0 a1 = some x) : ICalls E 26 [(VS 1 (a0.map eI)), (VS 1 (a1.map eI))] AHeap.none fun v _ => v = (.bool x) := by
  refine icalls_fn (pfnw ?_); unfold f26 at H;(conv=>whnf);refine pwa ?_;(conv=>whnf);refine pw_seq ?_;refine pwa ?_;(conv=>whnf);refine pw_cond ?_;(conv=>whnf);refine pbr_oite H (fun g1 H => ?_) (fun g1 H => ?_)
  · (conv=>whnf);refine pwa ?_;(conv=>whnf);refine pw_ret ?_;(conv=>whnf);cases H; rfl
  · (conv=>whnf);refine pw_skip ?_;(conv=>whnf);obtain ⟨r2, h3, h4, h5⟩ := obndS_some H;refine pw_joinS (ρ := Unit) (fun e => ⟨[], ⟨0, [], false⟩⟩) r2 ?_ ?_
    · refine pwa ?_;(conv=>whnf);refine pw_block ?_;refine pw_loop (τ := Int) (fun e => ⟨[(0, (VS 1 (a0.map eI))), (1, (VS 1 (a1.map eI))), (5, (.int .i64 e))], ⟨0, [], false⟩⟩) h3 ?_ (fun _ => nl rfl) ?_
      · exact .sub' (nl rfl) (.cons rfl (.cons rfl (.cons rfl .nil)))
      · intro e6 x7 h8;refine pw_seq ?_;refine pwa ?_;(conv=>whnf);refine pw_cond ?_;(conv=>whnf);refine pbr_oite h8 (fun g9 h8 => ?_) (fun g9 h8 => ?_)
        · (conv=>whnf);refine pw_skip ?_;(conv=>whnf);refine pw_seq ?_;refine pw_block ?_;refine pw_sd ?_;(conv=>whnf);refine pbr_ogrd h8 (fun g10 h8 => ?_);(conv=>whnf);refine nth_o (l := a0) h8 (fun x11 _ h8 => ?_);(conv=>whnf);refine pbr_t g10 ?_;(conv=>whnf);refine nth_o (l := a1) h8 (fun x12 _ h8 => ?_);(conv=>whnf);refine pw_cond ?_;(conv=>whnf);refine pbr_oite h8 (fun g13 h8 => ?_) (fun g13 h8 => ?_)
          · (conv=>whnf);refine pwa ?_;(conv=>whnf);refine pw_ret ?_;(conv=>whnf);cases h8;refine ⟨_, rfl, ?_⟩; rintro rfl;(conv=>whnf);obtain rfl := h5 _ rfl; rfl
          · (conv=>whnf);refine pw_skip ?_;(conv=>whnf);refine pw_ops ?_;refine po_all ?_;(conv=>whnf);cases h8;refine ⟨_, rfl, ?_⟩;exact .sub' (nl rfl) (.cons rfl (.cons rfl (.cons rfl .nil)))
        · (conv=>whnf);refine pw_exit ?_;(conv=>whnf);cases h8;refine ⟨_, rfl, ?_⟩; rintro rfl;(conv=>whnf);exact ⟨_, rfl, ⟨.nil, rfl⟩⟩
    · intro r16 hr; have H := h4 _ hr;refine pwa ?_;(conv=>whnf);refine pw_ret ?_;(conv=>whnf);cases H; rfl

/-- guidevane/guidevanelaw09.DamCovers -/
noncomputable def f4 [LO]  (a0 : List (Int × Int)) (a1 : List Int) : Option Bool :=
 obnd (f10) fun (y1 : Bool) =>
 oite (!y1) (
 some false
 ) (
 obnd (
 obnd (f18 a0 a1) fun (y8 : Bool) =>
 oite (!y8) (
 some true
 ) (
 obnd (f19 a0 a1) fun (y11 : Bool) =>
 some (!y11))
 ) fun (r4 : Bool) =>
 oite r4 (
 some true
 ) (
 obnd (f21 a0 a1) fun (y14 : (List (Int × Int)) × (List Int)) =>
 obnd (f20 y14.1 y14.2) fun (y16 : Int × Int) =>
 obnd (f21 a0 a1) fun (y18 : (List (Int × Int)) × (List Int)) =>
 obnd (f22 y18.1 y18.2) fun (y20 : (List Int) × Int) =>
 obnd (f21 a0 a1) fun (y22 : (List (Int × Int)) × (List Int)) =>
 obnd (f23 y22.1 y22.2) fun (y24 : (List Int) × Int) =>
 obnd (f24 a0 a1) fun (y26 : Int × Int) =>
 obnd (
 oite ((!(ieq y16.2 y26.2))) (
 some true
 ) (
 some (!(ieq y16.1 y26.1)))
 ) fun (r28 : Bool) =>
 oite r28 (
 some false
 ) (
 oite ((!(ieq y26.2 (0 : Int)))) (
 obnd (
 oite ((ieq y20.2 y26.2)) (
 some (ieq y24.2 y26.2)
 ) (
 some false)
 ) fun (r35 : Bool) =>
 obnd (
 oite r35 (
 some (ieq (IntKind.i64.wrap (((y20.1.map eI).length : Int) + ((y24.1.map eI).length : Int))) (0 : Int))
 ) (
 some false)
 ) fun (r38 : Bool) =>
 some r38
 ) (
 obnd (f25 a0 a1) fun (y41 : (List Int) × Bool) =>
 oite (!y41.2) (
 obnd (
 oite ((ieq y20.2 (12 : Int))) (
 some (ieq y24.2 (12 : Int))
 ) (
 some false)
 ) fun (r44 : Bool) =>
 obnd (
 oite r44 (
 some (ieq (IntKind.i64.wrap (((y20.1.map eI).length : Int) + ((y24.1.map eI).length : Int))) (0 : Int))
 ) (
 some false)
 ) fun (r47 : Bool) =>
 some r47
 ) (
 obnd (
 oite ((ieq y20.2 (0 : Int))) (
 obnd (f26 y20.1 y41.1) fun (y53 : Bool) =>
 some y53
 ) (
 some false)
 ) fun (r50 : Bool) =>
 obnd (
 oite r50 (
 some (ieq y24.2 (0 : Int))
 ) (
 some false)
 ) fun (r55 : Bool) =>
 obnd (
 oite r55 (
 some (ieq ((y24.1.map eI).length : Int) ((y41.1.map eI).length : Int))
 ) (
 some false)
 ) fun (r58 : Bool) =>
 some r58)))))
theorem c4 [LO]  {a0 : List (Int × Int)} {a1 : List Int} {x : Bool} (H : f4 a0 a1 = some x) : ICalls E 4 [(.agg ⟨[(VS 2 (a0.map e_II)), (VS 1 (a1.map eI))]⟩)] AHeap.none fun v _ => v = (.bool x) := by
  refine icalls_fn (pfnw ?_); unfold f4 at H;(conv=>whnf);refine pwa ?_;(conv=>whnf);refine pw_seq ?_;refine pwa ?_;(conv=>whnf);obtain ⟨y1, h2, H⟩ := obnd_some H;refine (c10 h2).go ?_;(conv=>whnf);refine pw_cond ?_;(conv=>whnf);refine pbr_oite H (fun g3 H => ?_) (fun g3 H => ?_)
  · (conv=>whnf);refine pwa ?_;(conv=>whnf);refine pw_ret ?_;(conv=>whnf);cases H; rfl
  · (conv=>whnf);refine pw_skip ?_;(conv=>whnf);refine pw_seq ?_;obtain ⟨r4, h5, H⟩ := obnd_some H;refine pw_join (ρ := Bool) (fun e => ⟨[(1, (.pointer (some ⟨0, 0, none⟩))), (22, (.bool e))], ⟨1, [(0, .rw [(VS 2 (a0.map e_II)), (VS 1 (a1.map eI))])], false⟩⟩) r4 ?_ ?_
    · refine pw_ops ?_;refine po_all ?_;(conv=>whnf);obtain ⟨y8, h9, h5⟩ := obnd_some h5;refine (c18 h9).go ?_;(conv=>whnf);refine pbr_oite h5 (fun g10 h5 => ?_) (fun g10 h5 => ?_)
      · (conv=>whnf);(iterate 3 refine pbr_t g10 ?_;(conv=>whnf));cases h5;exact ⟨(.cons rfl (.cons rfl .nil)), rfl⟩
      · (conv=>whnf);refine pbr_f g10 ?_;(conv=>whnf);obtain ⟨y11, h12, h5⟩ := obnd_some h5;refine (c19 h12).go ?_;(conv=>whnf);refine pbr_f g10 ?_;(conv=>whnf);refine pbr_f g10 ?_;(conv=>whnf);cases h5;exact ⟨(.cons rfl (.cons rfl .nil)), rfl⟩
    · refine pw_cond ?_;(conv=>whnf);refine pbr_oite H (fun g13 H => ?_) (fun g13 H => ?_)
      · (conv=>whnf);refine pwa ?_;(conv=>whnf);refine pw_ret ?_;(conv=>whnf);cases H; rfl
      · (conv=>whnf);refine pw_skip ?_;(conv=>whnf);refine pwa ?_;(conv=>whnf);obtain ⟨y14, h15, H⟩ := obnd_some H;refine (c21 h15).go ?_;(conv=>whnf);obtain ⟨y16, h17, H⟩ := obnd_some H;refine (c20 h17).go ?_;(conv=>whnf);refine pwa ?_;(conv=>whnf);obtain ⟨y18, h19, H⟩ := obnd_some H;refine (c21 h19).go ?_;(conv=>whnf);obtain ⟨y20, h21, H⟩ := obnd_some H;refine (c22 h21).go ?_;(conv=>whnf);refine pwa ?_;(conv=>whnf);obtain ⟨y22, h23, H⟩ := obnd_some H;refine (c21 h23).go ?_;(conv=>whnf);obtain ⟨y24, h25, H⟩ := obnd_some H;refine (c23 h25).go ?_;(conv=>whnf)
        refine pwa ?_;(conv=>whnf);obtain ⟨y26, h27, H⟩ := obnd_some H;refine (c24 h27).go ?_;(conv=>whnf);refine pw_seq ?_;obtain ⟨r28, h29, H⟩ := obnd_some H;refine pw_join (ρ := Bool) (fun e => ⟨[(1, (.pointer (some ⟨0, 0, none⟩))), (5, (VS 1 (y20.1.map eI))), (6, (.int .i64 y20.2)), (7, (VS 1 (y24.1.map eI))), (8, (.int .i64 y24.2)), (10, (.int .i64 y26.2)), (53, (.bool e))], ⟨1, [(0, .rw [(VS 2 (a0.map e_II)), (VS 1 (a1.map eI))])], false⟩⟩) r28 ?_ ?_
        · refine pw_ops ?_;refine po_all ?_;(conv=>whnf);refine pbr_oite h29 (fun g32 h29 => ?_) (fun g32 h29 => ?_)
          · (conv=>whnf);(iterate 3 refine pbr_t g32 ?_;(conv=>whnf));cases h29;exact ⟨by (repeat refine .cons rfl ?_);exact .nil,rfl⟩
          · (conv=>whnf);(iterate 3 refine pbr_f g32 ?_;(conv=>whnf));cases h29;exact ⟨by (repeat refine .cons rfl ?_);exact .nil,rfl⟩
        · refine pw_cond ?_;(conv=>whnf);refine pbr_oite H (fun g33 H => ?_) (fun g33 H => ?_)
          · (conv=>whnf);refine pwa ?_;(conv=>whnf);refine pw_ret ?_;(conv=>whnf);cases H; rfl
          · (conv=>whnf);refine pw_skip ?_;(conv=>whnf);refine pw_seq ?_;refine pwa ?_;(conv=>whnf);refine pw_cond ?_;(conv=>whnf);refine pbr_oite H (fun g34 H => ?_) (fun g34 H => ?_)
            · (conv=>whnf);refine pw_so ?_;refine po_ops 4 ?_;(conv=>whnf);obtain ⟨r35, h36, H⟩ := obnd_some H;refine po_seg (τ := Bool) 4 (fun e => ⟨[(5, (VS 1 (y20.1.map eI))), (7, (VS 1 (y24.1.map eI))), (63, (.bool e))], ⟨1, [(0, .rw [(VS 2 (a0.map e_II)), (VS 1 (a1.map eI))])], false⟩⟩) r35 ?_ ?_
              · refine po_all ?_;(conv=>whnf);refine pbr_oite h36 (fun g37 h36 => ?_) (fun g37 h36 => ?_)
                · (conv=>whnf);(iterate 3 refine pbr_t g37 ?_;(conv=>whnf));cases h36;exact ⟨(.cons rfl (.cons rfl (.cons rfl .nil))), rfl⟩
                · (conv=>whnf);(iterate 3 refine pbr_f g37 ?_;(conv=>whnf));cases h36;exact ⟨(.cons rfl (.cons rfl (.cons rfl .nil))), rfl⟩
              · refine po_ops 1 ?_;(conv=>whnf);obtain ⟨r38, h39, H⟩ := obnd_some H;refine po_seg (τ := Bool) 7 (fun e => ⟨[(71, (.bool e))], ⟨1, [(0, .rw [(VS 2 (a0.map e_II)), (VS 1 (a1.map eI))])], false⟩⟩) r38 ?_ ?_
                · refine po_all ?_;(conv=>whnf);refine pbr_oite h39 (fun g40 h39 => ?_) (fun g40 h39 => ?_)
                  · (conv=>whnf);(iterate 6 refine pbr_t g40 ?_;(conv=>whnf));cases h39;exact ⟨(.cons rfl .nil), rfl⟩
                  · (conv=>whnf);(iterate 6 refine pbr_f g40 ?_;(conv=>whnf));cases h39;exact ⟨(.cons rfl .nil), rfl⟩
                · refine po_all ?_;(conv=>whnf);refine pw_ret ?_;(conv=>whnf);cases H; rfl
            · (conv=>whnf);refine pw_skip ?_;(conv=>whnf);refine pwa ?_;(conv=>whnf);obtain ⟨y41, h42, H⟩ := obnd_some H;refine (c25 h42).go ?_;(conv=>whnf);refine pw_seq ?_;refine pwa ?_;(conv=>whnf);refine pw_cond ?_;(conv=>whnf);refine pbr_oite H (fun g43 H => ?_) (fun g43 H => ?_)
              · (conv=>whnf);refine pw_so ?_;refine po_ops 3 ?_;(conv=>whnf);obtain ⟨r44, h45, H⟩ := obnd_some H;refine po_seg (τ := Bool) 3 (fun e => ⟨[(5, (VS 1 (y20.1.map eI))), (7, (VS 1 (y24.1.map eI))), (84, (.bool e))], ⟨1, [(0, .rw [(VS 2 (a0.map e_II)), (VS 1 (a1.map eI))])], false⟩⟩) r44 ?_ ?_
                · refine po_all ?_;(conv=>whnf);refine pbr_oite h45 (fun g46 h45 => ?_) (fun g46 h45 => ?_)
                  · (conv=>whnf);refine pbr_t g46 ?_;(conv=>whnf);refine pbr_t g46 ?_;(conv=>whnf);cases h45;exact ⟨(.cons rfl (.cons rfl (.cons rfl .nil))), rfl⟩
                  · (conv=>whnf);refine pbr_f g46 ?_;(conv=>whnf);refine pbr_f g46 ?_;(conv=>whnf);cases h45;exact ⟨(.cons rfl (.cons rfl (.cons rfl .nil))), rfl⟩
                · refine po_ops 1 ?_;(conv=>whnf);obtain ⟨r47, h48, H⟩ := obnd_some H;refine po_seg (τ := Bool) 7 (fun e => ⟨[(92, (.bool e))], ⟨1, [(0, .rw [(VS 2 (a0.map e_II)), (VS 1 (a1.map eI))])], false⟩⟩) r47 ?_ ?_
                  · refine po_all ?_;(conv=>whnf);refine pbr_oite h48 (fun g49 h48 => ?_) (fun g49 h48 => ?_)
                    · (conv=>whnf);(iterate 6 refine pbr_t g49 ?_;(conv=>whnf));cases h48;exact ⟨(.cons rfl .nil), rfl⟩
                    · (conv=>whnf);(iterate 6 refine pbr_f g49 ?_;(conv=>whnf));cases h48;exact ⟨(.cons rfl .nil), rfl⟩
                  · refine po_all ?_;(conv=>whnf);refine pw_ret ?_;(conv=>whnf);cases H; rfl
              · (conv=>whnf);refine pw_skip ?_;(conv=>whnf);refine pw_so ?_;refine po_ops 3 ?_;(conv=>whnf);obtain ⟨r50, h51, H⟩ := obnd_some H;refine po_seg (τ := Bool) 4 (fun e => ⟨[(7, (VS 1 (y24.1.map eI))), (8, (.int .i64 y24.2)), (11, (VS 1 (y41.1.map eI))), (99, (.bool e))], ⟨1, [(0, .rw [(VS 2 (a0.map e_II)), (VS 1 (a1.map eI))])], false⟩⟩) r50 ?_ ?_
                · refine po_all ?_;(conv=>whnf);refine pbr_oite h51 (fun g52 h51 => ?_) (fun g52 h51 => ?_)
                  · (conv=>whnf);refine pbr_t g52 ?_;(conv=>whnf);refine pbr_t g52 ?_;(conv=>whnf);obtain ⟨y53, h54, h51⟩ := obnd_some h51;refine (c26 h54).go ?_;(conv=>whnf);refine pbr_t g52 ?_;(conv=>whnf);cases h51;exact ⟨by (repeat refine .cons rfl ?_);exact .nil,rfl⟩
                  · (conv=>whnf);(iterate 3 refine pbr_f g52 ?_;(conv=>whnf));cases h51;exact ⟨by (repeat refine .cons rfl ?_);exact .nil,rfl⟩
                · refine po_ops 1 ?_;(conv=>whnf);obtain ⟨r55, h56, H⟩ := obnd_some H;refine po_seg (τ := Bool) 3 (fun e => ⟨[(7, (VS 1 (y24.1.map eI))), (11, (VS 1 (y41.1.map eI))), (103, (.bool e))], ⟨1, [(0, .rw [(VS 2 (a0.map e_II)), (VS 1 (a1.map eI))])], false⟩⟩) r55 ?_ ?_
                  · refine po_all ?_;(conv=>whnf);refine pbr_oite h56 (fun g57 h56 => ?_) (fun g57 h56 => ?_)
                    · (conv=>whnf);refine pbr_t g57 ?_;(conv=>whnf);refine pbr_t g57 ?_;(conv=>whnf);cases h56;exact ⟨(.cons rfl (.cons rfl (.cons rfl .nil))), rfl⟩
                    · (conv=>whnf);refine pbr_f g57 ?_;(conv=>whnf);refine pbr_f g57 ?_;(conv=>whnf);cases h56;exact ⟨(.cons rfl (.cons rfl (.cons rfl .nil))), rfl⟩
                  · refine po_ops 1 ?_;(conv=>whnf);obtain ⟨r58, h59, H⟩ := obnd_some H;refine po_seg (τ := Bool) 6 (fun e => ⟨[(110, (.bool e))], ⟨1, [(0, .rw [(VS 2 (a0.map e_II)), (VS 1 (a1.map eI))])], false⟩⟩) r58 ?_ ?_
                    · refine po_all ?_;(conv=>whnf);refine pbr_oite h59 (fun g60 h59 => ?_) (fun g60 h59 => ?_)
                      · (conv=>whnf);(iterate 5 refine pbr_t g60 ?_;(conv=>whnf));cases h59;exact ⟨(.cons rfl .nil), rfl⟩
                      · (conv=>whnf);(iterate 5 refine pbr_f g60 ?_;(conv=>whnf));cases h59;exact ⟨(.cons rfl .nil), rfl⟩
                    · refine po_all ?_;(conv=>whnf);refine pw_ret ?_;(conv=>whnf);cases H; rfl

end Go.Proofs.Ytgfglinlmnbjbaa.AM
