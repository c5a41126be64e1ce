/- Computations of functions, and that the functions do them (printed by tools/lift.py). Conditions: none. -/
import Derived.Test.YtmbekcealcjabaaAmMan
namespace Go.Proofs.Ytmbekcealcjabaa.AM
set_option linter.unusedSimpArgs false
set_option linter.unusedVariables false
open Go Go.RowKit
attribute [local irreducible] ICallV ICalls Recast rng

/-- guidevane/guidevanelaw08.some -/
noncomputable def f199  (a0 : List Int) : Option Bool :=
  obnd (
   oite ((ile ((a0.map eI).length : Int) (80 : Int))) (
    some true
     ) (
    oite ((ilt (300 : Int) ((a0.map eI).length : Int))) (
     some (ile ((a0.map eI).length : Int) (302 : Int))
      ) (
     some false
      )
     )
    ) fun (r1 : Bool) =>
  some r1
set_option maxHeartbeats 1000000 in
theorem c199  {a0 : List Int} {x : Bool} (H : f199 a0 = some x) : ICalls E 199 [(VS 1 (a0.map eI))] AHeap.none fun v _ => v = (.bool x) := by
  refine icalls_fn (pfnw ?_); unfold f199 at H;(conv=>whnf);refine pw_so ?_;refine po_all ?_;(conv=>whnf);refine pw_so ?_;refine po_ops 4 ?_;(conv=>whnf);obtain ⟨r1, h2, H⟩ := obnd_some H;refine po_seg (τ := Bool) 9 (fun e => ⟨[(15, (.bool e))], ⟨0, [], false⟩⟩) r1 ?_ ?_
  · refine po_all ?_;(conv=>whnf);refine pbr_oite h2 (fun g3 h2 => ?_) (fun g3 h2 => ?_)
    · (conv=>whnf);refine pbr_t g3 ?_;(conv=>whnf);refine pbr_t g3 ?_;(conv=>whnf);refine pbr_t g3 ?_;(conv=>whnf);refine pbr_t g3 ?_;(conv=>whnf);refine pbr_t g3 ?_;(conv=>whnf);cases h2;exact ⟨(.cons rfl .nil), rfl⟩
    · (conv=>whnf);refine pbr_f g3 ?_;(conv=>whnf);refine pbr_f g3 ?_;(conv=>whnf);refine pbr_f g3 ?_;(conv=>whnf);refine pbr_oite h2 (fun g4 h2 => ?_) (fun g4 h2 => ?_)
      · (conv=>whnf);refine pbr_t g4 ?_;(conv=>whnf);refine pbr_t g4 ?_;(conv=>whnf);refine pbr_f g3 ?_;(conv=>whnf);refine pbr_t g4 ?_;(conv=>whnf);refine pbr_f g3 ?_;(conv=>whnf);cases h2;exact ⟨(.cons rfl .nil), rfl⟩
      · (conv=>whnf);refine pbr_f g4 ?_;(conv=>whnf);refine pbr_f g4 ?_;(conv=>whnf);refine pbr_f g3 ?_;(conv=>whnf);refine pbr_f g4 ?_;(conv=>whnf);refine pbr_f g3 ?_;(conv=>whnf);cases h2;exact ⟨(.cons rfl .nil), rfl⟩
  · refine po_all ?_;(conv=>whnf);refine pw_ret ?_;(conv=>whnf);cases H; rfl

/-- guidevane/guidevanebase.CopyInts -/
noncomputable def f38  (a0 : List Int) : Option ((List Int)) :=
  ogrd (fits 8 (([] : List Int).length + a0.length)) (
  some (([] : List Int) ++ a0)
  )
set_option maxHeartbeats 1000000 in
theorem c38  {a0 : List Int} {x : (List Int)} (H : f38 a0 = some x) : ICalls E 38 [(VS 1 (a0.map eI))] AHeap.none fun v _ => v = (VS 1 (x.map eI)) := by
  refine ICalls.frz ?_;refine icalls_fn (pfnw ?_); unfold f38 at H;(conv=>whnf);refine pw_so ?_;refine po_all ?_;(conv=>whnf);refine pw_so ?_;refine po_all ?_;(conv=>whnf);refine app_o (l := ([] : List Int)) (m := a0) (f := eI) H (by rfl) (by rfl) (by rfl) (fun H => ?_);(conv=>whnf);refine pw_ret ?_;(conv=>whnf);cases H; show ∃ D, Fz _ D 0 (VT 1 _ 0) _;exact ⟨fun _ => false, .vtc⟩

/-- guidevane/dispatch.within -/
noncomputable def f216  (a0 : Int) (a1 : Int) (a2 : Int) : Option Bool :=
  obnd (
   oite ((ile a1 a0)) (
    some (ile a0 a2)
     ) (
    some false
     )
    ) fun (r1 : Bool) =>
  some r1
set_option maxHeartbeats 1000000 in
theorem c216  {a0 : Int} {a1 : Int} {a2 : Int} {x : Bool} (H : f216 a0 a1 a2 = some x) : ICalls E 216 [(.int .i64 a0), (.int .i64 a1), (.int .i64 a2)] AHeap.none fun v _ => v = (.bool x) := by
  refine icalls_fn (pfnw ?_); unfold f216 at H;(conv=>whnf);refine pw_so ?_;refine po_all ?_;(conv=>whnf);refine pw_so ?_;refine po_ops 4 ?_;(conv=>whnf);obtain ⟨r1, h2, H⟩ := obnd_some H;refine po_seg (τ := Bool) 4 (fun e => ⟨[(14, (.bool e))], ⟨0, [], false⟩⟩) r1 ?_ ?_
  · refine po_all ?_;(conv=>whnf);refine pbr_oite h2 (fun g3 h2 => ?_) (fun g3 h2 => ?_)
    · (conv=>whnf);refine pbr_t g3 ?_;(conv=>whnf);refine pbr_t g3 ?_;(conv=>whnf);refine pbr_t g3 ?_;(conv=>whnf);cases h2;exact ⟨(.cons rfl .nil), rfl⟩
    · (conv=>whnf);refine pbr_f g3 ?_;(conv=>whnf);refine pbr_f g3 ?_;(conv=>whnf);refine pbr_f g3 ?_;(conv=>whnf);cases h2;exact ⟨(.cons rfl .nil), rfl⟩
  · refine po_all ?_;(conv=>whnf);refine pw_ret ?_;(conv=>whnf);cases H; rfl

/-- guidevane/dispatch.isSized -/
noncomputable def f235  (a0 : Int) (a1 : Int) : Option Bool :=
  obnd (f216 a0 (IntKind.i64.wrap (0 - a1)) a1) fun (y1 : Bool) =>
  some y1
set_option maxHeartbeats 1000000 in
theorem c235  {a0 : Int} {a1 : Int} {x : Bool} (H : f235 a0 a1 = some x) : ICalls E 235 [(.int .i64 a0), (.int .i64 a1)] AHeap.none fun v _ => v = (.bool x) := by
  refine icalls_fn (pfnw ?_); unfold f235 at H;(conv=>whnf);refine pw_so ?_;refine po_all ?_;(conv=>whnf);refine pw_so ?_;refine po_all ?_;(conv=>whnf);obtain ⟨y1, h2, H⟩ := obnd_some H;refine (c216 h2).go ?_;(conv=>whnf);refine pw_ret ?_;(conv=>whnf);cases H; rfl

/-- guidevane/dispatch.isPower -/
noncomputable def f215  (a0 : Int) : Option Bool :=
  obnd (f235 a0 (1000000 : Int)) fun (y1 : Bool) =>
  some y1
set_option maxHeartbeats 1000000 in
theorem c215  {a0 : Int} {x : Bool} (H : f215 a0 = some x) : ICalls E 215 [(.int .i64 a0)] AHeap.none fun v _ => v = (.bool x) := by
  refine icalls_fn (pfnw ?_); unfold f215 at H;(conv=>whnf);refine pw_so ?_;refine po_all ?_;(conv=>whnf);refine pw_so ?_;refine po_all ?_;(conv=>whnf);obtain ⟨y1, h2, H⟩ := obnd_some H;refine (c235 h2).go ?_;(conv=>whnf);refine pw_ret ?_;(conv=>whnf);cases H; rfl

/-- guidevane/dispatch.unless -/
noncomputable def f214  (a0 : Bool) (a1 : Int) : Option Int :=
  oite a0 (
   some (0 : Int)
    ) (
   some a1
    )
set_option maxHeartbeats 1000000 in
theorem c214  {a0 : Bool} {a1 : Int} {x : Int} (H : f214 a0 a1 = some x) : ICalls E 214 [(.bool a0), (.int .i64 a1)] AHeap.none fun v _ => v = (.int .i64 x) := by
  refine icalls_fn (pfnw ?_); unfold f214 at H;(conv=>whnf);refine pw_so ?_;refine po_all ?_;(conv=>whnf);refine pw_seq ?_;refine pw_so ?_;refine po_all ?_;(conv=>whnf);refine pw_cond ?_;(conv=>whnf);refine pbr_oite H (fun g1 H => ?_) (fun g1 H => ?_)
  · (conv=>whnf);refine pw_so ?_;refine po_all ?_;(conv=>whnf);refine pw_ret ?_;(conv=>whnf);cases H; rfl
  · (conv=>whnf);refine pw_skip ?_;(conv=>whnf);refine pw_so ?_;refine po_all ?_;(conv=>whnf);refine pw_ret ?_;(conv=>whnf);cases H; rfl

/-- slices.IndexFunc[[]int,int] -/
noncomputable def f70 [LO] (p0 : Int → Option Bool) (a0 : List Int) : Option Int :=
  obndS (
   oloop (τ := Int) (ρ := (Unit) ⊕ Int) (fun e5 =>
    oite ((ilt e5 ((a0.map eI).length : Int))) (
     ogrd ((ile 0 e5)) (
     obnd (a0[e5.toNat]?) fun (x10 : Int) =>
     obnd (p0 x10) fun (y11 : Bool) =>
     oite y11 (
      some (.inr (.inr (e5)))
       ) (
      some (.inl (IntKind.i64.wrap (e5 + (1 : Int))))
       )
     )
      ) (
     some (.inr (.inl ()))
      )
     ) (0 : Int)
    ) fun (_ : Unit) =>
  some (-1 : Int)
set_option maxHeartbeats 1000000 in
theorem c70 [LO] {p0 : Int → Option Bool} {a0 : List Int} {g0 : Value} [Cl g0] (hp0 : ∀ y0 y, p0 y0 = some y → ICallV E g0 [(.int .i64 y0)] AHeap.none fun v _ => v = (.bool y)) {x : Int} (H : f70 p0 a0 = some x) : ICalls E 70 [(VS 1 (a0.map eI)), g0] AHeap.none fun v _ => v = (.int .i64 x) := by
  refine icalls_fn (pfnw ?_); unfold f70 at H;(conv=>whnf);refine pw_so ?_;refine po_all ?_;(conv=>whnf);obtain ⟨r1, h2, h3, h4⟩ := obndS_some H;refine pw_joinS (ρ := Unit) (fun e => ⟨[], ⟨0, [], false⟩⟩) r1 ?_ ?_
  · refine pw_so ?_;refine po_all ?_;(conv=>whnf);refine pw_block ?_;refine pw_loop (τ := Int) (fun e => ⟨[(0, (VS 1 (a0.map eI))), (1, g0), (7, (.int .i64 ((a0.map eI).length : Int))), (8, (.int .i64 e))], ⟨0, [], false⟩⟩) h2 ?_ (fun _ => Nat.le_of_ble_eq_true rfl) ?_
    · exact .sub' (Nat.le_of_ble_eq_true rfl) (.cons rfl (.cons rfl (.cons rfl (.cons rfl .nil))))
    · intro e5 x6 h7;refine pw_so ?_;refine po_all ?_;(conv=>whnf);refine pw_seq ?_;refine pw_cond ?_;(conv=>whnf);refine pbr_oite h7 (fun g8 h7 => ?_) (fun g8 h7 => ?_)
      · (conv=>whnf);refine pw_skip ?_;(conv=>whnf);refine pw_seq ?_;refine pw_block ?_;refine pw_so ?_;refine po_all ?_;(conv=>whnf);refine pw_so ?_;refine po_all ?_;(conv=>whnf);refine pbr_ogrd h7 (fun g9 h7 => ?_);(conv=>whnf);refine nth_o (l := a0) h7 (fun x10 _ h7 => ?_);(conv=>whnf);obtain ⟨y11, h12, h7⟩ := obnd_some h7;refine ICallV.go (hp0 _ _ h12) ?_;(conv=>whnf);refine pw_cond ?_;(conv=>whnf);refine pbr_oite h7 (fun g13 h7 => ?_) (fun g13 h7 => ?_)
        · (conv=>whnf);refine pw_so ?_;refine po_all ?_;(conv=>whnf);refine pw_ret ?_;(conv=>whnf);cases h7;refine ⟨_, rfl, ?_⟩; rintro rfl;(conv=>whnf);obtain rfl := h4 _ rfl; rfl
        · (conv=>whnf);refine pw_skip ?_;(conv=>whnf);refine pw_ops ?_;refine po_all ?_;(conv=>whnf);cases h7;refine ⟨_, rfl, ?_⟩;exact .sub' (Nat.le_of_ble_eq_true rfl) (.cons rfl (.cons rfl (.cons rfl (.cons rfl .nil))))
      · (conv=>whnf);refine pw_exit ?_;(conv=>whnf);cases h7;refine ⟨_, rfl, ?_⟩; rintro rfl;(conv=>whnf);exact ⟨_, rfl, ⟨.nil, rfl⟩⟩
  · intro r16 hr; have H := h3 _ hr;refine pw_so ?_;refine po_all ?_;(conv=>whnf);refine pw_ret ?_;(conv=>whnf);cases H; rfl

/-- slices.ContainsFunc[[]int,int] -/
noncomputable def f80 [LO] (p0 : Int → Option Bool) (a0 : List Int) : Option Bool :=
  obnd (f70 p0 a0) fun (y1 : Int) =>
  some (ile (0 : Int) y1)
set_option maxHeartbeats 1000000 in
theorem c80 [LO] {p0 : Int → Option Bool} {a0 : List Int} {g0 : Value} [Cl g0] (hp0 : ∀ y0 y, p0 y0 = some y → ICallV E g0 [(.int .i64 y0)] AHeap.none fun v _ => v = (.bool y)) {x : Bool} (H : f80 p0 a0 = some x) : ICalls E 80 [(VS 1 (a0.map eI)), g0] AHeap.none fun v _ => v = (.bool x) := by
  refine icalls_fn (pfnw ?_); unfold f80 at H;(conv=>whnf);refine pw_so ?_;refine po_all ?_;(conv=>whnf);refine pw_so ?_;refine po_all ?_;(conv=>whnf);obtain ⟨y1, h2, H⟩ := obnd_some H;refine (c70 hp0 h2).go ?_;(conv=>whnf);refine pw_ret ?_;(conv=>whnf);cases H; rfl

/-- guidevane/dispatch.powersErr$1 -/
noncomputable def f236  (a0 : Int) : Option Bool :=
  obnd (f215 a0) fun (y1 : Bool) =>
  some (!y1)
set_option maxHeartbeats 1000000 in
theorem c236  {a0 : Int} {x : Bool} (H : f236 a0 = some x) : ICalls E 236 [(.int .i64 a0)] AHeap.none fun v _ => v = (.bool x) := by
  refine icalls_fn (pfnw ?_); unfold f236 at H;(conv=>whnf);refine pw_so ?_;refine po_all ?_;(conv=>whnf);refine pw_so ?_;refine po_all ?_;(conv=>whnf);obtain ⟨y1, h2, H⟩ := obnd_some H;refine (c215 h2).go ?_;(conv=>whnf);refine pw_ret ?_;(conv=>whnf);cases H; rfl

/-- guidevane/dispatch.first -/
noncomputable def f213 [LO]  (a0 : List Int) : Option Int :=
  obndS (
   oloop (τ := Int) (ρ := (Unit) ⊕ Int) (fun e5 =>
    oite ((ilt e5 ((a0.map eI).length : Int))) (
     ogrd ((ile 0 e5)) (
     obnd (a0[e5.toNat]?) fun (x10 : Int) =>
     oite ((!(ieq x10 (0 : Int)))) (
      some (.inr (.inr (x10)))
       ) (
      some (.inl (IntKind.i64.wrap (e5 + (1 : Int))))
       )
     )
      ) (
     some (.inr (.inl ()))
      )
     ) (0 : Int)
    ) fun (_ : Unit) =>
  some (0 : Int)
set_option maxHeartbeats 1000000 in
theorem c213 [LO]  {a0 : List Int} {x : Int} (H : f213 a0 = some x) : ICalls E 213 [(VS 1 (a0.map eI))] AHeap.none fun v _ => v = (.int .i64 x) := by
  refine icalls_fn (pfnw ?_); unfold f213 at H;(conv=>whnf);refine pw_so ?_;refine po_all ?_;(conv=>whnf);obtain ⟨r1, h2, h3, h4⟩ := obndS_some H;refine pw_joinS (ρ := Unit) (fun e => ⟨[], ⟨0, [], false⟩⟩) r1 ?_ ?_
  · refine pw_so ?_;refine po_all ?_;(conv=>whnf);refine pw_block ?_;refine pw_loop (τ := Int) (fun e => ⟨[(5, (VS 1 (a0.map eI))), (6, (.int .i64 ((a0.map eI).length : Int))), (7, (.int .i64 e))], ⟨0, [], false⟩⟩) h2 ?_ (fun _ => Nat.le_of_ble_eq_true rfl) ?_
    · exact .sub' (Nat.le_of_ble_eq_true rfl) (.cons rfl (.cons rfl (.cons rfl .nil)))
    · intro e5 x6 h7;refine pw_so ?_;refine po_all ?_;(conv=>whnf);refine pw_seq ?_;refine pw_cond ?_;(conv=>whnf);refine pbr_oite h7 (fun g8 h7 => ?_) (fun g8 h7 => ?_)
      · (conv=>whnf);refine pw_skip ?_;(conv=>whnf);refine pw_seq ?_;refine pw_block ?_;refine pw_so ?_;refine po_all ?_;(conv=>whnf);refine pbr_ogrd h7 (fun g9 h7 => ?_);(conv=>whnf);refine nth_o (l := a0) h7 (fun x10 _ h7 => ?_);(conv=>whnf);refine pw_so ?_;refine po_all ?_;(conv=>whnf);refine pw_cond ?_;(conv=>whnf);refine pbr_oite h7 (fun g11 h7 => ?_) (fun g11 h7 => ?_)
        · (conv=>whnf);refine pw_so ?_;refine po_all ?_;(conv=>whnf);refine pw_ret ?_;(conv=>whnf);cases h7;refine ⟨_, rfl, ?_⟩; rintro rfl;(conv=>whnf);obtain rfl := h4 _ rfl; rfl
        · (conv=>whnf);refine pw_skip ?_;(conv=>whnf);refine pw_ops ?_;refine po_all ?_;(conv=>whnf);cases h7;refine ⟨_, rfl, ?_⟩;exact .sub' (Nat.le_of_ble_eq_true rfl) (.cons rfl (.cons rfl (.cons rfl .nil)))
      · (conv=>whnf);refine pw_exit ?_;(conv=>whnf);cases h7;refine ⟨_, rfl, ?_⟩; rintro rfl;(conv=>whnf);exact ⟨_, rfl, ⟨.nil, rfl⟩⟩
  · intro r14 hr; have H := h3 _ hr;refine pw_so ?_;refine po_all ?_;(conv=>whnf);refine pw_ret ?_;(conv=>whnf);cases H; rfl

/-- guidevane/dispatch.powersErr -/
noncomputable def f217 [LO]  (a0 : List Int) : Option Int :=
  obnd (f80 (fun (z0 : Int) => f236 z0) a0) fun (y1 : Bool) =>
  obnd (f214 ((ile ((a0.map eI).length : Int) (300 : Int))) (8 : Int)) fun (y3 : Int) =>
  obnd (f214 (!y1) (2 : Int)) fun (y5 : Int) =>
  obnd (f213 ([y3, y5] : List Int)) fun (y7 : Int) =>
  some y7
set_option maxHeartbeats 1000000 in
theorem c217 [LO]  {a0 : List Int} {x : Int} (H : f217 a0 = some x) : ICalls E 217 [(VS 1 (a0.map eI))] AHeap.none fun v _ => v = (.int .i64 x) := by
  refine icalls_fn (pfnw ?_); unfold f217 at H;(conv=>whnf);refine pw_so ?_;refine po_all ?_;(conv=>whnf);refine pw_so ?_;refine po_all ?_;(conv=>whnf);obtain ⟨y1, h2, H⟩ := obnd_some H;refine (c80 (fun _ _ h => (c236 h).asV) h2).go ?_;(conv=>whnf);refine pw_so ?_;refine po_all ?_;(conv=>whnf);obtain ⟨y3, h4, H⟩ := obnd_some H;refine (c214 h4).go ?_;(conv=>whnf);obtain ⟨y5, h6, H⟩ := obnd_some H;refine (c214 h6).go ?_;(conv=>whnf);obtain ⟨y7, h8, H⟩ := obnd_some H;refine ICalls.goW (c213 h8) (.cons (.vt _ _ _) .nil) ?_;(conv=>whnf);refine pw_ret ?_;(conv=>whnf);cases H; rfl

/-- guidevane/dispatch.Followed -/
noncomputable def f200 [LO]  (a0 : Int) (a1 : Int) (a2 : List Int) : Option ((List Int) × Int) :=
  obnd (f215 a0) fun (y1 : Bool) =>
  obnd (
   oite y1 (
    obnd (f216 a1 (0 : Int) (1000000 : Int)) fun (y6 : Bool) =>
    some y6
     ) (
    some false
     )
    ) fun (r3 : Bool) =>
  obnd (f214 r3 (2 : Int)) fun (y8 : Int) =>
  obnd (f217 a2) fun (y10 : Int) =>
  obnd (f213 ([y8, y10] : List Int)) fun (y12 : Int) =>
  oite ((!(ieq y12 (0 : Int)))) (
   some (([] : List Int), y12)
    ) (
   obnd (
    oloop (τ := Int × (List Int) × Int) (ρ := (List Int)) (fun e19 =>
     oite ((ilt e19.2.2 ((a2.map eI).length : Int))) (
      ogrd ((ile 0 e19.2.2)) (
      obnd (a2[e19.2.2.toNat]?) fun (x24 : Int) =>
      ogrd (fits 8 (e19.2.1.length + ([(imin (imax x24 (IntKind.i64.wrap (e19.1 - a1))) (IntKind.i64.wrap (e19.1 + a1)))] : List Int).length)) (
      some (.inl (((imin (imax x24 (IntKind.i64.wrap (e19.1 - a1))) (IntKind.i64.wrap (e19.1 + a1))), (e19.2.1 ++ ([(imin (imax x24 (IntKind.i64.wrap (e19.1 - a1))) (IntKind.i64.wrap (e19.1 + a1)))] : List Int)), (IntKind.i64.wrap (e19.2.2 + (1 : Int))))))
      )
      )
       ) (
      some (.inr (e19.2.1))
       )
      ) ((a0, ([] : List Int), (0 : Int)))
     ) fun (r15 : (List Int)) =>
   some (r15, (0 : Int))
    )
set_option maxHeartbeats 1000000 in
theorem c200 [LO]  {a0 : Int} {a1 : Int} {a2 : List Int} {x : (List Int) × Int} (H : f200 a0 a1 a2 = some x) : ICalls E 200 [(.int .i64 a0), (.int .i64 a1), (VS 1 (a2.map eI))] AHeap.none fun v _ => v = (.tuple ⟨[(VS 1 (x.1.map eI)), (.int .i64 x.2)]⟩) := by
  refine ICalls.frz ?_;refine icalls_fn (pfnw ?_); unfold f200 at H;(conv=>whnf);refine pw_so ?_;refine po_all ?_;(conv=>whnf);refine pw_seq ?_;refine pw_so ?_;refine po_ops 3 ?_;(conv=>whnf);obtain ⟨y1, h2, H⟩ := obnd_some H;refine (c215 h2).go ?_;(conv=>whnf);obtain ⟨r3, h4, H⟩ := obnd_some H;refine po_seg (τ := Bool) 3 (fun e => ⟨[(0, (.int .i64 a0)), (1, (.int .i64 a1)), (2, (VS 1 (a2.map eI))), (17, (.bool e))], ⟨0, [], false⟩⟩) r3 ?_ ?_
  · refine po_all ?_;(conv=>whnf);refine pbr_oite h4 (fun g5 h4 => ?_) (fun g5 h4 => ?_)
    · (conv=>whnf);refine pbr_t g5 ?_;(conv=>whnf);obtain ⟨y6, h7, h4⟩ := obnd_some h4;refine (c216 h7).go ?_;(conv=>whnf);refine pbr_t g5 ?_;(conv=>whnf);cases h4;exact ⟨(.cons rfl (.cons rfl (.cons rfl (.cons rfl .nil)))), rfl⟩
    · (conv=>whnf);refine pbr_f g5 ?_;(conv=>whnf);refine pbr_f g5 ?_;(conv=>whnf);cases h4;exact ⟨(.cons rfl (.cons rfl (.cons rfl (.cons rfl .nil)))), rfl⟩
  · refine po_all ?_;(conv=>whnf);obtain ⟨y8, h9, H⟩ := obnd_some H;refine (c214 h9).go ?_;(conv=>whnf);obtain ⟨y10, h11, H⟩ := obnd_some H;refine (c217 h11).go ?_;(conv=>whnf);obtain ⟨y12, h13, H⟩ := obnd_some H;refine ICalls.goW (c213 h13) (.cons (.vt _ _ _) .nil) ?_;(conv=>whnf);refine pw_so ?_;refine po_all ?_;(conv=>whnf);refine pw_cond ?_;(conv=>whnf);refine pbr_oite H (fun g14 H => ?_) (fun g14 H => ?_)
    · (conv=>whnf);refine pw_so ?_;refine po_all ?_;(conv=>whnf);refine pw_ret ?_;(conv=>whnf);cases H; show ∃ D, Fz _ D 0 (.tuple ⟨[(.slice none 0 0), (.int .i64 y12)]⟩) _;exact ⟨fun _ => false, .tuplel (.cons (.nil _) (.cons .cl (.nil)))⟩
    · (conv=>whnf);refine pw_skip ?_;(conv=>whnf);refine pw_so ?_;refine po_all ?_;(conv=>whnf);obtain ⟨r15, h16, H⟩ := obnd_some H;refine pw_join (ρ := (List Int)) (fun e => ⟨[(9, (VT 1 (e.map eI) 1))], ⟨2, [(1, .tail (e.map eI).length 1), (0, .tail 2 1)], false⟩⟩) r15 ?_ ?_
      · refine pw_so ?_;refine po_all ?_;(conv=>whnf);refine pw_block ?_;refine pw_loop (τ := Int × (List Int) × Int) (fun e => ⟨[(0, (.int .i64 e.1)), (1, (.int .i64 a1)), (9, (VT 1 (e.2.1.map eI) 1)), (26, (VS 1 (a2.map eI))), (27, (.int .i64 ((a2.map eI).length : Int))), (28, (.int .i64 e.2.2))], ⟨2, [(1, .tail (e.2.1.map eI).length 1), (0, .tail 2 1)], false⟩⟩) h16 ?_ (fun _ => Nat.le_of_ble_eq_true rfl) ?_
        · exact (Recast.nilTs 1 (Nat.le_of_ble_eq_true rfl) (.same rfl (.same rfl (.turn rfl (.same rfl (.same rfl (.same rfl .nil)))))))
        · intro e19 x20 h21;refine pw_so ?_;refine po_all ?_;(conv=>whnf);refine pw_seq ?_;refine pw_cond ?_;(conv=>whnf);refine pbr_oite h21 (fun g22 h21 => ?_) (fun g22 h21 => ?_)
          · (conv=>whnf);refine pw_skip ?_;(conv=>whnf);refine pw_seq ?_;refine pw_block ?_;refine pw_so ?_;refine po_all ?_;(conv=>whnf);refine pbr_ogrd h21 (fun g23 h21 => ?_);(conv=>whnf);refine nth_o (l := a2) h21 (fun x24 _ h21 => ?_);(conv=>whnf);refine pw_so ?_;refine po_all ?_;(conv=>whnf);refine pw_ops ?_;refine po_all ?_;(conv=>whnf);refine app_o (l := e19.2.1) (m := ([(imin (imax x24 (IntKind.i64.wrap (e19.1 - a1))) (IntKind.i64.wrap (e19.1 + a1)))] : List Int)) (f := eI) h21 (by rfl) (by rfl) (by rfl) (fun h21 => ?_);(conv=>whnf);refine pw_ops ?_;refine po_all ?_;(conv=>whnf);cases h21;refine ⟨_, rfl, ?_⟩
            refine Recast.trunc (Nat.le_of_ble_eq_true rfl) ?_ ?_
            · repeat (first | exact .nil | refine .cons rfl (by first | exact OBnd.rwc (Nat.le_of_ble_eq_true rfl) rfl | exact OBnd.tail (Nat.le_of_ble_eq_true rfl) | trivial) ?_)
            · repeat (first | exact .nil | refine .cons rfl (by first | exact Bnd.ptr (Nat.le_of_ble_eq_true rfl) | exact Bnd.vt (Nat.le_of_ble_eq_true rfl) | exact Bnd.cl) ?_)
          · (conv=>whnf);refine pw_exit ?_;(conv=>whnf);cases h21;refine ⟨_, rfl, ?_⟩; rintro rfl;(conv=>whnf);exact ⟨(.cons rfl .nil), rfl⟩
      · refine pw_so ?_;refine po_all ?_;(conv=>whnf);refine pw_ret ?_;(conv=>whnf);cases H; show ∃ D, Fz _ D 0 (.tuple ⟨[(VT 1 _ 1), (.int .i64 0)]⟩) _;exact ⟨fun _ => false, .tuplel (.cons .vtc (.cons .cl (.nil)))⟩

/-- guidevane/dispatch.size -/
noncomputable def f218  (a0 : Int) : Option Int :=
  some (imax a0 (IntKind.i64.wrap (0 - a0)))
set_option maxHeartbeats 1000000 in
theorem c218  {a0 : Int} {x : Int} (H : f218 a0 = some x) : ICalls E 218 [(.int .i64 a0)] AHeap.none fun v _ => v = (.int .i64 x) := by
  refine icalls_fn (pfnw ?_); unfold f218 at H;(conv=>whnf);refine pw_so ?_;refine po_all ?_;(conv=>whnf);refine pw_so ?_;refine po_all ?_;(conv=>whnf);refine pw_ret ?_;(conv=>whnf);cases H; rfl

/-- guidevane/dispatch.SettledOf -/
noncomputable def f201 [LO]  (a0 : List Int) (a1 : List Int) : Option (Int × Int × Int × Int) :=
  obnd (f217 a0) fun (y1 : Int) =>
  obnd (f217 a1) fun (y3 : Int) =>
  obnd (f214 ((ieq ((a0.map eI).length : Int) ((a1.map eI).length : Int))) (10 : Int)) fun (y5 : Int) =>
  obnd (f213 ([y1, y3, y5] : List Int)) fun (y7 : Int) =>
  oite ((!(ieq y7 (0 : Int)))) (
   some ((0 : Int), (0 : Int), (0 : Int), y7)
    ) (
   obnd (
    oloop (τ := Int × Int × Int × Int) (ρ := Int × Int × Int) (fun e14 =>
     oite ((ilt e14.1 ((a0.map eI).length : Int))) (
      ogrd ((ile 0 e14.1)) (
      obnd (a0[e14.1.toNat]?) fun (x19 : Int) =>
      obnd (a1[e14.1.toNat]?) fun (x20 : Int) =>
      obnd (
       obnd (
        obnd (
         oite ((ilt (0 : Int) x19)) (
          some (ilt (0 : Int) x20)
           ) (
          some false
           )
          ) fun (r29 : Bool) =>
        oite r29 (
         some true
          ) (
         obnd (
          oite ((ilt x19 (0 : Int))) (
           some (ilt x20 (0 : Int))
            ) (
           some false
            )
           ) fun (r33 : Bool) =>
         some r33
          )
         ) fun (r25 : Bool) =>
       oite r25 (
        obnd (f218 x19) fun (y37 : Int) =>
        obnd (f218 x20) fun (y39 : Int) =>
        some (imin y37 y39)
         ) (
        some (0 : Int)
         )
        ) fun (r21 : Int) =>
      obnd (f218 x19) fun (y41 : Int) =>
      obnd (f218 x20) fun (y43 : Int) =>
      some (.inl (((IntKind.i64.wrap (e14.1 + (1 : Int))), (IntKind.i64.wrap (e14.2.1 + r21)), (IntKind.i64.wrap (e14.2.2.1 + (IntKind.i64.wrap (y41 - r21)))), (IntKind.i64.wrap (e14.2.2.2 + (IntKind.i64.wrap (y43 - r21)))))))
      )
       ) (
      some (.inr ((e14.2.1, e14.2.2.1, e14.2.2.2)))
       )
      ) (((0 : Int), (0 : Int), (0 : Int), (0 : Int)))
     ) fun (r10 : Int × Int × Int) =>
   some (r10.1, r10.2.1, r10.2.2, (0 : Int))
    )
set_option maxHeartbeats 1000000 in
theorem c201 [LO]  {a0 : List Int} {a1 : List Int} {x : Int × Int × Int × Int} (H : f201 a0 a1 = some x) : ICalls E 201 [(VS 1 (a0.map eI)), (VS 1 (a1.map eI))] AHeap.none fun v _ => v = (.tuple ⟨[(.agg ⟨[(.int .i64 x.1), (.int .i64 x.2.1), (.int .i64 x.2.2.1)]⟩), (.int .i64 x.2.2.2)]⟩) := by
  refine icalls_fn (pfnw ?_); unfold f201 at H;(conv=>whnf);refine pw_so ?_;refine po_all ?_;(conv=>whnf);refine pw_seq ?_;refine pw_so ?_;refine po_all ?_;(conv=>whnf);obtain ⟨y1, h2, H⟩ := obnd_some H;refine (c217 h2).go ?_;(conv=>whnf);obtain ⟨y3, h4, H⟩ := obnd_some H;refine (c217 h4).go ?_;(conv=>whnf);obtain ⟨y5, h6, H⟩ := obnd_some H;refine (c214 h6).go ?_;(conv=>whnf);obtain ⟨y7, h8, H⟩ := obnd_some H;refine ICalls.goW (c213 h8) (.cons (.vt _ _ _) .nil) ?_;(conv=>whnf);refine pw_so ?_;refine po_all ?_;(conv=>whnf);refine pw_cond ?_;(conv=>whnf);refine pbr_oite H (fun g9 H => ?_) (fun g9 H => ?_)
  · (conv=>whnf);refine pw_so ?_;refine po_all ?_;(conv=>whnf);refine pw_ret ?_;(conv=>whnf);cases H; rfl
  · (conv=>whnf);refine pw_skip ?_;(conv=>whnf);refine pw_so ?_;refine po_all ?_;(conv=>whnf);obtain ⟨r10, h11, H⟩ := obnd_some H;refine pw_join (ρ := Int × Int × Int) (fun e => ⟨[(4, (.pointer (some ⟨0, 0, none⟩))), (7, (.pointer (some ⟨2, 0, none⟩)))], ⟨3, [(2, .rw [(.int .i64 e.1), (.int .i64 e.2.1), (.int .i64 e.2.2)]), (1, .tail 3 1), (0, .rw [(.int .i64 0), (.int .i64 0), (.int .i64 0)])], false⟩⟩) r10 ?_ ?_
    · refine pw_so ?_;refine po_all ?_;(conv=>whnf);refine pw_block ?_;refine pw_loop (τ := Int × Int × Int × Int) (fun e => ⟨[(1, (VS 1 (a1.map eI))), (4, (.pointer (some ⟨0, 0, none⟩))), (7, (.pointer (some ⟨2, 0, none⟩))), (28, (VS 1 (a0.map eI))), (29, (.int .i64 ((a0.map eI).length : Int))), (30, (.int .i64 e.1))], ⟨3, [(2, .rw [(.int .i64 e.2.1), (.int .i64 e.2.2.1), (.int .i64 e.2.2.2)]), (1, .tail 3 1), (0, .rw [(.int .i64 0), (.int .i64 0), (.int .i64 0)])], false⟩⟩) h11 ?_ (fun _ => Nat.le_of_ble_eq_true rfl) ?_
      · exact .sub' (Nat.le_of_ble_eq_true rfl) (.cons rfl (.cons rfl (.cons rfl (.cons rfl (.cons rfl (.cons rfl .nil))))))
      · intro e14 x15 h16;refine pw_so ?_;refine po_all ?_;(conv=>whnf);refine pw_seq ?_;refine pw_cond ?_;(conv=>whnf);refine pbr_oite h16 (fun g17 h16 => ?_) (fun g17 h16 => ?_)
        · (conv=>whnf);refine pw_skip ?_;(conv=>whnf);refine pw_seq ?_;refine pw_block ?_;refine pw_so ?_;refine po_all ?_;(conv=>whnf);refine pbr_ogrd h16 (fun g18 h16 => ?_);(conv=>whnf);refine nth_o (l := a0) h16 (fun x19 _ h16 => ?_);(conv=>whnf);refine pw_so ?_;refine po_all ?_;(conv=>whnf);refine pbr_t g18 ?_;(conv=>whnf);refine nth_o (l := a1) h16 (fun x20 _ h16 => ?_);(conv=>whnf);refine pw_so ?_;refine po_all ?_;(conv=>whnf);obtain ⟨r21, h22, h16⟩ := obnd_some h16;refine pw_join (ρ := Int) (fun e => ⟨[(1, (VS 1 (a1.map eI))), (4, (.pointer (some ⟨0, 0, none⟩))), (7, (.pointer (some ⟨2, 0, none⟩))), (9, (.int .i64 x19)), (10, (.int .i64 x20)), (11, (.int .i64 e)), (28, (VS 1 (a0.map eI))), (29, (.int .i64 ((a0.map eI).length : Int))), (30, (.int .i64 e14.1))], ⟨3, [(2, .rw [(.int .i64 e14.2.1), (.int .i64 e14.2.2.1), (.int .i64 e14.2.2.2)]), (1, .tail 3 1), (0, .rw [(.int .i64 0), (.int .i64 0), (.int .i64 0)])], false⟩⟩) r21 ?_ ?_
          · obtain ⟨r25, h26, h22⟩ := obnd_some h22;refine pw_join (ρ := Bool) (fun e => ⟨[(1, (VS 1 (a1.map eI))), (4, (.pointer (some ⟨0, 0, none⟩))), (7, (.pointer (some ⟨2, 0, none⟩))), (9, (.int .i64 x19)), (10, (.int .i64 x20)), (11, (.int .i64 0)), (28, (VS 1 (a0.map eI))), (29, (.int .i64 ((a0.map eI).length : Int))), (30, (.int .i64 e14.1)), (52, (.bool e))], ⟨3, [(2, .rw [(.int .i64 e14.2.1), (.int .i64 e14.2.2.1), (.int .i64 e14.2.2.2)]), (1, .tail 3 1), (0, .rw [(.int .i64 0), (.int .i64 0), (.int .i64 0)])], false⟩⟩) r25 ?_ ?_
            · refine pw_ops ?_;refine po_ops 3 ?_;(conv=>whnf);obtain ⟨r29, h30, h26⟩ := obnd_some h26;refine po_seg (τ := Bool) 3 (fun e => ⟨[(1, (VS 1 (a1.map eI))), (4, (.pointer (some ⟨0, 0, none⟩))), (7, (.pointer (some ⟨2, 0, none⟩))), (9, (.int .i64 x19)), (10, (.int .i64 x20)), (11, (.int .i64 0)), (28, (VS 1 (a0.map eI))), (29, (.int .i64 ((a0.map eI).length : Int))), (30, (.int .i64 e14.1)), (44, (.bool e))], ⟨3, [(2, .rw [(.int .i64 e14.2.1), (.int .i64 e14.2.2.1), (.int .i64 e14.2.2.2)]), (1, .tail 3 1), (0, .rw [(.int .i64 0), (.int .i64 0), (.int .i64 0)])], false⟩⟩) r29 ?_ ?_
              · refine po_all ?_;(conv=>whnf);refine pbr_oite h30 (fun g31 h30 => ?_) (fun g31 h30 => ?_)
                · (conv=>whnf);refine pbr_t g31 ?_;(conv=>whnf);refine pbr_t g31 ?_;(conv=>whnf);cases h30;exact ⟨(.cons rfl (.cons rfl (.cons rfl (.cons rfl (.cons rfl (.cons rfl (.cons rfl (.cons rfl (.cons rfl (.cons rfl .nil)))))))))), rfl⟩
                · (conv=>whnf);refine pbr_f g31 ?_;(conv=>whnf);refine pbr_f g31 ?_;(conv=>whnf);cases h30;exact ⟨(.cons rfl (.cons rfl (.cons rfl (.cons rfl (.cons rfl (.cons rfl (.cons rfl (.cons rfl (.cons rfl (.cons rfl .nil)))))))))), rfl⟩
              · refine po_ops 4 ?_;(conv=>whnf);refine pbr_oite h26 (fun g32 h26 => ?_) (fun g32 h26 => ?_)
                · (conv=>whnf);refine pbr_t g32 ?_;(conv=>whnf);refine pbr_t g32 ?_;(conv=>whnf);refine po_ops 3 ?_;(conv=>whnf);refine pbr_t g32 ?_;(conv=>whnf);refine po_all ?_;(conv=>whnf);refine pbr_t g32 ?_;(conv=>whnf);cases h26;exact ⟨(.cons rfl (.cons rfl (.cons rfl (.cons rfl (.cons rfl (.cons rfl (.cons rfl (.cons rfl (.cons rfl (.cons rfl .nil)))))))))), rfl⟩
                · (conv=>whnf);refine pbr_f g32 ?_;(conv=>whnf);refine pbr_f g32 ?_;(conv=>whnf);obtain ⟨r33, h34, h26⟩ := obnd_some h26;refine po_seg (τ := Bool) 3 (fun e => ⟨[(1, (VS 1 (a1.map eI))), (4, (.pointer (some ⟨0, 0, none⟩))), (7, (.pointer (some ⟨2, 0, none⟩))), (9, (.int .i64 x19)), (10, (.int .i64 x20)), (11, (.int .i64 0)), (28, (VS 1 (a0.map eI))), (29, (.int .i64 ((a0.map eI).length : Int))), (30, (.int .i64 e14.1)), (45, (.bool r29)), (46, (.int .i64 x19)), (47, (.bool (ilt x19 (0 : Int)))), (48, (.bool (ilt x19 (0 : Int)))), (51, (.bool e))], ⟨3, [(2, .rw [(.int .i64 e14.2.1), (.int .i64 e14.2.2.1), (.int .i64 e14.2.2.2)]), (1, .tail 3 1), (0, .rw [(.int .i64 0), (.int .i64 0), (.int .i64 0)])], false⟩⟩) r33 ?_ ?_
                  · refine po_all ?_;(conv=>whnf);refine pbr_oite h34 (fun g35 h34 => ?_) (fun g35 h34 => ?_)
                    · (conv=>whnf);refine pbr_t g35 ?_;(conv=>whnf);refine pbr_f g32 ?_;(conv=>whnf);refine pbr_t g35 ?_;(conv=>whnf);cases h34;exact ⟨(.cons rfl (.cons rfl (.cons rfl (.cons rfl (.cons rfl (.cons rfl (.cons rfl (.cons rfl (.cons rfl (.cons rfl (.cons rfl (.cons rfl (.cons rfl (.cons rfl .nil)))))))))))))), rfl⟩
                    · (conv=>whnf);refine pbr_f g35 ?_;(conv=>whnf);refine pbr_f g32 ?_;(conv=>whnf);refine pbr_f g35 ?_;(conv=>whnf);cases h34;exact ⟨(.cons rfl (.cons rfl (.cons rfl (.cons rfl (.cons rfl (.cons rfl (.cons rfl (.cons rfl (.cons rfl (.cons rfl (.cons rfl (.cons rfl (.cons rfl (.cons rfl .nil)))))))))))))), rfl⟩
                  · refine po_all ?_;(conv=>whnf);refine pbr_f g32 ?_;(conv=>whnf);cases h26;exact ⟨(.cons rfl (.cons rfl (.cons rfl (.cons rfl (.cons rfl (.cons rfl (.cons rfl (.cons rfl (.cons rfl (.cons rfl .nil)))))))))), rfl⟩
            · refine pw_cond ?_;(conv=>whnf);refine pbr_oite h22 (fun g36 h22 => ?_) (fun g36 h22 => ?_)
              · (conv=>whnf);refine pw_ops ?_;refine po_all ?_;(conv=>whnf);obtain ⟨y37, h38, h22⟩ := obnd_some h22;refine (c218 h38).go ?_;(conv=>whnf);obtain ⟨y39, h40, h22⟩ := obnd_some h22;refine (c218 h40).go ?_;(conv=>whnf);cases h22;exact ⟨(.cons rfl (.cons rfl (.cons rfl (.cons rfl (.cons rfl (.cons rfl (.cons rfl (.cons rfl (.cons rfl .nil))))))))), rfl⟩
              · (conv=>whnf);refine pw_skip ?_;(conv=>whnf);cases h22;exact ⟨(.cons rfl (.cons rfl (.cons rfl (.cons rfl (.cons rfl (.cons rfl (.cons rfl (.cons rfl (.cons rfl .nil))))))))), rfl⟩
          · refine pw_so ?_;refine po_all ?_;(conv=>whnf);refine pw_sd ?_;(conv=>whnf);refine ⟨?_, trivial⟩;(conv=>whnf);obtain ⟨y41, h42, h16⟩ := obnd_some h16;refine (c218 h42).go ?_;(conv=>whnf);refine ⟨by repeat (first | exact trivial | refine And.intro rfl ?_), ?_⟩;(conv=>whnf);refine ⟨?_, trivial⟩;(conv=>whnf);refine ⟨by repeat (first | exact trivial | refine And.intro rfl ?_), ?_⟩;(conv=>whnf);refine pw_draw ?_;(conv=>whnf);refine ⟨?_, trivial⟩;(conv=>whnf);obtain ⟨y43, h44, h16⟩ := obnd_some h16;refine (c218 h44).go ?_;(conv=>whnf);refine ⟨by repeat (first | exact trivial | refine And.intro rfl ?_), ?_⟩
            (conv=>whnf);refine ⟨?_, trivial⟩;(conv=>whnf);refine ⟨by repeat (first | exact trivial | refine And.intro rfl ?_), ?_⟩;(conv=>whnf);refine pw_ops ?_;refine po_all ?_;(conv=>whnf);cases h16;refine ⟨_, rfl, ?_⟩;exact .sub' (Nat.le_of_ble_eq_true rfl) (.cons rfl (.cons rfl (.cons rfl (.cons rfl (.cons rfl (.cons rfl .nil))))))
        · (conv=>whnf);refine pw_exit ?_;(conv=>whnf);cases h16;refine ⟨_, rfl, ?_⟩; rintro rfl;(conv=>whnf);exact ⟨(.cons rfl (.cons rfl .nil)), rfl⟩
    · refine pw_so ?_;refine po_all ?_;(conv=>whnf);refine pw_ret ?_;(conv=>whnf);cases H; rfl

/-- guidevane/guidevanebase.Within -/
noncomputable def f15  (a0 : Int) (a1 : Int) (a2 : Int) : Option Bool :=
  obnd (
   oite ((ile a1 a0)) (
    some (ile a0 a2)
     ) (
    some false
     )
    ) fun (r1 : Bool) =>
  some r1
set_option maxHeartbeats 1000000 in
theorem c15  {a0 : Int} {a1 : Int} {a2 : Int} {x : Bool} (H : f15 a0 a1 a2 = some x) : ICalls E 15 [(.int .i64 a0), (.int .i64 a1), (.int .i64 a2)] AHeap.none fun v _ => v = (.bool x) := by
  refine icalls_fn (pfnw ?_); unfold f15 at H;(conv=>whnf);refine pw_so ?_;refine po_all ?_;(conv=>whnf);refine pw_so ?_;refine po_ops 4 ?_;(conv=>whnf);obtain ⟨r1, h2, H⟩ := obnd_some H;refine po_seg (τ := Bool) 4 (fun e => ⟨[(14, (.bool e))], ⟨0, [], false⟩⟩) r1 ?_ ?_
  · refine po_all ?_;(conv=>whnf);refine pbr_oite h2 (fun g3 h2 => ?_) (fun g3 h2 => ?_)
    · (conv=>whnf);refine pbr_t g3 ?_;(conv=>whnf);refine pbr_t g3 ?_;(conv=>whnf);refine pbr_t g3 ?_;(conv=>whnf);cases h2;exact ⟨(.cons rfl .nil), rfl⟩
    · (conv=>whnf);refine pbr_f g3 ?_;(conv=>whnf);refine pbr_f g3 ?_;(conv=>whnf);refine pbr_f g3 ?_;(conv=>whnf);cases h2;exact ⟨(.cons rfl .nil), rfl⟩
  · refine po_all ?_;(conv=>whnf);refine pw_ret ?_;(conv=>whnf);cases H; rfl

/-- guidevane/guidevaneref08.RampErr -/
noncomputable def f202  (a0 : Int) (a1 : Int) : Option Int :=
  obnd (
   obnd (f15 a0 (-1000000 : Int) (1000000 : Int)) fun (y5 : Bool) =>
   oite (!y5) (
    some true
     ) (
    obnd (f15 a1 (0 : Int) (1000000 : Int)) fun (y8 : Bool) =>
    some (!y8)
     )
    ) fun (r1 : Bool) =>
  oite r1 (
   some (2 : Int)
    ) (
   some (0 : Int)
    )
set_option maxHeartbeats 1000000 in
theorem c202  {a0 : Int} {a1 : Int} {x : Int} (H : f202 a0 a1 = some x) : ICalls E 202 [(.int .i64 a0), (.int .i64 a1)] AHeap.none fun v _ => v = (.int .i64 x) := by
  refine icalls_fn (pfnw ?_); unfold f202 at H;(conv=>whnf);refine pw_so ?_;refine po_all ?_;(conv=>whnf);refine pw_seq ?_;obtain ⟨r1, h2, H⟩ := obnd_some H;refine pw_join (ρ := Bool) (fun e => ⟨[(12, (.bool e))], ⟨0, [], false⟩⟩) r1 ?_ ?_
  · refine pw_ops ?_;refine po_all ?_;(conv=>whnf);obtain ⟨y5, h6, h2⟩ := obnd_some h2;refine (c15 h6).go ?_;(conv=>whnf);refine pbr_oite h2 (fun g7 h2 => ?_) (fun g7 h2 => ?_)
    · (conv=>whnf);refine pbr_t g7 ?_;(conv=>whnf);refine pbr_t g7 ?_;(conv=>whnf);refine pbr_t g7 ?_;(conv=>whnf);cases h2;exact ⟨(.cons rfl .nil), rfl⟩
    · (conv=>whnf);refine pbr_f g7 ?_;(conv=>whnf);obtain ⟨y8, h9, h2⟩ := obnd_some h2;refine (c15 h9).go ?_;(conv=>whnf);refine pbr_f g7 ?_;(conv=>whnf);refine pbr_f g7 ?_;(conv=>whnf);cases h2;exact ⟨(.cons rfl .nil), rfl⟩
  · refine pw_cond ?_;(conv=>whnf);refine pbr_oite H (fun g10 H => ?_) (fun g10 H => ?_)
    · (conv=>whnf);refine pw_so ?_;refine po_all ?_;(conv=>whnf);refine pw_ret ?_;(conv=>whnf);cases H; rfl
    · (conv=>whnf);refine pw_skip ?_;(conv=>whnf);refine pw_so ?_;refine po_all ?_;(conv=>whnf);refine pw_ret ?_;(conv=>whnf);cases H; rfl

/-- guidevane/guidevaneref08.PowersErr -/
noncomputable def f203 [LO]  (a0 : List Int) : Option Int :=
  oite ((ilt (300 : Int) ((a0.map eI).length : Int))) (
   some (8 : Int)
    ) (
   obndS (
    oloop (τ := Int) (ρ := (Unit) ⊕ Int) (fun e6 =>
     oite ((ilt e6 ((a0.map eI).length : Int))) (
      ogrd ((ile 0 e6)) (
      obnd (a0[e6.toNat]?) fun (x11 : Int) =>
      obnd (f15 x11 (-1000000 : Int) (1000000 : Int)) fun (y12 : Bool) =>
      oite (!y12) (
       some (.inr (.inr ((2 : Int))))
        ) (
       some (.inl (IntKind.i64.wrap (e6 + (1 : Int))))
        )
      )
       ) (
      some (.inr (.inl ()))
       )
      ) (0 : Int)
     ) fun (_ : Unit) =>
   some (0 : Int)
    )
set_option maxHeartbeats 1000000 in
theorem c203 [LO]  {a0 : List Int} {x : Int} (H : f203 a0 = some x) : ICalls E 203 [(VS 1 (a0.map eI))] AHeap.none fun v _ => v = (.int .i64 x) := by
  refine icalls_fn (pfnw ?_); unfold f203 at H;(conv=>whnf);refine pw_so ?_;refine po_all ?_;(conv=>whnf);refine pw_seq ?_;refine pw_so ?_;refine po_all ?_;(conv=>whnf);refine pw_cond ?_;(conv=>whnf);refine pbr_oite H (fun g1 H => ?_) (fun g1 H => ?_)
  · (conv=>whnf);refine pw_so ?_;refine po_all ?_;(conv=>whnf);refine pw_ret ?_;(conv=>whnf);cases H; rfl
  · (conv=>whnf);refine pw_skip ?_;(conv=>whnf);obtain ⟨r2, h3, h4, h5⟩ := obndS_some H;refine pw_joinS (ρ := Unit) (fun e => ⟨[], ⟨0, [], false⟩⟩) r2 ?_ ?_
    · refine pw_so ?_;refine po_all ?_;(conv=>whnf);refine pw_block ?_;refine pw_loop (τ := Int) (fun e => ⟨[(0, (VS 1 (a0.map eI))), (3, (.int .i64 e))], ⟨0, [], false⟩⟩) h3 ?_ (fun _ => Nat.le_of_ble_eq_true rfl) ?_
      · exact .sub' (Nat.le_of_ble_eq_true rfl) (.cons rfl (.cons rfl .nil))
      · intro e6 x7 h8;refine pw_seq ?_;refine pw_so ?_;refine po_all ?_;(conv=>whnf);refine pw_cond ?_;(conv=>whnf);refine pbr_oite h8 (fun g9 h8 => ?_) (fun g9 h8 => ?_)
        · (conv=>whnf);refine pw_skip ?_;(conv=>whnf);refine pw_seq ?_;refine pw_block ?_;refine pw_so ?_;refine po_all ?_;(conv=>whnf);refine pbr_ogrd h8 (fun g10 h8 => ?_);(conv=>whnf);refine nth_o (l := a0) h8 (fun x11 _ h8 => ?_);(conv=>whnf);obtain ⟨y12, h13, h8⟩ := obnd_some h8;refine (c15 h13).go ?_;(conv=>whnf);refine pw_cond ?_;(conv=>whnf);refine pbr_oite h8 (fun g14 h8 => ?_) (fun g14 h8 => ?_)
          · (conv=>whnf);refine pw_so ?_;refine po_all ?_;(conv=>whnf);refine pw_ret ?_;(conv=>whnf);cases h8;refine ⟨_, rfl, ?_⟩; rintro rfl;(conv=>whnf);obtain rfl := h5 _ rfl; rfl
          · (conv=>whnf);refine pw_skip ?_;(conv=>whnf);refine pw_ops ?_;refine po_all ?_;(conv=>whnf);cases h8;refine ⟨_, rfl, ?_⟩;exact .sub' (Nat.le_of_ble_eq_true rfl) (.cons rfl (.cons rfl .nil))
        · (conv=>whnf);refine pw_exit ?_;(conv=>whnf);cases h8;refine ⟨_, rfl, ?_⟩; rintro rfl;(conv=>whnf);exact ⟨_, rfl, ⟨.nil, rfl⟩⟩
    · intro r17 hr; have H := h4 _ hr;refine pw_so ?_;refine po_all ?_;(conv=>whnf);refine pw_ret ?_;(conv=>whnf);cases H; rfl

/-- guidevane/guidevaneref08.Followed -/
noncomputable def f204 [LO]  (a0 : Int) (a1 : Int) (a2 : List Int) : Option ((List Int)) :=
  obnd (
   oloop (τ := (List Int) × Int × Int) (ρ := (List Int)) (fun e5 =>
    oite ((ilt e5.2.2 ((a2.map eI).length : Int))) (
     ogrd ((ile 0 e5.2.2)) (
     obnd (a2[e5.2.2.toNat]?) fun (x10 : Int) =>
     ogrd (fits 8 (e5.1.length + ([(imax (IntKind.i64.wrap (e5.2.1 - a1)) (imin (IntKind.i64.wrap (e5.2.1 + a1)) x10))] : List Int).length)) (
     some (.inl (((e5.1 ++ ([(imax (IntKind.i64.wrap (e5.2.1 - a1)) (imin (IntKind.i64.wrap (e5.2.1 + a1)) x10))] : List Int)), (imax (IntKind.i64.wrap (e5.2.1 - a1)) (imin (IntKind.i64.wrap (e5.2.1 + a1)) x10)), (IntKind.i64.wrap (e5.2.2 + (1 : Int))))))
     )
     )
      ) (
     some (.inr (e5.1))
      )
     ) ((([] : List Int), a0, (0 : Int)))
    ) fun (r1 : (List Int)) =>
  some r1
set_option maxHeartbeats 1000000 in
theorem c204 [LO]  {a0 : Int} {a1 : Int} {a2 : List Int} {x : (List Int)} (H : f204 a0 a1 a2 = some x) : ICalls E 204 [(.int .i64 a0), (.int .i64 a1), (VS 1 (a2.map eI))] AHeap.none fun v _ => v = (VS 1 (x.map eI)) := by
  refine ICalls.frz ?_;refine icalls_fn (pfnw ?_); unfold f204 at H;(conv=>whnf);refine pw_so ?_;refine po_all ?_;(conv=>whnf);refine pw_so ?_;refine po_all ?_;(conv=>whnf);refine pw_so ?_;refine po_all ?_;(conv=>whnf);obtain ⟨r1, h2, H⟩ := obnd_some H;refine pw_join (ρ := (List Int)) (fun e => ⟨[(7, (VT 1 (e.map eI) 0))], ⟨1, [(0, .tail (e.map eI).length 1)], false⟩⟩) r1 ?_ ?_
  · refine pw_so ?_;refine po_all ?_;(conv=>whnf);refine pw_block ?_;refine pw_loop (τ := (List Int) × Int × Int) (fun e => ⟨[(1, (.int .i64 a1)), (2, (VS 1 (a2.map eI))), (7, (VT 1 (e.1.map eI) 0)), (8, (.int .i64 e.2.1)), (9, (.int .i64 e.2.2))], ⟨1, [(0, .tail (e.1.map eI).length 1)], false⟩⟩) h2 ?_ (fun _ => Nat.le_of_ble_eq_true rfl) ?_
    · exact (Recast.nilTs 1 (Nat.le_of_ble_eq_true rfl) (.same rfl (.same rfl (.turn rfl (.same rfl (.same rfl .nil))))))
    · intro e5 x6 h7;refine pw_seq ?_;refine pw_so ?_;refine po_all ?_;(conv=>whnf);refine pw_cond ?_;(conv=>whnf);refine pbr_oite h7 (fun g8 h7 => ?_) (fun g8 h7 => ?_)
      · (conv=>whnf);refine pw_skip ?_;(conv=>whnf);refine pw_seq ?_;refine pw_block ?_;refine pw_so ?_;refine po_all ?_;(conv=>whnf);refine pbr_ogrd h7 (fun g9 h7 => ?_);(conv=>whnf);refine nth_o (l := a2) h7 (fun x10 _ h7 => ?_);(conv=>whnf);refine pw_ops ?_;refine po_all ?_;(conv=>whnf);refine app_o (l := e5.1) (m := ([(imax (IntKind.i64.wrap (e5.2.1 - a1)) (imin (IntKind.i64.wrap (e5.2.1 + a1)) x10))] : List Int)) (f := eI) h7 (by rfl) (by rfl) (by rfl) (fun h7 => ?_);(conv=>whnf);refine pw_ops ?_;refine po_all ?_;(conv=>whnf);cases h7;refine ⟨_, rfl, ?_⟩;refine Recast.trunc (Nat.le_of_ble_eq_true rfl) ?_ ?_
        · repeat (first | exact .nil | refine .cons rfl (by first | exact OBnd.rwc (Nat.le_of_ble_eq_true rfl) rfl | exact OBnd.tail (Nat.le_of_ble_eq_true rfl) | trivial) ?_)
        · repeat (first | exact .nil | refine .cons rfl (by first | exact Bnd.ptr (Nat.le_of_ble_eq_true rfl) | exact Bnd.vt (Nat.le_of_ble_eq_true rfl) | exact Bnd.cl) ?_)
      · (conv=>whnf);refine pw_exit ?_;(conv=>whnf);cases h7;refine ⟨_, rfl, ?_⟩; rintro rfl;(conv=>whnf);exact ⟨(.cons rfl .nil), rfl⟩
  · refine pw_so ?_;refine po_all ?_;(conv=>whnf);refine pw_ret ?_;(conv=>whnf);cases H; show ∃ D, Fz _ D 0 (VT 1 _ 0) _;exact ⟨fun _ => false, .vtc⟩

/-- guidevane/guidevanebase.Ints -/
noncomputable def f26 [LO]  (a0 : List Int) (a1 : List Int) : Option Bool :=
  oite ((!(ieq ((a0.map eI).length : Int) ((a1.map eI).length : Int)))) (
   some false
    ) (
   obndS (
    oloop (τ := Int) (ρ := (Unit) ⊕ Bool) (fun e6 =>
     oite ((ilt e6 ((a0.map eI).length : Int))) (
      ogrd ((ile 0 e6)) (
      obnd (a0[e6.toNat]?) fun (x11 : Int) =>
      obnd (a1[e6.toNat]?) fun (x12 : Int) =>
      oite ((!(ieq x11 x12))) (
       some (.inr (.inr (false)))
        ) (
       some (.inl (IntKind.i64.wrap (e6 + (1 : Int))))
        )
      )
       ) (
      some (.inr (.inl ()))
       )
      ) (0 : Int)
     ) fun (_ : Unit) =>
   some true
    )
set_option maxHeartbeats 1000000 in
theorem c26 [LO]  {a0 : List Int} {a1 : List Int} {x : Bool} (H : f26 a0 a1 = some x) : ICalls E 26 [(VS 1 (a0.map eI)), (VS 1 (a1.map eI))] AHeap.none fun v _ => v = (.bool x) := by
  refine icalls_fn (pfnw ?_); unfold f26 at H;(conv=>whnf);refine pw_so ?_;refine po_all ?_;(conv=>whnf);refine pw_seq ?_;refine pw_so ?_;refine po_all ?_;(conv=>whnf);refine pw_cond ?_;(conv=>whnf);refine pbr_oite H (fun g1 H => ?_) (fun g1 H => ?_)
  · (conv=>whnf);refine pw_so ?_;refine po_all ?_;(conv=>whnf);refine pw_ret ?_;(conv=>whnf);cases H; rfl
  · (conv=>whnf);refine pw_skip ?_;(conv=>whnf);obtain ⟨r2, h3, h4, h5⟩ := obndS_some H;refine pw_joinS (ρ := Unit) (fun e => ⟨[], ⟨0, [], false⟩⟩) r2 ?_ ?_
    · refine pw_so ?_;refine po_all ?_;(conv=>whnf);refine pw_block ?_;refine pw_loop (τ := Int) (fun e => ⟨[(0, (VS 1 (a0.map eI))), (1, (VS 1 (a1.map eI))), (5, (.int .i64 e))], ⟨0, [], false⟩⟩) h3 ?_ (fun _ => Nat.le_of_ble_eq_true rfl) ?_
      · exact .sub' (Nat.le_of_ble_eq_true rfl) (.cons rfl (.cons rfl (.cons rfl .nil)))
      · intro e6 x7 h8;refine pw_seq ?_;refine pw_so ?_;refine po_all ?_;(conv=>whnf);refine pw_cond ?_;(conv=>whnf);refine pbr_oite h8 (fun g9 h8 => ?_) (fun g9 h8 => ?_)
        · (conv=>whnf);refine pw_skip ?_;(conv=>whnf);refine pw_seq ?_;refine pw_block ?_;refine pw_sd ?_;(conv=>whnf);refine pbr_ogrd h8 (fun g10 h8 => ?_);(conv=>whnf);refine nth_o (l := a0) h8 (fun x11 _ h8 => ?_);(conv=>whnf);refine pbr_t g10 ?_;(conv=>whnf);refine nth_o (l := a1) h8 (fun x12 _ h8 => ?_);(conv=>whnf);refine pw_cond ?_;(conv=>whnf);refine pbr_oite h8 (fun g13 h8 => ?_) (fun g13 h8 => ?_)
          · (conv=>whnf);refine pw_so ?_;refine po_all ?_;(conv=>whnf);refine pw_ret ?_;(conv=>whnf);cases h8;refine ⟨_, rfl, ?_⟩; rintro rfl;(conv=>whnf);obtain rfl := h5 _ rfl; rfl
          · (conv=>whnf);refine pw_skip ?_;(conv=>whnf);refine pw_ops ?_;refine po_all ?_;(conv=>whnf);cases h8;refine ⟨_, rfl, ?_⟩;exact .sub' (Nat.le_of_ble_eq_true rfl) (.cons rfl (.cons rfl (.cons rfl .nil)))
        · (conv=>whnf);refine pw_exit ?_;(conv=>whnf);cases h8;refine ⟨_, rfl, ?_⟩; rintro rfl;(conv=>whnf);exact ⟨_, rfl, ⟨.nil, rfl⟩⟩
    · intro r16 hr; have H := h4 _ hr;refine pw_so ?_;refine po_all ?_;(conv=>whnf);refine pw_ret ?_;(conv=>whnf);cases H; rfl

/-- guidevane/guidevanebase.Size -/
noncomputable def f109  (a0 : Int) : Option Int :=
  some (imax a0 (IntKind.i64.wrap (0 - a0)))
set_option maxHeartbeats 1000000 in
theorem c109  {a0 : Int} {x : Int} (H : f109 a0 = some x) : ICalls E 109 [(.int .i64 a0)] AHeap.none fun v _ => v = (.int .i64 x) := by
  refine icalls_fn (pfnw ?_); unfold f109 at H;(conv=>whnf);refine pw_so ?_;refine po_all ?_;(conv=>whnf);refine pw_so ?_;refine po_all ?_;(conv=>whnf);refine pw_ret ?_;(conv=>whnf);cases H; rfl

/-- guidevane/guidevaneref08.Settled -/
noncomputable def f205 [LO]  (a0 : List Int) (a1 : List Int) : Option (Int × Int × Int) :=
  obnd (
   oloop (τ := Int × Int × Int × Int) (ρ := Int × Int × Int) (fun e5 =>
    oite ((ilt e5.1 ((a0.map eI).length : Int))) (
     ogrd ((ile 0 e5.1)) (
     obnd (a0[e5.1.toNat]?) fun (x10 : Int) =>
     obnd (a1[e5.1.toNat]?) fun (x11 : Int) =>
     obnd (
      obnd (
       obnd (
        oite ((ilt (0 : Int) x10)) (
         some (ilt (0 : Int) x11)
          ) (
         some false
          )
         ) fun (r20 : Bool) =>
       oite r20 (
        some true
         ) (
        obnd (
         oite ((ilt x10 (0 : Int))) (
          some (ilt x11 (0 : Int))
           ) (
          some false
           )
          ) fun (r24 : Bool) =>
        some r24
         )
        ) fun (r16 : Bool) =>
      oite r16 (
       obnd (f109 x10) fun (y28 : Int) =>
       obnd (f109 x11) fun (y30 : Int) =>
       some (imin y28 y30)
        ) (
       some (0 : Int)
        )
       ) fun (r12 : Int) =>
     obnd (f109 x10) fun (y32 : Int) =>
     obnd (f109 x11) fun (y34 : Int) =>
     some (.inl (((IntKind.i64.wrap (e5.1 + (1 : Int))), (IntKind.i64.wrap (e5.2.1 + r12)), (IntKind.i64.wrap ((IntKind.i64.wrap (e5.2.2.1 + y32)) - r12)), (IntKind.i64.wrap ((IntKind.i64.wrap (e5.2.2.2 + y34)) - r12)))))
     )
      ) (
     some (.inr ((e5.2.1, e5.2.2.1, e5.2.2.2)))
      )
     ) (((0 : Int), (0 : Int), (0 : Int), (0 : Int)))
    ) fun (r1 : Int × Int × Int) =>
  some (r1.1, r1.2.1, r1.2.2)
set_option maxHeartbeats 1000000 in
theorem c205 [LO]  {a0 : List Int} {a1 : List Int} {x : Int × Int × Int} (H : f205 a0 a1 = some x) : ICalls E 205 [(VS 1 (a0.map eI)), (VS 1 (a1.map eI))] AHeap.none fun v _ => v = (.agg ⟨[(.int .i64 x.1), (.int .i64 x.2.1), (.int .i64 x.2.2)]⟩) := by
  refine icalls_fn (pfnw ?_); unfold f205 at H;(conv=>whnf);refine pw_so ?_;refine po_all ?_;(conv=>whnf);refine pw_so ?_;refine po_all ?_;(conv=>whnf);obtain ⟨r1, h2, H⟩ := obnd_some H;refine pw_join (ρ := Int × Int × Int) (fun e => ⟨[(4, (.pointer (some ⟨0, 0, none⟩))), (5, (.pointer (some ⟨1, 0, none⟩)))], ⟨2, [(1, .rw [(.int .i64 e.1), (.int .i64 e.2.1), (.int .i64 e.2.2)]), (0, .rw [(.int .i64 0), (.int .i64 0), (.int .i64 0)])], false⟩⟩) r1 ?_ ?_
  · refine pw_so ?_;refine po_all ?_;(conv=>whnf);refine pw_block ?_;refine pw_loop (τ := Int × Int × Int × Int) (fun e => ⟨[(0, (VS 1 (a0.map eI))), (1, (VS 1 (a1.map eI))), (4, (.pointer (some ⟨0, 0, none⟩))), (5, (.pointer (some ⟨1, 0, none⟩))), (6, (.int .i64 e.1))], ⟨2, [(1, .rw [(.int .i64 e.2.1), (.int .i64 e.2.2.1), (.int .i64 e.2.2.2)]), (0, .rw [(.int .i64 0), (.int .i64 0), (.int .i64 0)])], false⟩⟩) h2 ?_ (fun _ => Nat.le_of_ble_eq_true rfl) ?_
    · exact .sub' (Nat.le_of_ble_eq_true rfl) (.cons rfl (.cons rfl (.cons rfl (.cons rfl (.cons rfl .nil)))))
    · intro e5 x6 h7;refine pw_seq ?_;refine pw_so ?_;refine po_all ?_;(conv=>whnf);refine pw_cond ?_;(conv=>whnf);refine pbr_oite h7 (fun g8 h7 => ?_) (fun g8 h7 => ?_)
      · (conv=>whnf);refine pw_skip ?_;(conv=>whnf);refine pw_seq ?_;refine pw_block ?_;refine pw_sd ?_;(conv=>whnf);refine pbr_ogrd h7 (fun g9 h7 => ?_);(conv=>whnf);refine nth_o (l := a0) h7 (fun x10 _ h7 => ?_);(conv=>whnf);refine pbr_t g9 ?_;(conv=>whnf);refine nth_o (l := a1) h7 (fun x11 _ h7 => ?_);(conv=>whnf);refine pw_so ?_;refine po_all ?_;(conv=>whnf);obtain ⟨r12, h13, h7⟩ := obnd_some h7;refine pw_join (ρ := Int) (fun e => ⟨[(0, (VS 1 (a0.map eI))), (1, (VS 1 (a1.map eI))), (4, (.pointer (some ⟨0, 0, none⟩))), (5, (.pointer (some ⟨1, 0, none⟩))), (6, (.int .i64 e5.1)), (7, (.int .i64 x10)), (8, (.int .i64 x11)), (9, (.int .i64 e))], ⟨2, [(1, .rw [(.int .i64 e5.2.1), (.int .i64 e5.2.2.1), (.int .i64 e5.2.2.2)]), (0, .rw [(.int .i64 0), (.int .i64 0), (.int .i64 0)])], false⟩⟩) r12 ?_ ?_
        · obtain ⟨r16, h17, h13⟩ := obnd_some h13;refine pw_join (ρ := Bool) (fun e => ⟨[(0, (VS 1 (a0.map eI))), (1, (VS 1 (a1.map eI))), (4, (.pointer (some ⟨0, 0, none⟩))), (5, (.pointer (some ⟨1, 0, none⟩))), (6, (.int .i64 e5.1)), (7, (.int .i64 x10)), (8, (.int .i64 x11)), (9, (.int .i64 0)), (37, (.bool e))], ⟨2, [(1, .rw [(.int .i64 e5.2.1), (.int .i64 e5.2.2.1), (.int .i64 e5.2.2.2)]), (0, .rw [(.int .i64 0), (.int .i64 0), (.int .i64 0)])], false⟩⟩) r16 ?_ ?_
          · refine pw_ops ?_;refine po_ops 3 ?_;(conv=>whnf);obtain ⟨r20, h21, h17⟩ := obnd_some h17;refine po_seg (τ := Bool) 3 (fun e => ⟨[(0, (VS 1 (a0.map eI))), (1, (VS 1 (a1.map eI))), (4, (.pointer (some ⟨0, 0, none⟩))), (5, (.pointer (some ⟨1, 0, none⟩))), (6, (.int .i64 e5.1)), (7, (.int .i64 x10)), (8, (.int .i64 x11)), (9, (.int .i64 0)), (29, (.bool e))], ⟨2, [(1, .rw [(.int .i64 e5.2.1), (.int .i64 e5.2.2.1), (.int .i64 e5.2.2.2)]), (0, .rw [(.int .i64 0), (.int .i64 0), (.int .i64 0)])], false⟩⟩) r20 ?_ ?_
            · refine po_all ?_;(conv=>whnf);refine pbr_oite h21 (fun g22 h21 => ?_) (fun g22 h21 => ?_)
              · (conv=>whnf);refine pbr_t g22 ?_;(conv=>whnf);refine pbr_t g22 ?_;(conv=>whnf);cases h21;exact ⟨(.cons rfl (.cons rfl (.cons rfl (.cons rfl (.cons rfl (.cons rfl (.cons rfl (.cons rfl (.cons rfl .nil))))))))), rfl⟩
              · (conv=>whnf);refine pbr_f g22 ?_;(conv=>whnf);refine pbr_f g22 ?_;(conv=>whnf);cases h21;exact ⟨(.cons rfl (.cons rfl (.cons rfl (.cons rfl (.cons rfl (.cons rfl (.cons rfl (.cons rfl (.cons rfl .nil))))))))), rfl⟩
            · refine po_ops 4 ?_;(conv=>whnf);refine pbr_oite h17 (fun g23 h17 => ?_) (fun g23 h17 => ?_)
              · (conv=>whnf);refine pbr_t g23 ?_;(conv=>whnf);refine pbr_t g23 ?_;(conv=>whnf);refine po_ops 3 ?_;(conv=>whnf);refine pbr_t g23 ?_;(conv=>whnf);refine po_all ?_;(conv=>whnf);refine pbr_t g23 ?_;(conv=>whnf);cases h17;exact ⟨(.cons rfl (.cons rfl (.cons rfl (.cons rfl (.cons rfl (.cons rfl (.cons rfl (.cons rfl (.cons rfl .nil))))))))), rfl⟩
              · (conv=>whnf);refine pbr_f g23 ?_;(conv=>whnf);refine pbr_f g23 ?_;(conv=>whnf);obtain ⟨r24, h25, h17⟩ := obnd_some h17;refine po_seg (τ := Bool) 3 (fun e => ⟨[(0, (VS 1 (a0.map eI))), (1, (VS 1 (a1.map eI))), (4, (.pointer (some ⟨0, 0, none⟩))), (5, (.pointer (some ⟨1, 0, none⟩))), (6, (.int .i64 e5.1)), (7, (.int .i64 x10)), (8, (.int .i64 x11)), (9, (.int .i64 0)), (30, (.bool r20)), (31, (.int .i64 x10)), (32, (.bool (ilt x10 (0 : Int)))), (33, (.bool (ilt x10 (0 : Int)))), (36, (.bool e))], ⟨2, [(1, .rw [(.int .i64 e5.2.1), (.int .i64 e5.2.2.1), (.int .i64 e5.2.2.2)]), (0, .rw [(.int .i64 0), (.int .i64 0), (.int .i64 0)])], false⟩⟩) r24 ?_ ?_
                · refine po_all ?_;(conv=>whnf);refine pbr_oite h25 (fun g26 h25 => ?_) (fun g26 h25 => ?_)
                  · (conv=>whnf);refine pbr_t g26 ?_;(conv=>whnf);refine pbr_f g23 ?_;(conv=>whnf);refine pbr_t g26 ?_;(conv=>whnf);cases h25;exact ⟨(.cons rfl (.cons rfl (.cons rfl (.cons rfl (.cons rfl (.cons rfl (.cons rfl (.cons rfl (.cons rfl (.cons rfl (.cons rfl (.cons rfl (.cons rfl .nil))))))))))))), rfl⟩
                  · (conv=>whnf);refine pbr_f g26 ?_;(conv=>whnf);refine pbr_f g23 ?_;(conv=>whnf);refine pbr_f g26 ?_;(conv=>whnf);cases h25;exact ⟨(.cons rfl (.cons rfl (.cons rfl (.cons rfl (.cons rfl (.cons rfl (.cons rfl (.cons rfl (.cons rfl (.cons rfl (.cons rfl (.cons rfl (.cons rfl .nil))))))))))))), rfl⟩
                · refine po_all ?_;(conv=>whnf);refine pbr_f g23 ?_;(conv=>whnf);cases h17;exact ⟨(.cons rfl (.cons rfl (.cons rfl (.cons rfl (.cons rfl (.cons rfl (.cons rfl (.cons rfl (.cons rfl .nil))))))))), rfl⟩
          · refine pw_cond ?_;(conv=>whnf);refine pbr_oite h13 (fun g27 h13 => ?_) (fun g27 h13 => ?_)
            · (conv=>whnf);refine pw_ops ?_;refine po_all ?_;(conv=>whnf);obtain ⟨y28, h29, h13⟩ := obnd_some h13;refine (c109 h29).go ?_;(conv=>whnf);obtain ⟨y30, h31, h13⟩ := obnd_some h13;refine (c109 h31).go ?_;(conv=>whnf);cases h13;exact ⟨(.cons rfl (.cons rfl (.cons rfl (.cons rfl (.cons rfl (.cons rfl (.cons rfl (.cons rfl .nil)))))))), rfl⟩
            · (conv=>whnf);refine pw_skip ?_;(conv=>whnf);cases h13;exact ⟨(.cons rfl (.cons rfl (.cons rfl (.cons rfl (.cons rfl (.cons rfl (.cons rfl (.cons rfl .nil)))))))), rfl⟩
        · refine pw_so ?_;refine po_all ?_;(conv=>whnf);refine pw_sd ?_;(conv=>whnf);refine ⟨?_, trivial⟩;(conv=>whnf);obtain ⟨y32, h33, h7⟩ := obnd_some h7;refine (c109 h33).go ?_;(conv=>whnf);refine ⟨by repeat (first | exact trivial | refine And.intro rfl ?_), ?_⟩;(conv=>whnf);refine ⟨?_, trivial⟩;(conv=>whnf);refine ⟨by repeat (first | exact trivial | refine And.intro rfl ?_), ?_⟩;(conv=>whnf);refine pw_draw ?_;(conv=>whnf);refine ⟨?_, trivial⟩;(conv=>whnf);obtain ⟨y34, h35, h7⟩ := obnd_some h7;refine (c109 h35).go ?_;(conv=>whnf);refine ⟨by repeat (first | exact trivial | refine And.intro rfl ?_), ?_⟩;(conv=>whnf)
          refine ⟨?_, trivial⟩;(conv=>whnf);refine ⟨by repeat (first | exact trivial | refine And.intro rfl ?_), ?_⟩;(conv=>whnf);refine pw_ops ?_;refine po_all ?_;(conv=>whnf);cases h7;refine ⟨_, rfl, ?_⟩;exact .sub' (Nat.le_of_ble_eq_true rfl) (.cons rfl (.cons rfl (.cons rfl (.cons rfl (.cons rfl .nil)))))
      · (conv=>whnf);refine pw_exit ?_;(conv=>whnf);cases h7;refine ⟨_, rfl, ?_⟩; rintro rfl;(conv=>whnf);exact ⟨(.cons rfl (.cons rfl .nil)), rfl⟩
  · refine pw_so ?_;refine po_all ?_;(conv=>whnf);refine pw_ret ?_;(conv=>whnf);cases H; rfl

/-- guidevane/guidevanelaw08.DispatchActivations -/
noncomputable def f196 [LO]  (a0 : Int) (a1 : Int) (a2 : List Int) (a3 : List Int) : Option Bool :=
  obnd (f198) fun (y1 : Bool) =>
  oite (!y1) (
   some false
    ) (
   obnd (
    obnd (f199 a2) fun (y8 : Bool) =>
    oite (!y8) (
     some true
      ) (
     obnd (f199 a3) fun (y11 : Bool) =>
     some (!y11)
      )
     ) fun (r4 : Bool) =>
   oite r4 (
    some true
     ) (
    obnd (f38 a2) fun (y14 : (List Int)) =>
    obnd (f200 a0 a1 y14) fun (y16 : (List Int) × Int) =>
    obnd (f38 a2) fun (y18 : (List Int)) =>
    obnd (f38 a3) fun (y20 : (List Int)) =>
    obnd (f201 y18 y20) fun (y22 : Int × Int × Int × Int) =>
    obnd (f202 a0 a1) fun (y24 : Int) =>
    obnd (f203 a2) fun (y26 : Int) =>
    obnd (
     oite ((ieq y24 (0 : Int))) (
      some y26
       ) (
      some y24
       )
      ) fun (r28 : Int) =>
    obnd (
     obnd (
      oite ((!(ieq r28 (0 : Int)))) (
       oite ((!(ieq y16.2 r28))) (
        some true
         ) (
        some (!(ieq ((y16.1.map eI).length : Int) (0 : Int)))
         )
        ) (
       some false
        )
       ) fun (r37 : Bool) =>
     oite r37 (
      some true
       ) (
      obnd (
       oite ((ieq r28 (0 : Int))) (
        oite ((!(ieq y16.2 (0 : Int)))) (
         some true
          ) (
         obnd (f204 a0 a1 a2) fun (y46 : (List Int)) =>
         obnd (f26 y16.1 y46) fun (y48 : Bool) =>
         some (!y48)
          )
         ) (
        some false
         )
        ) fun (r42 : Bool) =>
      some r42
       )
      ) fun (r33 : Bool) =>
    oite r33 (
     some false
      ) (
     obnd (
      oite ((ieq y26 (0 : Int))) (
       obnd (f203 a3) fun (y56 : Int) =>
       some y56
        ) (
       some y26
        )
       ) fun (r51 : Int) =>
     obnd (
      obnd (
       oite ((ieq r51 (0 : Int))) (
        some (!(ieq ((a2.map eI).length : Int) ((a3.map eI).length : Int)))
         ) (
        some false
         )
        ) fun (r62 : Bool) =>
      oite r62 (
       some (10 : Int)
        ) (
       some r51
        )
       ) fun (r58 : Int) =>
     oite ((!(ieq r58 (0 : Int)))) (
      obnd (
       oite ((ieq y22.2.2.2 r58)) (
        some ((ieq y22.1 (0 : Int)) && ((ieq y22.2.1 (0 : Int)) && ((ieq y22.2.2.1 (0 : Int)) && true)))
         ) (
        some false
         )
        ) fun (r69 : Bool) =>
      some r69
       ) (
      oite ((ieq y22.2.2.2 (0 : Int))) (
       obnd (f205 a2 a3) fun (y73 : Int × Int × Int) =>
       some ((ieq y22.1 y73.1) && ((ieq y22.2.1 y73.2.1) && ((ieq y22.2.2.1 y73.2.2) && true)))
        ) (
       some false
        )
       )
      )
     )
    )
set_option maxHeartbeats 1000000 in
theorem c196 [LO]  {a0 : Int} {a1 : Int} {a2 : List Int} {a3 : List Int} {x : Bool} (H : f196 a0 a1 a2 a3 = some x) : ICalls E 196 [(.agg ⟨[(.int .i64 a0), (.int .i64 a1)]⟩), (VS 1 (a2.map eI)), (VS 1 (a3.map eI))] AHeap.none fun v _ => v = (.bool x) := by
  refine icalls_fn (pfnw ?_); unfold f196 at H;(conv=>whnf);refine pw_so ?_;refine po_all ?_;(conv=>whnf);refine pw_seq ?_;refine pw_so ?_;refine po_all ?_;(conv=>whnf);obtain ⟨y1, h2, H⟩ := obnd_some H;refine (c198 h2).go ?_;(conv=>whnf);refine pw_cond ?_;(conv=>whnf);refine pbr_oite H (fun g3 H => ?_) (fun g3 H => ?_)
  · (conv=>whnf);refine pw_so ?_;refine po_all ?_;(conv=>whnf);refine pw_ret ?_;(conv=>whnf);cases H; rfl
  · (conv=>whnf);refine pw_skip ?_;(conv=>whnf);refine pw_seq ?_;obtain ⟨r4, h5, H⟩ := obnd_some H;refine pw_join (ρ := Bool) (fun e => ⟨[(1, (VS 1 (a2.map eI))), (2, (VS 1 (a3.map eI))), (3, (.pointer (some ⟨0, 0, none⟩))), (22, (.bool e))], ⟨1, [(0, .rw [(.int .i64 a0), (.int .i64 a1)])], false⟩⟩) r4 ?_ ?_
    · refine pw_ops ?_;refine po_all ?_;(conv=>whnf);obtain ⟨y8, h9, h5⟩ := obnd_some h5;refine (c199 h9).go ?_;(conv=>whnf);refine pbr_oite h5 (fun g10 h5 => ?_) (fun g10 h5 => ?_)
      · (conv=>whnf);refine pbr_t g10 ?_;(conv=>whnf);refine pbr_t g10 ?_;(conv=>whnf);refine pbr_t g10 ?_;(conv=>whnf);cases h5;exact ⟨(.cons rfl (.cons rfl (.cons rfl (.cons rfl .nil)))), rfl⟩
      · (conv=>whnf);refine pbr_f g10 ?_;(conv=>whnf);obtain ⟨y11, h12, h5⟩ := obnd_some h5;refine (c199 h12).go ?_;(conv=>whnf);refine pbr_f g10 ?_;(conv=>whnf);refine pbr_f g10 ?_;(conv=>whnf);cases h5;exact ⟨(.cons rfl (.cons rfl (.cons rfl (.cons rfl .nil)))), rfl⟩
    · refine pw_cond ?_;(conv=>whnf);refine pbr_oite H (fun g13 H => ?_) (fun g13 H => ?_)
      · (conv=>whnf);refine pw_so ?_;refine po_all ?_;(conv=>whnf);refine pw_ret ?_;(conv=>whnf);cases H; rfl
      · (conv=>whnf);refine pw_skip ?_;(conv=>whnf);refine pw_sd ?_;(conv=>whnf);refine ⟨?_, trivial⟩;(conv=>whnf);obtain ⟨y14, h15, H⟩ := obnd_some H;refine (c38 h15).go ?_;(conv=>whnf);refine ⟨by repeat (first | exact trivial | refine And.intro rfl ?_), ?_⟩;(conv=>whnf);refine ⟨?_, trivial⟩;(conv=>whnf);obtain ⟨y16, h17, H⟩ := obnd_some H;refine (c200 h17).go ?_;(conv=>whnf);refine ⟨by repeat (first | exact trivial | refine And.intro rfl ?_), ?_⟩;(conv=>whnf);refine pw_so ?_;refine po_all ?_;(conv=>whnf);obtain ⟨y18, h19, H⟩ := obnd_some H;refine (c38 h19).go ?_;(conv=>whnf);obtain ⟨y20, h21, H⟩ := obnd_some H
        refine (c38 h21).go ?_;(conv=>whnf);obtain ⟨y22, h23, H⟩ := obnd_some H;refine (c201 h23).go ?_;(conv=>whnf);refine pw_so ?_;refine po_all ?_;(conv=>whnf);obtain ⟨y24, h25, H⟩ := obnd_some H;refine (c202 h25).go ?_;(conv=>whnf);refine pw_so ?_;refine po_all ?_;(conv=>whnf);obtain ⟨y26, h27, H⟩ := obnd_some H;refine (c203 h27).go ?_;(conv=>whnf);obtain ⟨r28, h29, H⟩ := obnd_some H;refine pw_join (ρ := Int) (fun e => ⟨[(1, (VS 1 (a2.map eI))), (2, (VS 1 (a3.map eI))), (3, (.pointer (some ⟨0, 0, none⟩))), (7, (VS 1 (y16.1.map eI))), (8, (.int .i64 y16.2)), (9, (.pointer (some ⟨1, 0, none⟩))), (10, (.int .i64 y22.2.2.2)), (11, (.int .i64 e)), (12, (.int .i64 y26))], ⟨2, [(1, .rw [(.int .i64 y22.1), (.int .i64 y22.2.1), (.int .i64 y22.2.2.1)]), (0, .rw [(.int .i64 a0), (.int .i64 a1)])], false⟩⟩) r28 ?_ ?_
        · refine pw_so ?_;refine po_all ?_;(conv=>whnf);refine pw_cond ?_;(conv=>whnf);refine pbr_oite h29 (fun g32 h29 => ?_) (fun g32 h29 => ?_)
          · (conv=>whnf);refine pw_ops ?_;refine po_all ?_;(conv=>whnf);cases h29;exact ⟨(.cons rfl (.cons rfl (.cons rfl (.cons rfl (.cons rfl (.cons rfl (.cons rfl (.cons rfl (.cons rfl .nil))))))))), rfl⟩
          · (conv=>whnf);refine pw_skip ?_;(conv=>whnf);cases h29;exact ⟨(.cons rfl (.cons rfl (.cons rfl (.cons rfl (.cons rfl (.cons rfl (.cons rfl (.cons rfl (.cons rfl .nil))))))))), rfl⟩
        · refine pw_seq ?_;obtain ⟨r33, h34, H⟩ := obnd_some H;refine pw_join (ρ := Bool) (fun e => ⟨[(1, (VS 1 (a2.map eI))), (2, (VS 1 (a3.map eI))), (9, (.pointer (some ⟨1, 0, none⟩))), (10, (.int .i64 y22.2.2.2)), (12, (.int .i64 y26)), (81, (.bool e))], ⟨2, [(1, .rw [(.int .i64 y22.1), (.int .i64 y22.2.1), (.int .i64 y22.2.2.1)]), (0, .rw [(.int .i64 a0), (.int .i64 a1)])], false⟩⟩) r33 ?_ ?_
          · refine pw_ops ?_;refine po_ops 3 ?_;(conv=>whnf);obtain ⟨r37, h38, h34⟩ := obnd_some h34;refine po_seg (τ := Bool) 9 (fun e => ⟨[(1, (VS 1 (a2.map eI))), (2, (VS 1 (a3.map eI))), (3, (.pointer (some ⟨0, 0, none⟩))), (7, (VS 1 (y16.1.map eI))), (8, (.int .i64 y16.2)), (9, (.pointer (some ⟨1, 0, none⟩))), (10, (.int .i64 y22.2.2.2)), (11, (.int .i64 r28)), (12, (.int .i64 y26)), (62, (.bool e))], ⟨2, [(1, .rw [(.int .i64 y22.1), (.int .i64 y22.2.1), (.int .i64 y22.2.2.1)]), (0, .rw [(.int .i64 a0), (.int .i64 a1)])], false⟩⟩) r37 ?_ ?_
            · refine po_all ?_;(conv=>whnf);refine pbr_oite h38 (fun g39 h38 => ?_) (fun g39 h38 => ?_)
              · (conv=>whnf);refine pbr_t g39 ?_;(conv=>whnf);refine pbr_t g39 ?_;(conv=>whnf);refine pbr_t g39 ?_;(conv=>whnf);refine pbr_oite h38 (fun g40 h38 => ?_) (fun g40 h38 => ?_)
                · (conv=>whnf);refine pbr_t g40 ?_;(conv=>whnf);refine pbr_t g40 ?_;(conv=>whnf);refine pbr_t g39 ?_;(conv=>whnf);refine pbr_t g40 ?_;(conv=>whnf);refine pbr_t g39 ?_;(conv=>whnf);cases h38;exact ⟨(.cons rfl (.cons rfl (.cons rfl (.cons rfl (.cons rfl (.cons rfl (.cons rfl (.cons rfl (.cons rfl (.cons rfl .nil)))))))))), rfl⟩
                · (conv=>whnf);refine pbr_f g40 ?_;(conv=>whnf);refine pbr_f g40 ?_;(conv=>whnf);refine pbr_t g39 ?_;(conv=>whnf);refine pbr_f g40 ?_;(conv=>whnf);refine pbr_t g39 ?_;(conv=>whnf);cases h38;exact ⟨(.cons rfl (.cons rfl (.cons rfl (.cons rfl (.cons rfl (.cons rfl (.cons rfl (.cons rfl (.cons rfl (.cons rfl .nil)))))))))), rfl⟩
              · (conv=>whnf);refine pbr_f g39 ?_;(conv=>whnf);refine pbr_f g39 ?_;(conv=>whnf);refine pbr_f g39 ?_;(conv=>whnf);refine pbr_f g39 ?_;(conv=>whnf);refine pbr_f g39 ?_;(conv=>whnf);cases h38;exact ⟨(.cons rfl (.cons rfl (.cons rfl (.cons rfl (.cons rfl (.cons rfl (.cons rfl (.cons rfl (.cons rfl (.cons rfl .nil)))))))))), rfl⟩
            · refine po_ops 4 ?_;(conv=>whnf);refine pbr_oite h34 (fun g41 h34 => ?_) (fun g41 h34 => ?_)
              · (conv=>whnf);refine pbr_t g41 ?_;(conv=>whnf);refine pbr_t g41 ?_;(conv=>whnf);refine po_ops 14 ?_;(conv=>whnf);refine pbr_t g41 ?_;(conv=>whnf);refine po_all ?_;(conv=>whnf);refine pbr_t g41 ?_;(conv=>whnf);cases h34;exact ⟨(.cons rfl (.cons rfl (.cons rfl (.cons rfl (.cons rfl (.cons rfl .nil)))))), rfl⟩
              · (conv=>whnf);refine pbr_f g41 ?_;(conv=>whnf);refine pbr_f g41 ?_;(conv=>whnf);obtain ⟨r42, h43, h34⟩ := obnd_some h34;refine po_seg (τ := Bool) 14 (fun e => ⟨[(1, (VS 1 (a2.map eI))), (2, (VS 1 (a3.map eI))), (9, (.pointer (some ⟨1, 0, none⟩))), (10, (.int .i64 y22.2.2.2)), (12, (.int .i64 y26)), (63, (.bool r37)), (80, (.bool e))], ⟨2, [(1, .rw [(.int .i64 y22.1), (.int .i64 y22.2.1), (.int .i64 y22.2.2.1)]), (0, .rw [(.int .i64 a0), (.int .i64 a1)])], false⟩⟩) r42 ?_ ?_
                · refine po_all ?_;(conv=>whnf);refine pbr_oite h43 (fun g44 h43 => ?_) (fun g44 h43 => ?_)
                  · (conv=>whnf);refine pbr_t g44 ?_;(conv=>whnf);refine pbr_t g44 ?_;(conv=>whnf);refine pbr_oite h43 (fun g45 h43 => ?_) (fun g45 h43 => ?_)
                    · (conv=>whnf);refine pbr_t g45 ?_;(conv=>whnf);refine pbr_t g45 ?_;(conv=>whnf);refine pbr_t g45 ?_;(conv=>whnf);refine pbr_t g45 ?_;(conv=>whnf);refine pbr_t g45 ?_;(conv=>whnf);refine pbr_t g45 ?_;(conv=>whnf);refine pbr_t g45 ?_;(conv=>whnf);refine pbr_t g45 ?_;(conv=>whnf);refine pbr_t g44 ?_;(conv=>whnf);refine pbr_t g45 ?_;(conv=>whnf);refine pbr_f g41 ?_;(conv=>whnf);refine pbr_t g44 ?_;(conv=>whnf);cases h43;exact ⟨(.cons rfl (.cons rfl (.cons rfl (.cons rfl (.cons rfl (.cons rfl (.cons rfl .nil))))))), rfl⟩
                    · (conv=>whnf);refine pbr_f g45 ?_;(conv=>whnf);refine pbr_f g45 ?_;(conv=>whnf);refine pbr_f g45 ?_;(conv=>whnf);refine pbr_f g45 ?_;(conv=>whnf);refine pbr_f g45 ?_;(conv=>whnf);refine pbr_f g45 ?_;(conv=>whnf);obtain ⟨y46, h47, h43⟩ := obnd_some h43;refine (c204 h47).go ?_;(conv=>whnf);refine pbr_f g45 ?_;(conv=>whnf);obtain ⟨y48, h49, h43⟩ := obnd_some h43;refine (c26 h49).go ?_;(conv=>whnf);refine pbr_f g45 ?_;(conv=>whnf);refine pbr_t g44 ?_;(conv=>whnf);refine pbr_f g45 ?_;(conv=>whnf);refine pbr_f g41 ?_;(conv=>whnf);refine pbr_t g44 ?_;(conv=>whnf);cases h43;exact ⟨(.cons rfl (.cons rfl (.cons rfl (.cons rfl (.cons rfl (.cons rfl (.cons rfl .nil))))))), rfl⟩
                  · (conv=>whnf);refine pbr_f g44 ?_;(conv=>whnf);refine pbr_f g44 ?_;(conv=>whnf);refine pbr_f g44 ?_;(conv=>whnf);refine pbr_f g41 ?_;(conv=>whnf);refine pbr_f g44 ?_;(conv=>whnf);cases h43;exact ⟨(.cons rfl (.cons rfl (.cons rfl (.cons rfl (.cons rfl (.cons rfl (.cons rfl .nil))))))), rfl⟩
                · refine po_all ?_;(conv=>whnf);refine pbr_f g41 ?_;(conv=>whnf);cases h34;exact ⟨(.cons rfl (.cons rfl (.cons rfl (.cons rfl (.cons rfl (.cons rfl .nil)))))), rfl⟩
          · refine pw_cond ?_;(conv=>whnf);refine pbr_oite H (fun g50 H => ?_) (fun g50 H => ?_)
            · (conv=>whnf);refine pw_so ?_;refine po_all ?_;(conv=>whnf);refine pw_ret ?_;(conv=>whnf);cases H; rfl
            · (conv=>whnf);refine pw_skip ?_;(conv=>whnf);obtain ⟨r51, h52, H⟩ := obnd_some H;refine pw_join (ρ := Int) (fun e => ⟨[(1, (VS 1 (a2.map eI))), (2, (VS 1 (a3.map eI))), (9, (.pointer (some ⟨1, 0, none⟩))), (10, (.int .i64 y22.2.2.2)), (12, (.int .i64 e))], ⟨2, [(1, .rw [(.int .i64 y22.1), (.int .i64 y22.2.1), (.int .i64 y22.2.2.1)]), (0, .rw [(.int .i64 a0), (.int .i64 a1)])], false⟩⟩) r51 ?_ ?_
              · refine pw_so ?_;refine po_all ?_;(conv=>whnf);refine pw_cond ?_;(conv=>whnf);refine pbr_oite h52 (fun g55 h52 => ?_) (fun g55 h52 => ?_)
                · (conv=>whnf);refine pw_ops ?_;refine po_all ?_;(conv=>whnf);obtain ⟨y56, h57, h52⟩ := obnd_some h52;refine (c203 h57).go ?_;(conv=>whnf);cases h52;exact ⟨(.cons rfl (.cons rfl (.cons rfl (.cons rfl (.cons rfl .nil))))), rfl⟩
                · (conv=>whnf);refine pw_skip ?_;(conv=>whnf);cases h52;exact ⟨(.cons rfl (.cons rfl (.cons rfl (.cons rfl (.cons rfl .nil))))), rfl⟩
              · obtain ⟨r58, h59, H⟩ := obnd_some H;refine pw_join (ρ := Int) (fun e => ⟨[(1, (VS 1 (a2.map eI))), (2, (VS 1 (a3.map eI))), (9, (.pointer (some ⟨1, 0, none⟩))), (10, (.int .i64 y22.2.2.2)), (12, (.int .i64 e))], ⟨2, [(1, .rw [(.int .i64 y22.1), (.int .i64 y22.2.1), (.int .i64 y22.2.2.1)]), (0, .rw [(.int .i64 a0), (.int .i64 a1)])], false⟩⟩) r58 ?_ ?_
                · obtain ⟨r62, h63, h59⟩ := obnd_some h59;refine pw_join (ρ := Bool) (fun e => ⟨[(1, (VS 1 (a2.map eI))), (2, (VS 1 (a3.map eI))), (9, (.pointer (some ⟨1, 0, none⟩))), (10, (.int .i64 y22.2.2.2)), (12, (.int .i64 r51)), (94, (.bool e))], ⟨2, [(1, .rw [(.int .i64 y22.1), (.int .i64 y22.2.1), (.int .i64 y22.2.2.1)]), (0, .rw [(.int .i64 a0), (.int .i64 a1)])], false⟩⟩) r62 ?_ ?_
                  · refine pw_ops ?_;refine po_all ?_;(conv=>whnf);refine pbr_oite h63 (fun g66 h63 => ?_) (fun g66 h63 => ?_)
                    · (conv=>whnf);refine pbr_t g66 ?_;(conv=>whnf);refine pbr_t g66 ?_;(conv=>whnf);refine pbr_t g66 ?_;(conv=>whnf);refine pbr_t g66 ?_;(conv=>whnf);refine pbr_t g66 ?_;(conv=>whnf);cases h63;exact ⟨(.cons rfl (.cons rfl (.cons rfl (.cons rfl (.cons rfl (.cons rfl .nil)))))), rfl⟩
                    · (conv=>whnf);refine pbr_f g66 ?_;(conv=>whnf);refine pbr_f g66 ?_;(conv=>whnf);refine pbr_f g66 ?_;(conv=>whnf);refine pbr_f g66 ?_;(conv=>whnf);refine pbr_f g66 ?_;(conv=>whnf);cases h63;exact ⟨(.cons rfl (.cons rfl (.cons rfl (.cons rfl (.cons rfl (.cons rfl .nil)))))), rfl⟩
                  · refine pw_cond ?_;(conv=>whnf);refine pbr_oite h59 (fun g67 h59 => ?_) (fun g67 h59 => ?_)
                    · (conv=>whnf);refine pw_ops ?_;refine po_all ?_;(conv=>whnf);cases h59;exact ⟨(.cons rfl (.cons rfl (.cons rfl (.cons rfl (.cons rfl .nil))))), rfl⟩
                    · (conv=>whnf);refine pw_skip ?_;(conv=>whnf);cases h59;exact ⟨(.cons rfl (.cons rfl (.cons rfl (.cons rfl (.cons rfl .nil))))), rfl⟩
                · refine pw_seq ?_;refine pw_so ?_;refine po_all ?_;(conv=>whnf);refine pw_cond ?_;(conv=>whnf);refine pbr_oite H (fun g68 H => ?_) (fun g68 H => ?_)
                  · (conv=>whnf);refine pw_so ?_;refine po_ops 4 ?_;(conv=>whnf);obtain ⟨r69, h70, H⟩ := obnd_some H;refine po_seg (τ := Bool) 4 (fun e => ⟨[(104, (.bool e))], ⟨2, [(1, .rw [(.int .i64 y22.1), (.int .i64 y22.2.1), (.int .i64 y22.2.2.1)]), (0, .rw [(.int .i64 a0), (.int .i64 a1)])], false⟩⟩) r69 ?_ ?_
                    · refine po_all ?_;(conv=>whnf);refine pbr_oite h70 (fun g71 h70 => ?_) (fun g71 h70 => ?_)
                      · (conv=>whnf);refine pbr_t g71 ?_;(conv=>whnf);refine pbr_t g71 ?_;(conv=>whnf);refine pbr_t g71 ?_;(conv=>whnf);cases h70;exact ⟨(.cons rfl .nil), rfl⟩
                      · (conv=>whnf);refine pbr_f g71 ?_;(conv=>whnf);refine pbr_f g71 ?_;(conv=>whnf);refine pbr_f g71 ?_;(conv=>whnf);cases h70;exact ⟨(.cons rfl .nil), rfl⟩
                    · refine po_all ?_;(conv=>whnf);refine pw_ret ?_;(conv=>whnf);cases H; rfl
                  · (conv=>whnf);refine pw_skip ?_;(conv=>whnf);refine pw_sd ?_;(conv=>whnf);refine pbr_oite H (fun g72 H => ?_) (fun g72 H => ?_)
                    · (conv=>whnf);refine pbr_t g72 ?_;(conv=>whnf);refine pbr_t g72 ?_;(conv=>whnf);refine ⟨?_, trivial⟩;(conv=>whnf);refine pbr_t g72 ?_;(conv=>whnf);obtain ⟨y73, h74, H⟩ := obnd_some H;refine (c205 h74).go ?_;(conv=>whnf);refine ⟨by repeat (first | exact trivial | refine And.intro rfl ?_), ?_⟩;(conv=>whnf);refine pbr_t g72 ?_;(conv=>whnf);refine pbr_t g72 ?_;(conv=>whnf);refine pw_ret ?_;(conv=>whnf);cases H; rfl
                    · (conv=>whnf);refine pbr_f g72 ?_;(conv=>whnf);refine pbr_f g72 ?_;(conv=>whnf);refine ⟨?_, trivial⟩;(conv=>whnf);refine pbr_f g72 ?_;(conv=>whnf);refine pbr_f g72 ?_;(conv=>whnf);refine pbr_f g72 ?_;(conv=>whnf);refine pw_ret ?_;(conv=>whnf);cases H; rfl

/-- guidevane/guidevanelaw08.DispatchSums -/
noncomputable def l197_1 [LO] (a2 : List Int) (a3 : List Int) (y65 : (List Int) × Int) (a1 : Int) (e113 : Int × Int × Int × Int) : Option ((Int × Int × Int × Int) ⊕ ((Int × Int) ⊕ Bool)) :=
  oite ((ilt e113.2.2.2 ((a2.map eI).length : Int))) (
   ogrd ((ile 0 e113.2.2.2)) (
   obnd (a2[e113.2.2.2.toNat]?) fun (x118 : Int) =>
   obnd (a3[e113.2.2.2.toNat]?) fun (x119 : Int) =>
   obnd (f109 x118) fun (y120 : Int) =>
   obnd (f109 x119) fun (y122 : Int) =>
   obnd (
    obnd (y65.1[e113.2.2.2.toNat]?) fun (x128 : Int) =>
    obnd (f15 x128 (IntKind.i64.wrap (e113.2.2.1 - a1)) (IntKind.i64.wrap (e113.2.2.1 + a1))) fun (y129 : Bool) =>
    oite (!y129) (
     some true
      ) (
     obnd (y65.1[e113.2.2.2.toNat]?) fun (x132 : Int) =>
     obnd (a2[e113.2.2.2.toNat]?) fun (x133 : Int) =>
     oite ((!(ieq x132 x133))) (
      obnd (y65.1[e113.2.2.2.toNat]?) fun (x135 : Int) =>
      obnd (f109 (IntKind.i64.wrap (x135 - e113.2.2.1))) fun (y136 : Int) =>
      some (!(ieq y136 a1))
       ) (
      some false
       )
      )
     ) fun (r124 : Bool) =>
   oite r124 (
    some (.inr (.inr (false)))
     ) (
    obnd (y65.1[e113.2.2.2.toNat]?) fun (x140 : Int) =>
    some (.inl (((IntKind.i64.wrap (e113.1 + y120)), (IntKind.i64.wrap (e113.2.1 + y122)), x140, (IntKind.i64.wrap (e113.2.2.2 + (1 : Int))))))
     )
   )
    ) (
   some (.inr (.inl (e113.1, e113.2.1)))
    )
noncomputable def l197_2 [LO] (a2 : List Int) (e162 : (List Int) × Int) : Option (((List Int) × Int) ⊕ ((List Int))) :=
  oite ((ilt e162.2 (80 : Int))) (
   obnd (a2[(0 : Int).toNat]?) fun (x166 : Int) =>
   ogrd (fits 8 (e162.1.length + ([x166] : List Int).length)) (
   some (.inl (((e162.1 ++ ([x166] : List Int)), (IntKind.i64.wrap (e162.2 + (1 : Int))))))
   )
    ) (
   some (.inr (e162.1))
    )
noncomputable def f197 [LO]  (a0 : Int) (a1 : Int) (a2 : List Int) (a3 : List Int) : Option Bool :=
  obnd (f198) fun (y1 : Bool) =>
  oite (!y1) (
   some false
    ) (
   obnd (
    obnd (
     oite ((ilt (80 : Int) ((a2.map eI).length : Int))) (
      some true
       ) (
      some (!(ieq ((a3.map eI).length : Int) ((a2.map eI).length : Int)))
       )
      ) fun (r8 : Bool) =>
    obnd (
     oite r8 (
      some true
       ) (
      obnd (f203 a2) fun (y14 : Int) =>
      some (!(ieq y14 (0 : Int)))
       )
      ) fun (r11 : Bool) =>
    obnd (
     oite r11 (
      some true
       ) (
      obnd (f203 a3) fun (y19 : Int) =>
      some (!(ieq y19 (0 : Int)))
       )
      ) fun (r16 : Bool) =>
    oite r16 (
     some true
      ) (
     obnd (f202 a0 a1) fun (y22 : Int) =>
     some (!(ieq y22 (0 : Int)))
      )
     ) fun (r4 : Bool) =>
   oite r4 (
    some true
     ) (
    obnd (f38 a2) fun (y25 : (List Int)) =>
    obnd (f38 a3) fun (y27 : (List Int)) =>
    obnd (f201 y25 y27) fun (y29 : Int × Int × Int × Int) =>
    obnd (
     obnd (oslH a2 (IntKind.i64.wrap (((a2.map eI).length : Int).tdiv (2 : Int)))) fun (m35 : List Int) =>
     obnd (oslH a3 (IntKind.i64.wrap (((a2.map eI).length : Int).tdiv (2 : Int)))) fun (m38 : List Int) =>
     obnd (f38 m35) fun (y41 : (List Int)) =>
     obnd (f38 m38) fun (y43 : (List Int)) =>
     obnd (f201 y41 y43) fun (y45 : Int × Int × Int × Int) =>
     some (y45.2.2.2, y45.1, y45.2.1, y45.2.2.1)
      ) fun (r31 : Int × Int × Int × Int) =>
    obnd (
     obnd (oslL a2 (IntKind.i64.wrap (((a2.map eI).length : Int).tdiv (2 : Int)))) fun (m51 : List Int) =>
     obnd (oslL a3 (IntKind.i64.wrap (((a2.map eI).length : Int).tdiv (2 : Int)))) fun (m54 : List Int) =>
     obnd (f38 m51) fun (y57 : (List Int)) =>
     obnd (f38 m54) fun (y59 : (List Int)) =>
     obnd (f201 y57 y59) fun (y61 : Int × Int × Int × Int) =>
     some (y61.2.2.2, y61.1, y61.2.1, y61.2.2.1)
      ) fun (r47 : Int × Int × Int × Int) =>
    obnd (f38 a2) fun (y63 : (List Int)) =>
    obnd (f200 a0 a1 y63) fun (y65 : (List Int) × Int) =>
    obnd (f38 a2) fun (y67 : (List Int)) =>
    obnd (f38 a2) fun (y69 : (List Int)) =>
    obnd (f201 y67 y69) fun (y71 : Int × Int × Int × Int) =>
    obnd (
     obnd (
      oite ((!(ieq y29.2.2.2 (0 : Int)))) (
       some true
        ) (
       some (!(ieq r31.1 (0 : Int)))
        )
       ) fun (r77 : Bool) =>
     obnd (
      oite r77 (
       some true
        ) (
       some (!(ieq r47.1 (0 : Int)))
        )
       ) fun (r80 : Bool) =>
     obnd (
      oite r80 (
       some true
        ) (
       some (!(ieq y65.2 (0 : Int)))
        )
       ) fun (r83 : Bool) =>
     obnd (
      oite r83 (
       some true
        ) (
       some (!(ieq y71.2.2.2 (0 : Int)))
        )
       ) fun (r86 : Bool) =>
     oite r86 (
      some true
       ) (
      some (!(ieq ((y65.1.map eI).length : Int) ((a2.map eI).length : Int)))
       )
      ) fun (r73 : Bool) =>
    oite r73 (
     some false
      ) (
     obnd (
      obnd (
       oite ((!(ieq y29.1 (IntKind.i64.wrap (r31.2.1 + r47.2.1))))) (
        some true
         ) (
        some (!(ieq y29.2.1 (IntKind.i64.wrap (r31.2.2.1 + r47.2.2.1))))
         )
        ) fun (r95 : Bool) =>
      obnd (
       oite r95 (
        some true
         ) (
        some (!(ieq y29.2.2.1 (IntKind.i64.wrap (r31.2.2.2 + r47.2.2.2))))
         )
        ) fun (r98 : Bool) =>
      obnd (
       oite r98 (
        some true
         ) (
        some (ilt y29.1 (0 : Int))
         )
        ) fun (r101 : Bool) =>
      obnd (
       oite r101 (
        some true
         ) (
        some (ilt y29.2.1 (0 : Int))
         )
        ) fun (r104 : Bool) =>
      oite r104 (
       some true
        ) (
       some (ilt y29.2.2.1 (0 : Int))
        )
       ) fun (r91 : Bool) =>
     oite r91 (
      some false
       ) (
      obndS (
       oloop (τ := Int × Int × Int × Int) (ρ := (Int × Int) ⊕ Bool) (l197_1 a2 a3 y65 a1) (((0 : Int), (0 : Int), a0, (0 : Int)))
        ) fun (r142 : Int × Int) =>
      obnd (
       obnd (
        oite ((!(ieq (IntKind.i64.wrap (y29.1 + y29.2.1)) r142.1))) (
         some true
          ) (
         some (!(ieq (IntKind.i64.wrap (y29.1 + y29.2.2.1)) r142.2))
          )
         ) fun (r147 : Bool) =>
       oite r147 (
        some true
         ) (
        some (!((ieq y71.1 r142.1) && ((ieq y71.2.1 (0 : Int)) && ((ieq y71.2.2.1 (0 : Int)) && true))))
         )
        ) fun (r143 : Bool) =>
      oite r143 (
       some false
        ) (
       obnd (
        oite ((ieq a1 (0 : Int))) (
         some true
          ) (
         some (ieq ((a2.map eI).length : Int) (0 : Int))
          )
         ) fun (r152 : Bool) =>
       oite r152 (
        some true
         ) (
        obnd (
         oloop (τ := (List Int) × Int) (ρ := (List Int)) (l197_2 a2) ((([] : List Int), (0 : Int)))
          ) fun (r158 : (List Int)) =>
        obnd (f200 a0 a1 r158) fun (y168 : (List Int) × Int) =>
        oite ((ieq y168.2 (0 : Int))) (
         oite ((ieq ((y168.1.map eI).length : Int) (80 : Int))) (
          obnd (a2[(0 : Int).toNat]?) fun (x172 : Int) =>
          obnd (f109 (IntKind.i64.wrap (x172 - a0))) fun (y173 : Int) =>
          oite ((ilt (IntKind.i64.wrap ((80 : Int) * a1)) y173)) (
           some true
            ) (
           obnd (y168.1[(79 : Int).toNat]?) fun (x176 : Int) =>
           obnd (a2[(0 : Int).toNat]?) fun (x177 : Int) =>
           some (ieq x176 x177)
            )
           ) (
          some false
           )
          ) (
         some false
          )
         )
        )
       )
      )
     )
    )
set_option maxHeartbeats 1000000 in
theorem c197 [LO]  {a0 : Int} {a1 : Int} {a2 : List Int} {a3 : List Int} {x : Bool} (H : f197 a0 a1 a2 a3 = some x) : ICalls E 197 [(.agg ⟨[(.int .i64 a0), (.int .i64 a1)]⟩), (VS 1 (a2.map eI)), (VS 1 (a3.map eI))] AHeap.none fun v _ => v = (.bool x) := by
  refine icalls_fn (pfnw ?_); unfold f197 at H;(conv=>whnf);refine pw_so ?_;refine po_all ?_;(conv=>whnf);refine pw_seq ?_;refine pw_so ?_;refine po_all ?_;(conv=>whnf);obtain ⟨y1, h2, H⟩ := obnd_some H;refine (c198 h2).go ?_;(conv=>whnf);refine pw_cond ?_;(conv=>whnf);refine pbr_oite H (fun g3 H => ?_) (fun g3 H => ?_)
  · (conv=>whnf);refine pw_so ?_;refine po_all ?_;(conv=>whnf);refine pw_ret ?_;(conv=>whnf);cases H; rfl
  · (conv=>whnf);refine pw_skip ?_;(conv=>whnf);refine pw_seq ?_;obtain ⟨r4, h5, H⟩ := obnd_some H;refine pw_join (ρ := Bool) (fun e => ⟨[(1, (VS 1 (a2.map eI))), (2, (VS 1 (a3.map eI))), (3, (.pointer (some ⟨0, 0, none⟩))), (55, (.bool e))], ⟨1, [(0, .rw [(.int .i64 a0), (.int .i64 a1)])], false⟩⟩) r4 ?_ ?_
    · refine pw_ops ?_;refine po_ops 4 ?_;(conv=>whnf);obtain ⟨r8, h9, h5⟩ := obnd_some h5;refine po_seg (τ := Bool) 6 (fun e => ⟨[(1, (VS 1 (a2.map eI))), (2, (VS 1 (a3.map eI))), (3, (.pointer (some ⟨0, 0, none⟩))), (37, (.bool e))], ⟨1, [(0, .rw [(.int .i64 a0), (.int .i64 a1)])], false⟩⟩) r8 ?_ ?_
      · refine po_all ?_;(conv=>whnf);refine pbr_oite h9 (fun g10 h9 => ?_) (fun g10 h9 => ?_)
        · (conv=>whnf);refine pbr_t g10 ?_;(conv=>whnf);refine pbr_t g10 ?_;(conv=>whnf);refine pbr_t g10 ?_;(conv=>whnf);refine pbr_t g10 ?_;(conv=>whnf);refine pbr_t g10 ?_;(conv=>whnf);cases h9;exact ⟨(.cons rfl (.cons rfl (.cons rfl (.cons rfl .nil)))), rfl⟩
        · (conv=>whnf);refine pbr_f g10 ?_;(conv=>whnf);refine pbr_f g10 ?_;(conv=>whnf);refine pbr_f g10 ?_;(conv=>whnf);refine pbr_f g10 ?_;(conv=>whnf);refine pbr_f g10 ?_;(conv=>whnf);cases h9;exact ⟨(.cons rfl (.cons rfl (.cons rfl (.cons rfl .nil)))), rfl⟩
      · refine po_ops 1 ?_;(conv=>whnf);obtain ⟨r11, h12, h5⟩ := obnd_some h5;refine po_seg (τ := Bool) 4 (fun e => ⟨[(1, (VS 1 (a2.map eI))), (2, (VS 1 (a3.map eI))), (3, (.pointer (some ⟨0, 0, none⟩))), (42, (.bool e))], ⟨1, [(0, .rw [(.int .i64 a0), (.int .i64 a1)])], false⟩⟩) r11 ?_ ?_
        · refine po_all ?_;(conv=>whnf);refine pbr_oite h12 (fun g13 h12 => ?_) (fun g13 h12 => ?_)
          · (conv=>whnf);refine pbr_t g13 ?_;(conv=>whnf);refine pbr_t g13 ?_;(conv=>whnf);refine pbr_t g13 ?_;(conv=>whnf);cases h12;exact ⟨(.cons rfl (.cons rfl (.cons rfl (.cons rfl .nil)))), rfl⟩
          · (conv=>whnf);refine pbr_f g13 ?_;(conv=>whnf);obtain ⟨y14, h15, h12⟩ := obnd_some h12;refine (c203 h15).go ?_;(conv=>whnf);refine pbr_f g13 ?_;(conv=>whnf);refine pbr_f g13 ?_;(conv=>whnf);cases h12;exact ⟨(.cons rfl (.cons rfl (.cons rfl (.cons rfl .nil)))), rfl⟩
        · refine po_ops 1 ?_;(conv=>whnf);obtain ⟨r16, h17, h5⟩ := obnd_some h5;refine po_seg (τ := Bool) 4 (fun e => ⟨[(1, (VS 1 (a2.map eI))), (2, (VS 1 (a3.map eI))), (3, (.pointer (some ⟨0, 0, none⟩))), (47, (.bool e))], ⟨1, [(0, .rw [(.int .i64 a0), (.int .i64 a1)])], false⟩⟩) r16 ?_ ?_
          · refine po_all ?_;(conv=>whnf);refine pbr_oite h17 (fun g18 h17 => ?_) (fun g18 h17 => ?_)
            · (conv=>whnf);refine pbr_t g18 ?_;(conv=>whnf);refine pbr_t g18 ?_;(conv=>whnf);refine pbr_t g18 ?_;(conv=>whnf);cases h17;exact ⟨(.cons rfl (.cons rfl (.cons rfl (.cons rfl .nil)))), rfl⟩
            · (conv=>whnf);refine pbr_f g18 ?_;(conv=>whnf);obtain ⟨y19, h20, h17⟩ := obnd_some h17;refine (c203 h20).go ?_;(conv=>whnf);refine pbr_f g18 ?_;(conv=>whnf);refine pbr_f g18 ?_;(conv=>whnf);cases h17;exact ⟨(.cons rfl (.cons rfl (.cons rfl (.cons rfl .nil)))), rfl⟩
          · refine po_all ?_;(conv=>whnf);refine pbr_oite h5 (fun g21 h5 => ?_) (fun g21 h5 => ?_)
            · (conv=>whnf);refine pbr_t g21 ?_;(conv=>whnf);refine pbr_t g21 ?_;(conv=>whnf);refine pbr_t g21 ?_;(conv=>whnf);refine pbr_t g21 ?_;(conv=>whnf);refine pbr_t g21 ?_;(conv=>whnf);refine pbr_t g21 ?_;(conv=>whnf);cases h5;exact ⟨(.cons rfl (.cons rfl (.cons rfl (.cons rfl .nil)))), rfl⟩
            · (conv=>whnf);refine pbr_f g21 ?_;(conv=>whnf);refine pbr_f g21 ?_;(conv=>whnf);refine pbr_f g21 ?_;(conv=>whnf);refine pbr_f g21 ?_;(conv=>whnf);obtain ⟨y22, h23, h5⟩ := obnd_some h5;refine (c202 h23).go ?_;(conv=>whnf);refine pbr_f g21 ?_;(conv=>whnf);refine pbr_f g21 ?_;(conv=>whnf);cases h5;exact ⟨(.cons rfl (.cons rfl (.cons rfl (.cons rfl .nil)))), rfl⟩
    · refine pw_cond ?_;(conv=>whnf);refine pbr_oite H (fun g24 H => ?_) (fun g24 H => ?_)
      · (conv=>whnf);refine pw_so ?_;refine po_all ?_;(conv=>whnf);refine pw_ret ?_;(conv=>whnf);cases H; rfl
      · (conv=>whnf);refine pw_skip ?_;(conv=>whnf);refine pw_so ?_;refine po_all ?_;(conv=>whnf);obtain ⟨y25, h26, H⟩ := obnd_some H;refine (c38 h26).go ?_;(conv=>whnf);obtain ⟨y27, h28, H⟩ := obnd_some H;refine (c38 h28).go ?_;(conv=>whnf);obtain ⟨y29, h30, H⟩ := obnd_some H;refine (c201 h30).go ?_;(conv=>whnf);refine pw_so ?_;refine po_all ?_;(conv=>whnf);obtain ⟨r31, h32, H⟩ := obnd_some H;refine pw_join (ρ := Int × Int × Int × Int) (fun e => ⟨[(1, (VS 1 (a2.map eI))), (2, (VS 1 (a3.map eI))), (3, (.pointer (some ⟨0, 0, none⟩))), (7, (.pointer (some ⟨1, 0, none⟩))), (8, (.int .i64 y29.2.2.2)), (9, (.int .i64 (IntKind.i64.wrap (((a2.map eI).length : Int).tdiv (2 : Int))))), (10, (.pointer (some ⟨2, 0, none⟩))), (11, (.int .i64 e.1))], ⟨3, [(2, .rw [(.int .i64 e.2.1), (.int .i64 e.2.2.1), (.int .i64 e.2.2.2)]), (1, .rw [(.int .i64 y29.1), (.int .i64 y29.2.1), (.int .i64 y29.2.2.1)]), (0, .rw [(.int .i64 a0), (.int .i64 a1)])], false⟩⟩) r31 ?_ ?_
        · refine pw_draw ?_;(conv=>whnf);refine oslH_o (f := eI) h32 (fun m35 _ h32 h36 h37 => ?_);refine pbr_t (ile_t h36.1) ?_;(conv=>whnf);refine pbr_t (ile_t (by simpa only [List.length_map] using h36.2)) ?_; rw [h37];(conv=>whnf);refine oslH_o (f := eI) h32 (fun m38 _ h32 h39 h40 => ?_);refine pbr_t (ile_t h39.1) ?_;(conv=>whnf);refine pbr_t (ile_t (by simpa only [List.length_map] using h39.2)) ?_; rw [h40];(conv=>whnf);refine ⟨?_, ?_⟩
          · (conv=>whnf);obtain ⟨y41, h42, h32⟩ := obnd_some h32;refine (c38 h42).go ?_;(conv=>whnf);refine ⟨by repeat (first | exact trivial | refine And.intro rfl ?_), ?_⟩;(conv=>whnf);refine ⟨?_, ?_⟩
            · (conv=>whnf);obtain ⟨y43, h44, h32⟩ := obnd_some h32;refine (c38 h44).go ?_;(conv=>whnf);refine ⟨by repeat (first | exact trivial | refine And.intro rfl ?_), ?_⟩;(conv=>whnf);refine ⟨?_, ?_⟩
              · (conv=>whnf);obtain ⟨y45, h46, h32⟩ := obnd_some h32;refine (c201 h46).go ?_;(conv=>whnf);refine ⟨by repeat (first | exact trivial | refine And.intro rfl ?_), ?_⟩;(conv=>whnf);refine ⟨?_, trivial⟩;(conv=>whnf);refine ⟨by repeat (first | exact trivial | refine And.intro rfl ?_), ?_⟩;(conv=>whnf);refine ⟨?_, trivial⟩;(conv=>whnf);refine ⟨by repeat (first | exact trivial | refine And.intro rfl ?_), ?_⟩;(conv=>whnf);cases h32;exact ⟨(.cons rfl (.cons rfl (.cons rfl (.cons rfl (.cons rfl (.cons rfl (.cons rfl (.cons rfl .nil)))))))), rfl⟩
              · obtain ⟨y45, h46, h32⟩ := obnd_some h32;(conv=>whnf);refine ⟨?_, trivial⟩;(conv=>whnf);refine ⟨by repeat (first | exact trivial | refine And.intro rfl ?_), ?_⟩;(conv=>whnf);refine ⟨?_, trivial⟩;(conv=>whnf);refine (c201 h46).go ?_;(conv=>whnf);refine ⟨by repeat (first | exact trivial | refine And.intro rfl ?_), ?_⟩;(conv=>whnf);refine ⟨?_, trivial⟩;(conv=>whnf);refine ⟨by repeat (first | exact trivial | refine And.intro rfl ?_), ?_⟩;(conv=>whnf);cases h32;exact ⟨(.cons rfl (.cons rfl (.cons rfl (.cons rfl (.cons rfl (.cons rfl (.cons rfl (.cons rfl .nil)))))))), rfl⟩
            · obtain ⟨y43, h44, h32⟩ := obnd_some h32;obtain ⟨y45, h46, h32⟩ := obnd_some h32;(conv=>whnf);refine ⟨?_, trivial⟩;(conv=>whnf);refine ⟨by repeat (first | exact trivial | refine And.intro rfl ?_), ?_⟩;(conv=>whnf);refine ⟨?_, trivial⟩;(conv=>whnf);refine (c38 h44).go ?_;(conv=>whnf);refine ⟨by repeat (first | exact trivial | refine And.intro rfl ?_), ?_⟩;(conv=>whnf);refine ⟨?_, trivial⟩;(conv=>whnf);refine (c201 h46).go ?_;(conv=>whnf);refine ⟨by repeat (first | exact trivial | refine And.intro rfl ?_), ?_⟩;(conv=>whnf);refine ⟨?_, trivial⟩;(conv=>whnf);refine ⟨by repeat (first | exact trivial | refine And.intro rfl ?_), ?_⟩
              (conv=>whnf);cases h32;exact ⟨(.cons rfl (.cons rfl (.cons rfl (.cons rfl (.cons rfl (.cons rfl (.cons rfl (.cons rfl .nil)))))))), rfl⟩
          · obtain ⟨y41, h42, h32⟩ := obnd_some h32;obtain ⟨y43, h44, h32⟩ := obnd_some h32;obtain ⟨y45, h46, h32⟩ := obnd_some h32;(conv=>whnf);refine ⟨?_, trivial⟩;(conv=>whnf);refine ⟨by repeat (first | exact trivial | refine And.intro rfl ?_), ?_⟩;(conv=>whnf);refine ⟨?_, trivial⟩;(conv=>whnf);refine (c38 h42).go ?_;(conv=>whnf);refine ⟨by repeat (first | exact trivial | refine And.intro rfl ?_), ?_⟩;(conv=>whnf);refine ⟨?_, trivial⟩;(conv=>whnf);refine (c38 h44).go ?_;(conv=>whnf);refine ⟨by repeat (first | exact trivial | refine And.intro rfl ?_), ?_⟩;(conv=>whnf);refine ⟨?_, trivial⟩;(conv=>whnf);refine (c201 h46).go ?_
            (conv=>whnf);refine ⟨by repeat (first | exact trivial | refine And.intro rfl ?_), ?_⟩;(conv=>whnf);refine ⟨?_, trivial⟩;(conv=>whnf);refine ⟨by repeat (first | exact trivial | refine And.intro rfl ?_), ?_⟩;(conv=>whnf);cases h32;exact ⟨(.cons rfl (.cons rfl (.cons rfl (.cons rfl (.cons rfl (.cons rfl (.cons rfl (.cons rfl .nil)))))))), rfl⟩
        · obtain ⟨r47, h48, H⟩ := obnd_some H;refine pw_join (ρ := Int × Int × Int × Int) (fun e => ⟨[(1, (VS 1 (a2.map eI))), (2, (VS 1 (a3.map eI))), (3, (.pointer (some ⟨0, 0, none⟩))), (7, (.pointer (some ⟨1, 0, none⟩))), (8, (.int .i64 y29.2.2.2)), (10, (.pointer (some ⟨2, 0, none⟩))), (11, (.int .i64 r31.1)), (12, (.pointer (some ⟨3, 0, none⟩))), (13, (.int .i64 e.1))], ⟨4, [(3, .rw [(.int .i64 e.2.1), (.int .i64 e.2.2.1), (.int .i64 e.2.2.2)]), (2, .rw [(.int .i64 r31.2.1), (.int .i64 r31.2.2.1), (.int .i64 r31.2.2.2)]), (1, .rw [(.int .i64 y29.1), (.int .i64 y29.2.1), (.int .i64 y29.2.2.1)]), (0, .rw [(.int .i64 a0), (.int .i64 a1)])], false⟩⟩) r47 ?_ ?_
          · refine pw_draw ?_;(conv=>whnf);refine oslL_o (f := eI) h48 (fun m51 _ h48 h52 h53 => ?_);refine pbr_t (ile_t h52.1) ?_;(conv=>whnf);refine pbr_t (ile_t (by simpa only [List.length_map] using h52.2)) ?_; rw [h53];(conv=>whnf);refine oslL_o (f := eI) h48 (fun m54 _ h48 h55 h56 => ?_);refine pbr_t (ile_t h55.1) ?_;(conv=>whnf);refine pbr_t (ile_t (by simpa only [List.length_map] using h55.2)) ?_; rw [h56];(conv=>whnf);refine ⟨?_, ?_⟩
            · (conv=>whnf);obtain ⟨y57, h58, h48⟩ := obnd_some h48;refine (c38 h58).go ?_;(conv=>whnf);refine ⟨by repeat (first | exact trivial | refine And.intro rfl ?_), ?_⟩;(conv=>whnf);refine ⟨?_, ?_⟩
              · (conv=>whnf);obtain ⟨y59, h60, h48⟩ := obnd_some h48;refine (c38 h60).go ?_;(conv=>whnf);refine ⟨by repeat (first | exact trivial | refine And.intro rfl ?_), ?_⟩;(conv=>whnf);refine ⟨?_, ?_⟩
                · (conv=>whnf);obtain ⟨y61, h62, h48⟩ := obnd_some h48;refine (c201 h62).go ?_;(conv=>whnf);refine ⟨by repeat (first | exact trivial | refine And.intro rfl ?_), ?_⟩;(conv=>whnf);refine ⟨?_, trivial⟩;(conv=>whnf);refine ⟨by repeat (first | exact trivial | refine And.intro rfl ?_), ?_⟩;(conv=>whnf);refine ⟨?_, trivial⟩;(conv=>whnf);refine ⟨by repeat (first | exact trivial | refine And.intro rfl ?_), ?_⟩;(conv=>whnf);cases h48;exact ⟨(.cons rfl (.cons rfl (.cons rfl (.cons rfl (.cons rfl (.cons rfl (.cons rfl (.cons rfl (.cons rfl .nil))))))))), rfl⟩
                · obtain ⟨y61, h62, h48⟩ := obnd_some h48;(conv=>whnf);refine ⟨?_, trivial⟩;(conv=>whnf);refine ⟨by repeat (first | exact trivial | refine And.intro rfl ?_), ?_⟩;(conv=>whnf);refine ⟨?_, trivial⟩;(conv=>whnf);refine (c201 h62).go ?_;(conv=>whnf);refine ⟨by repeat (first | exact trivial | refine And.intro rfl ?_), ?_⟩;(conv=>whnf);refine ⟨?_, trivial⟩;(conv=>whnf);refine ⟨by repeat (first | exact trivial | refine And.intro rfl ?_), ?_⟩;(conv=>whnf);cases h48;exact ⟨(.cons rfl (.cons rfl (.cons rfl (.cons rfl (.cons rfl (.cons rfl (.cons rfl (.cons rfl (.cons rfl .nil))))))))), rfl⟩
              · obtain ⟨y59, h60, h48⟩ := obnd_some h48;obtain ⟨y61, h62, h48⟩ := obnd_some h48;(conv=>whnf);refine ⟨?_, trivial⟩;(conv=>whnf);refine ⟨by repeat (first | exact trivial | refine And.intro rfl ?_), ?_⟩;(conv=>whnf);refine ⟨?_, trivial⟩;(conv=>whnf);refine (c38 h60).go ?_;(conv=>whnf);refine ⟨by repeat (first | exact trivial | refine And.intro rfl ?_), ?_⟩;(conv=>whnf);refine ⟨?_, trivial⟩;(conv=>whnf);refine (c201 h62).go ?_;(conv=>whnf);refine ⟨by repeat (first | exact trivial | refine And.intro rfl ?_), ?_⟩;(conv=>whnf);refine ⟨?_, trivial⟩;(conv=>whnf);refine ⟨by repeat (first | exact trivial | refine And.intro rfl ?_), ?_⟩
                (conv=>whnf);cases h48;exact ⟨(.cons rfl (.cons rfl (.cons rfl (.cons rfl (.cons rfl (.cons rfl (.cons rfl (.cons rfl (.cons rfl .nil))))))))), rfl⟩
            · obtain ⟨y57, h58, h48⟩ := obnd_some h48;obtain ⟨y59, h60, h48⟩ := obnd_some h48;obtain ⟨y61, h62, h48⟩ := obnd_some h48;(conv=>whnf);refine ⟨?_, trivial⟩;(conv=>whnf);refine ⟨by repeat (first | exact trivial | refine And.intro rfl ?_), ?_⟩;(conv=>whnf);refine ⟨?_, trivial⟩;(conv=>whnf);refine (c38 h58).go ?_;(conv=>whnf);refine ⟨by repeat (first | exact trivial | refine And.intro rfl ?_), ?_⟩;(conv=>whnf);refine ⟨?_, trivial⟩;(conv=>whnf);refine (c38 h60).go ?_;(conv=>whnf);refine ⟨by repeat (first | exact trivial | refine And.intro rfl ?_), ?_⟩;(conv=>whnf);refine ⟨?_, trivial⟩;(conv=>whnf);refine (c201 h62).go ?_
              (conv=>whnf);refine ⟨by repeat (first | exact trivial | refine And.intro rfl ?_), ?_⟩;(conv=>whnf);refine ⟨?_, trivial⟩;(conv=>whnf);refine ⟨by repeat (first | exact trivial | refine And.intro rfl ?_), ?_⟩;(conv=>whnf);cases h48;exact ⟨(.cons rfl (.cons rfl (.cons rfl (.cons rfl (.cons rfl (.cons rfl (.cons rfl (.cons rfl (.cons rfl .nil))))))))), rfl⟩
          · refine pw_sd ?_;(conv=>whnf);refine ⟨?_, trivial⟩;(conv=>whnf);obtain ⟨y63, h64, H⟩ := obnd_some H;refine (c38 h64).go ?_;(conv=>whnf);refine ⟨by repeat (first | exact trivial | refine And.intro rfl ?_), ?_⟩;(conv=>whnf);refine ⟨?_, trivial⟩;(conv=>whnf);obtain ⟨y65, h66, H⟩ := obnd_some H;refine (c200 h66).go ?_;(conv=>whnf);refine ⟨by repeat (first | exact trivial | refine And.intro rfl ?_), ?_⟩;(conv=>whnf);refine pw_so ?_;refine po_all ?_;(conv=>whnf);obtain ⟨y67, h68, H⟩ := obnd_some H;refine (c38 h68).go ?_;(conv=>whnf);obtain ⟨y69, h70, H⟩ := obnd_some H;refine (c38 h70).go ?_;(conv=>whnf);obtain ⟨y71, h72, H⟩ := obnd_some H
            refine (c201 h72).go ?_;(conv=>whnf);refine pw_seq ?_;obtain ⟨r73, h74, H⟩ := obnd_some H;refine pw_join (ρ := Bool) (fun e => ⟨[(1, (VS 1 (a2.map eI))), (2, (VS 1 (a3.map eI))), (3, (.pointer (some ⟨0, 0, none⟩))), (7, (.pointer (some ⟨1, 0, none⟩))), (10, (.pointer (some ⟨2, 0, none⟩))), (12, (.pointer (some ⟨3, 0, none⟩))), (14, (VS 1 (y65.1.map eI))), (16, (.pointer (some ⟨4, 0, none⟩))), (133, (.bool e))], ⟨5, [(4, .rw [(.int .i64 y71.1), (.int .i64 y71.2.1), (.int .i64 y71.2.2.1)]), (3, .rw [(.int .i64 r47.2.1), (.int .i64 r47.2.2.1), (.int .i64 r47.2.2.2)]), (2, .rw [(.int .i64 r31.2.1), (.int .i64 r31.2.2.1), (.int .i64 r31.2.2.2)]), (1, .rw [(.int .i64 y29.1), (.int .i64 y29.2.1), (.int .i64 y29.2.2.1)]), (0, .rw [(.int .i64 a0), (.int .i64 a1)])], false⟩⟩) r73 ?_ ?_
            · refine pw_ops ?_;refine po_ops 3 ?_;(conv=>whnf);obtain ⟨r77, h78, h74⟩ := obnd_some h74;refine po_seg (τ := Bool) 3 (fun e => ⟨[(1, (VS 1 (a2.map eI))), (2, (VS 1 (a3.map eI))), (3, (.pointer (some ⟨0, 0, none⟩))), (7, (.pointer (some ⟨1, 0, none⟩))), (10, (.pointer (some ⟨2, 0, none⟩))), (12, (.pointer (some ⟨3, 0, none⟩))), (13, (.int .i64 r47.1)), (14, (VS 1 (y65.1.map eI))), (15, (.int .i64 y65.2)), (16, (.pointer (some ⟨4, 0, none⟩))), (17, (.int .i64 y71.2.2.2)), (114, (.bool e))], ⟨5, [(4, .rw [(.int .i64 y71.1), (.int .i64 y71.2.1), (.int .i64 y71.2.2.1)]), (3, .rw [(.int .i64 r47.2.1), (.int .i64 r47.2.2.1), (.int .i64 r47.2.2.2)]), (2, .rw [(.int .i64 r31.2.1), (.int .i64 r31.2.2.1), (.int .i64 r31.2.2.2)]), (1, .rw [(.int .i64 y29.1), (.int .i64 y29.2.1), (.int .i64 y29.2.2.1)]), (0, .rw [(.int .i64 a0), (.int .i64 a1)])], false⟩⟩) r77 ?_ ?_
              · refine po_all ?_;(conv=>whnf);refine pbr_oite h78 (fun g79 h78 => ?_) (fun g79 h78 => ?_)
                · (conv=>whnf);refine pbr_t g79 ?_;(conv=>whnf);refine pbr_t g79 ?_;(conv=>whnf);cases h78;exact ⟨(.cons rfl (.cons rfl (.cons rfl (.cons rfl (.cons rfl (.cons rfl (.cons rfl (.cons rfl (.cons rfl (.cons rfl (.cons rfl (.cons rfl .nil)))))))))))), rfl⟩
                · (conv=>whnf);refine pbr_f g79 ?_;(conv=>whnf);refine pbr_f g79 ?_;(conv=>whnf);cases h78;exact ⟨(.cons rfl (.cons rfl (.cons rfl (.cons rfl (.cons rfl (.cons rfl (.cons rfl (.cons rfl (.cons rfl (.cons rfl (.cons rfl (.cons rfl .nil)))))))))))), rfl⟩
              · refine po_ops 1 ?_;(conv=>whnf);obtain ⟨r80, h81, h74⟩ := obnd_some h74;refine po_seg (τ := Bool) 3 (fun e => ⟨[(1, (VS 1 (a2.map eI))), (2, (VS 1 (a3.map eI))), (3, (.pointer (some ⟨0, 0, none⟩))), (7, (.pointer (some ⟨1, 0, none⟩))), (10, (.pointer (some ⟨2, 0, none⟩))), (12, (.pointer (some ⟨3, 0, none⟩))), (14, (VS 1 (y65.1.map eI))), (15, (.int .i64 y65.2)), (16, (.pointer (some ⟨4, 0, none⟩))), (17, (.int .i64 y71.2.2.2)), (118, (.bool e))], ⟨5, [(4, .rw [(.int .i64 y71.1), (.int .i64 y71.2.1), (.int .i64 y71.2.2.1)]), (3, .rw [(.int .i64 r47.2.1), (.int .i64 r47.2.2.1), (.int .i64 r47.2.2.2)]), (2, .rw [(.int .i64 r31.2.1), (.int .i64 r31.2.2.1), (.int .i64 r31.2.2.2)]), (1, .rw [(.int .i64 y29.1), (.int .i64 y29.2.1), (.int .i64 y29.2.2.1)]), (0, .rw [(.int .i64 a0), (.int .i64 a1)])], false⟩⟩) r80 ?_ ?_
                · refine po_all ?_;(conv=>whnf);refine pbr_oite h81 (fun g82 h81 => ?_) (fun g82 h81 => ?_)
                  · (conv=>whnf);refine pbr_t g82 ?_;(conv=>whnf);refine pbr_t g82 ?_;(conv=>whnf);cases h81;exact ⟨(.cons rfl (.cons rfl (.cons rfl (.cons rfl (.cons rfl (.cons rfl (.cons rfl (.cons rfl (.cons rfl (.cons rfl (.cons rfl .nil))))))))))), rfl⟩
                  · (conv=>whnf);refine pbr_f g82 ?_;(conv=>whnf);refine pbr_f g82 ?_;(conv=>whnf);cases h81;exact ⟨(.cons rfl (.cons rfl (.cons rfl (.cons rfl (.cons rfl (.cons rfl (.cons rfl (.cons rfl (.cons rfl (.cons rfl (.cons rfl .nil))))))))))), rfl⟩
                · refine po_ops 1 ?_;(conv=>whnf);obtain ⟨r83, h84, h74⟩ := obnd_some h74;refine po_seg (τ := Bool) 3 (fun e => ⟨[(1, (VS 1 (a2.map eI))), (2, (VS 1 (a3.map eI))), (3, (.pointer (some ⟨0, 0, none⟩))), (7, (.pointer (some ⟨1, 0, none⟩))), (10, (.pointer (some ⟨2, 0, none⟩))), (12, (.pointer (some ⟨3, 0, none⟩))), (14, (VS 1 (y65.1.map eI))), (16, (.pointer (some ⟨4, 0, none⟩))), (17, (.int .i64 y71.2.2.2)), (122, (.bool e))], ⟨5, [(4, .rw [(.int .i64 y71.1), (.int .i64 y71.2.1), (.int .i64 y71.2.2.1)]), (3, .rw [(.int .i64 r47.2.1), (.int .i64 r47.2.2.1), (.int .i64 r47.2.2.2)]), (2, .rw [(.int .i64 r31.2.1), (.int .i64 r31.2.2.1), (.int .i64 r31.2.2.2)]), (1, .rw [(.int .i64 y29.1), (.int .i64 y29.2.1), (.int .i64 y29.2.2.1)]), (0, .rw [(.int .i64 a0), (.int .i64 a1)])], false⟩⟩) r83 ?_ ?_
                  · refine po_all ?_;(conv=>whnf);refine pbr_oite h84 (fun g85 h84 => ?_) (fun g85 h84 => ?_)
                    · (conv=>whnf);refine pbr_t g85 ?_;(conv=>whnf);refine pbr_t g85 ?_;(conv=>whnf);cases h84;exact ⟨(.cons rfl (.cons rfl (.cons rfl (.cons rfl (.cons rfl (.cons rfl (.cons rfl (.cons rfl (.cons rfl (.cons rfl .nil)))))))))), rfl⟩
                    · (conv=>whnf);refine pbr_f g85 ?_;(conv=>whnf);refine pbr_f g85 ?_;(conv=>whnf);cases h84;exact ⟨(.cons rfl (.cons rfl (.cons rfl (.cons rfl (.cons rfl (.cons rfl (.cons rfl (.cons rfl (.cons rfl (.cons rfl .nil)))))))))), rfl⟩
                  · refine po_ops 1 ?_;(conv=>whnf);obtain ⟨r86, h87, h74⟩ := obnd_some h74;refine po_seg (τ := Bool) 3 (fun e => ⟨[(1, (VS 1 (a2.map eI))), (2, (VS 1 (a3.map eI))), (3, (.pointer (some ⟨0, 0, none⟩))), (7, (.pointer (some ⟨1, 0, none⟩))), (10, (.pointer (some ⟨2, 0, none⟩))), (12, (.pointer (some ⟨3, 0, none⟩))), (14, (VS 1 (y65.1.map eI))), (16, (.pointer (some ⟨4, 0, none⟩))), (126, (.bool e))], ⟨5, [(4, .rw [(.int .i64 y71.1), (.int .i64 y71.2.1), (.int .i64 y71.2.2.1)]), (3, .rw [(.int .i64 r47.2.1), (.int .i64 r47.2.2.1), (.int .i64 r47.2.2.2)]), (2, .rw [(.int .i64 r31.2.1), (.int .i64 r31.2.2.1), (.int .i64 r31.2.2.2)]), (1, .rw [(.int .i64 y29.1), (.int .i64 y29.2.1), (.int .i64 y29.2.2.1)]), (0, .rw [(.int .i64 a0), (.int .i64 a1)])], false⟩⟩) r86 ?_ ?_
                    · refine po_all ?_;(conv=>whnf);refine pbr_oite h87 (fun g88 h87 => ?_) (fun g88 h87 => ?_)
                      · (conv=>whnf);refine pbr_t g88 ?_;(conv=>whnf);refine pbr_t g88 ?_;(conv=>whnf);cases h87;exact ⟨(.cons rfl (.cons rfl (.cons rfl (.cons rfl (.cons rfl (.cons rfl (.cons rfl (.cons rfl (.cons rfl .nil))))))))), rfl⟩
                      · (conv=>whnf);refine pbr_f g88 ?_;(conv=>whnf);refine pbr_f g88 ?_;(conv=>whnf);cases h87;exact ⟨(.cons rfl (.cons rfl (.cons rfl (.cons rfl (.cons rfl (.cons rfl (.cons rfl (.cons rfl (.cons rfl .nil))))))))), rfl⟩
                    · refine po_all ?_;(conv=>whnf);refine pbr_oite h74 (fun g89 h74 => ?_) (fun g89 h74 => ?_)
                      · (conv=>whnf);refine pbr_t g89 ?_;(conv=>whnf);refine pbr_t g89 ?_;(conv=>whnf);refine pbr_t g89 ?_;(conv=>whnf);refine pbr_t g89 ?_;(conv=>whnf);refine pbr_t g89 ?_;(conv=>whnf);cases h74;exact ⟨(.cons rfl (.cons rfl (.cons rfl (.cons rfl (.cons rfl (.cons rfl (.cons rfl (.cons rfl (.cons rfl .nil))))))))), rfl⟩
                      · (conv=>whnf);refine pbr_f g89 ?_;(conv=>whnf);refine pbr_f g89 ?_;(conv=>whnf);refine pbr_f g89 ?_;(conv=>whnf);refine pbr_f g89 ?_;(conv=>whnf);refine pbr_f g89 ?_;(conv=>whnf);cases h74;exact ⟨(.cons rfl (.cons rfl (.cons rfl (.cons rfl (.cons rfl (.cons rfl (.cons rfl (.cons rfl (.cons rfl .nil))))))))), rfl⟩
            · refine pw_cond ?_;(conv=>whnf);refine pbr_oite H (fun g90 H => ?_) (fun g90 H => ?_)
              · (conv=>whnf);refine pw_so ?_;refine po_all ?_;(conv=>whnf);refine pw_ret ?_;(conv=>whnf);cases H; rfl
              · (conv=>whnf);refine pw_skip ?_;(conv=>whnf);refine pw_seq ?_;obtain ⟨r91, h92, H⟩ := obnd_some H;refine pw_join (ρ := Bool) (fun e => ⟨[(1, (VS 1 (a2.map eI))), (2, (VS 1 (a3.map eI))), (3, (.pointer (some ⟨0, 0, none⟩))), (7, (.pointer (some ⟨1, 0, none⟩))), (14, (VS 1 (y65.1.map eI))), (16, (.pointer (some ⟨4, 0, none⟩))), (176, (.bool e))], ⟨5, [(4, .rw [(.int .i64 y71.1), (.int .i64 y71.2.1), (.int .i64 y71.2.2.1)]), (3, .rw [(.int .i64 r47.2.1), (.int .i64 r47.2.2.1), (.int .i64 r47.2.2.2)]), (2, .rw [(.int .i64 r31.2.1), (.int .i64 r31.2.2.1), (.int .i64 r31.2.2.2)]), (1, .rw [(.int .i64 y29.1), (.int .i64 y29.2.1), (.int .i64 y29.2.2.1)]), (0, .rw [(.int .i64 a0), (.int .i64 a1)])], false⟩⟩) r91 ?_ ?_
                · refine pw_ops ?_;refine po_ops 9 ?_;(conv=>whnf);obtain ⟨r95, h96, h92⟩ := obnd_some h92;refine po_seg (τ := Bool) 9 (fun e => ⟨[(1, (VS 1 (a2.map eI))), (2, (VS 1 (a3.map eI))), (3, (.pointer (some ⟨0, 0, none⟩))), (7, (.pointer (some ⟨1, 0, none⟩))), (10, (.pointer (some ⟨2, 0, none⟩))), (12, (.pointer (some ⟨3, 0, none⟩))), (14, (VS 1 (y65.1.map eI))), (16, (.pointer (some ⟨4, 0, none⟩))), (151, (.bool e))], ⟨5, [(4, .rw [(.int .i64 y71.1), (.int .i64 y71.2.1), (.int .i64 y71.2.2.1)]), (3, .rw [(.int .i64 r47.2.1), (.int .i64 r47.2.2.1), (.int .i64 r47.2.2.2)]), (2, .rw [(.int .i64 r31.2.1), (.int .i64 r31.2.2.1), (.int .i64 r31.2.2.2)]), (1, .rw [(.int .i64 y29.1), (.int .i64 y29.2.1), (.int .i64 y29.2.2.1)]), (0, .rw [(.int .i64 a0), (.int .i64 a1)])], false⟩⟩) r95 ?_ ?_
                  · refine po_all ?_;(conv=>whnf);refine pbr_oite h96 (fun g97 h96 => ?_) (fun g97 h96 => ?_)
                    · (conv=>whnf);refine pbr_t g97 ?_;(conv=>whnf);refine pbr_t g97 ?_;(conv=>whnf);refine pbr_t g97 ?_;(conv=>whnf);refine pbr_t g97 ?_;(conv=>whnf);refine pbr_t g97 ?_;(conv=>whnf);refine pbr_t g97 ?_;(conv=>whnf);refine pbr_t g97 ?_;(conv=>whnf);refine pbr_t g97 ?_;(conv=>whnf);cases h96;exact ⟨(.cons rfl (.cons rfl (.cons rfl (.cons rfl (.cons rfl (.cons rfl (.cons rfl (.cons rfl (.cons rfl .nil))))))))), rfl⟩
                    · (conv=>whnf);refine pbr_f g97 ?_;(conv=>whnf);refine pbr_f g97 ?_;(conv=>whnf);refine pbr_f g97 ?_;(conv=>whnf);refine pbr_f g97 ?_;(conv=>whnf);refine pbr_f g97 ?_;(conv=>whnf);refine pbr_f g97 ?_;(conv=>whnf);refine pbr_f g97 ?_;(conv=>whnf);refine pbr_f g97 ?_;(conv=>whnf);cases h96;exact ⟨(.cons rfl (.cons rfl (.cons rfl (.cons rfl (.cons rfl (.cons rfl (.cons rfl (.cons rfl (.cons rfl .nil))))))))), rfl⟩
                  · refine po_ops 1 ?_;(conv=>whnf);obtain ⟨r98, h99, h92⟩ := obnd_some h92;refine po_seg (τ := Bool) 9 (fun e => ⟨[(1, (VS 1 (a2.map eI))), (2, (VS 1 (a3.map eI))), (3, (.pointer (some ⟨0, 0, none⟩))), (7, (.pointer (some ⟨1, 0, none⟩))), (14, (VS 1 (y65.1.map eI))), (16, (.pointer (some ⟨4, 0, none⟩))), (161, (.bool e))], ⟨5, [(4, .rw [(.int .i64 y71.1), (.int .i64 y71.2.1), (.int .i64 y71.2.2.1)]), (3, .rw [(.int .i64 r47.2.1), (.int .i64 r47.2.2.1), (.int .i64 r47.2.2.2)]), (2, .rw [(.int .i64 r31.2.1), (.int .i64 r31.2.2.1), (.int .i64 r31.2.2.2)]), (1, .rw [(.int .i64 y29.1), (.int .i64 y29.2.1), (.int .i64 y29.2.2.1)]), (0, .rw [(.int .i64 a0), (.int .i64 a1)])], false⟩⟩) r98 ?_ ?_
                    · refine po_all ?_;(conv=>whnf);refine pbr_oite h99 (fun g100 h99 => ?_) (fun g100 h99 => ?_)
                      · (conv=>whnf);refine pbr_t g100 ?_;(conv=>whnf);refine pbr_t g100 ?_;(conv=>whnf);refine pbr_t g100 ?_;(conv=>whnf);refine pbr_t g100 ?_;(conv=>whnf);refine pbr_t g100 ?_;(conv=>whnf);refine pbr_t g100 ?_;(conv=>whnf);refine pbr_t g100 ?_;(conv=>whnf);refine pbr_t g100 ?_;(conv=>whnf);cases h99;exact ⟨(.cons rfl (.cons rfl (.cons rfl (.cons rfl (.cons rfl (.cons rfl (.cons rfl .nil))))))), rfl⟩
                      · (conv=>whnf);refine pbr_f g100 ?_;(conv=>whnf);refine pbr_f g100 ?_;(conv=>whnf);refine pbr_f g100 ?_;(conv=>whnf);refine pbr_f g100 ?_;(conv=>whnf);refine pbr_f g100 ?_;(conv=>whnf);refine pbr_f g100 ?_;(conv=>whnf);refine pbr_f g100 ?_;(conv=>whnf);refine pbr_f g100 ?_;(conv=>whnf);cases h99;exact ⟨(.cons rfl (.cons rfl (.cons rfl (.cons rfl (.cons rfl (.cons rfl (.cons rfl .nil))))))), rfl⟩
                    · refine po_ops 1 ?_;(conv=>whnf);obtain ⟨r101, h102, h92⟩ := obnd_some h92;refine po_seg (τ := Bool) 4 (fun e => ⟨[(1, (VS 1 (a2.map eI))), (2, (VS 1 (a3.map eI))), (3, (.pointer (some ⟨0, 0, none⟩))), (7, (.pointer (some ⟨1, 0, none⟩))), (14, (VS 1 (y65.1.map eI))), (16, (.pointer (some ⟨4, 0, none⟩))), (166, (.bool e))], ⟨5, [(4, .rw [(.int .i64 y71.1), (.int .i64 y71.2.1), (.int .i64 y71.2.2.1)]), (3, .rw [(.int .i64 r47.2.1), (.int .i64 r47.2.2.1), (.int .i64 r47.2.2.2)]), (2, .rw [(.int .i64 r31.2.1), (.int .i64 r31.2.2.1), (.int .i64 r31.2.2.2)]), (1, .rw [(.int .i64 y29.1), (.int .i64 y29.2.1), (.int .i64 y29.2.2.1)]), (0, .rw [(.int .i64 a0), (.int .i64 a1)])], false⟩⟩) r101 ?_ ?_
                      · refine po_all ?_;(conv=>whnf);refine pbr_oite h102 (fun g103 h102 => ?_) (fun g103 h102 => ?_)
                        · (conv=>whnf);refine pbr_t g103 ?_;(conv=>whnf);refine pbr_t g103 ?_;(conv=>whnf);refine pbr_t g103 ?_;(conv=>whnf);cases h102;exact ⟨(.cons rfl (.cons rfl (.cons rfl (.cons rfl (.cons rfl (.cons rfl (.cons rfl .nil))))))), rfl⟩
                        · (conv=>whnf);refine pbr_f g103 ?_;(conv=>whnf);refine pbr_f g103 ?_;(conv=>whnf);refine pbr_f g103 ?_;(conv=>whnf);cases h102;exact ⟨(.cons rfl (.cons rfl (.cons rfl (.cons rfl (.cons rfl (.cons rfl (.cons rfl .nil))))))), rfl⟩
                      · refine po_ops 1 ?_;(conv=>whnf);obtain ⟨r104, h105, h92⟩ := obnd_some h92;refine po_seg (τ := Bool) 4 (fun e => ⟨[(1, (VS 1 (a2.map eI))), (2, (VS 1 (a3.map eI))), (3, (.pointer (some ⟨0, 0, none⟩))), (7, (.pointer (some ⟨1, 0, none⟩))), (14, (VS 1 (y65.1.map eI))), (16, (.pointer (some ⟨4, 0, none⟩))), (171, (.bool e))], ⟨5, [(4, .rw [(.int .i64 y71.1), (.int .i64 y71.2.1), (.int .i64 y71.2.2.1)]), (3, .rw [(.int .i64 r47.2.1), (.int .i64 r47.2.2.1), (.int .i64 r47.2.2.2)]), (2, .rw [(.int .i64 r31.2.1), (.int .i64 r31.2.2.1), (.int .i64 r31.2.2.2)]), (1, .rw [(.int .i64 y29.1), (.int .i64 y29.2.1), (.int .i64 y29.2.2.1)]), (0, .rw [(.int .i64 a0), (.int .i64 a1)])], false⟩⟩) r104 ?_ ?_
                        · refine po_all ?_;(conv=>whnf);refine pbr_oite h105 (fun g106 h105 => ?_) (fun g106 h105 => ?_)
                          · (conv=>whnf);refine pbr_t g106 ?_;(conv=>whnf);refine pbr_t g106 ?_;(conv=>whnf);refine pbr_t g106 ?_;(conv=>whnf);cases h105;exact ⟨(.cons rfl (.cons rfl (.cons rfl (.cons rfl (.cons rfl (.cons rfl (.cons rfl .nil))))))), rfl⟩
                          · (conv=>whnf);refine pbr_f g106 ?_;(conv=>whnf);refine pbr_f g106 ?_;(conv=>whnf);refine pbr_f g106 ?_;(conv=>whnf);cases h105;exact ⟨(.cons rfl (.cons rfl (.cons rfl (.cons rfl (.cons rfl (.cons rfl (.cons rfl .nil))))))), rfl⟩
                        · refine po_all ?_;(conv=>whnf);refine pbr_oite h92 (fun g107 h92 => ?_) (fun g107 h92 => ?_)
                          · (conv=>whnf);refine pbr_t g107 ?_;(conv=>whnf);refine pbr_t g107 ?_;(conv=>whnf);refine pbr_t g107 ?_;(conv=>whnf);cases h92;exact ⟨(.cons rfl (.cons rfl (.cons rfl (.cons rfl (.cons rfl (.cons rfl (.cons rfl .nil))))))), rfl⟩
                          · (conv=>whnf);refine pbr_f g107 ?_;(conv=>whnf);refine pbr_f g107 ?_;(conv=>whnf);refine pbr_f g107 ?_;(conv=>whnf);cases h92;exact ⟨(.cons rfl (.cons rfl (.cons rfl (.cons rfl (.cons rfl (.cons rfl (.cons rfl .nil))))))), rfl⟩
                · refine pw_cond ?_;(conv=>whnf);refine pbr_oite H (fun g108 H => ?_) (fun g108 H => ?_)
                  · (conv=>whnf);refine pw_so ?_;refine po_all ?_;(conv=>whnf);refine pw_ret ?_;(conv=>whnf);cases H; rfl
                  · (conv=>whnf);refine pw_skip ?_;(conv=>whnf);refine pw_so ?_;refine po_all ?_;(conv=>whnf);refine pw_so ?_;refine po_all ?_;(conv=>whnf);obtain ⟨r109, h110, h111, h112⟩ := obndS_some H;refine pw_joinS (ρ := Int × Int) (fun e => ⟨[(1, (VS 1 (a2.map eI))), (3, (.pointer (some ⟨0, 0, none⟩))), (7, (.pointer (some ⟨1, 0, none⟩))), (16, (.pointer (some ⟨4, 0, none⟩))), (18, (.int .i64 e.1)), (19, (.int .i64 e.2))], ⟨5, [(4, .rw [(.int .i64 y71.1), (.int .i64 y71.2.1), (.int .i64 y71.2.2.1)]), (3, .rw [(.int .i64 r47.2.1), (.int .i64 r47.2.2.1), (.int .i64 r47.2.2.2)]), (2, .rw [(.int .i64 r31.2.1), (.int .i64 r31.2.2.1), (.int .i64 r31.2.2.2)]), (1, .rw [(.int .i64 y29.1), (.int .i64 y29.2.1), (.int .i64 y29.2.2.1)]), (0, .rw [(.int .i64 a0), (.int .i64 a1)])], false⟩⟩) r109 ?_ ?_
                    · refine pw_so ?_;refine po_all ?_;(conv=>whnf);refine pw_block ?_;refine pw_loop (τ := Int × Int × Int × Int) (fun e => ⟨[(1, (VS 1 (a2.map eI))), (2, (VS 1 (a3.map eI))), (3, (.pointer (some ⟨0, 0, none⟩))), (7, (.pointer (some ⟨1, 0, none⟩))), (14, (VS 1 (y65.1.map eI))), (16, (.pointer (some ⟨4, 0, none⟩))), (18, (.int .i64 e.1)), (19, (.int .i64 e.2.1)), (20, (.int .i64 e.2.2.1)), (21, (.int .i64 e.2.2.2))], ⟨5, [(4, .rw [(.int .i64 y71.1), (.int .i64 y71.2.1), (.int .i64 y71.2.2.1)]), (3, .rw [(.int .i64 r47.2.1), (.int .i64 r47.2.2.1), (.int .i64 r47.2.2.2)]), (2, .rw [(.int .i64 r31.2.1), (.int .i64 r31.2.2.1), (.int .i64 r31.2.2.2)]), (1, .rw [(.int .i64 y29.1), (.int .i64 y29.2.1), (.int .i64 y29.2.2.1)]), (0, .rw [(.int .i64 a0), (.int .i64 a1)])], false⟩⟩) h110 ?_ (fun _ => Nat.le_of_ble_eq_true rfl) ?_
                      · exact .sub' (Nat.le_of_ble_eq_true rfl) (.cons rfl (.cons rfl (.cons rfl (.cons rfl (.cons rfl (.cons rfl (.cons rfl (.cons rfl (.cons rfl (.cons rfl .nil))))))))))
                      · intro e113 x114 h115; unfold l197_1 at h115;refine pw_seq ?_;refine pw_so ?_;refine po_all ?_;(conv=>whnf);refine pw_cond ?_;(conv=>whnf);refine pbr_oite h115 (fun g116 h115 => ?_) (fun g116 h115 => ?_)
                        · (conv=>whnf);refine pw_skip ?_;(conv=>whnf);refine pw_seq ?_;refine pw_block ?_;refine pw_sd ?_;(conv=>whnf);refine pbr_ogrd h115 (fun g117 h115 => ?_);(conv=>whnf);refine nth_o (l := a2) h115 (fun x118 _ h115 => ?_);(conv=>whnf);refine pbr_t g117 ?_;(conv=>whnf);refine nth_o (l := a3) h115 (fun x119 _ h115 => ?_);(conv=>whnf);refine ⟨?_, trivial⟩;(conv=>whnf);obtain ⟨y120, h121, h115⟩ := obnd_some h115;refine (c109 h121).go ?_;(conv=>whnf);refine ⟨by repeat (first | exact trivial | refine And.intro rfl ?_), ?_⟩;(conv=>whnf);refine ⟨?_, trivial⟩;(conv=>whnf);obtain ⟨y122, h123, h115⟩ := obnd_some h115
                          refine (c109 h123).go ?_;(conv=>whnf);refine ⟨by repeat (first | exact trivial | refine And.intro rfl ?_), ?_⟩;(conv=>whnf);refine ⟨?_, trivial⟩;(conv=>whnf);refine ⟨by repeat (first | exact trivial | refine And.intro rfl ?_), ?_⟩;(conv=>whnf);refine ⟨?_, trivial⟩;(conv=>whnf);refine ⟨by repeat (first | exact trivial | refine And.intro rfl ?_), ?_⟩;(conv=>whnf);refine pw_seq ?_;obtain ⟨r124, h125, h115⟩ := obnd_some h115;refine pw_join (ρ := Bool) (fun e => ⟨[(1, (VS 1 (a2.map eI))), (2, (VS 1 (a3.map eI))), (3, (.pointer (some ⟨0, 0, none⟩))), (7, (.pointer (some ⟨1, 0, none⟩))), (14, (VS 1 (y65.1.map eI))), (16, (.pointer (some ⟨4, 0, none⟩))), (18, (.int .i64 (IntKind.i64.wrap (e113.1 + y120)))), (19, (.int .i64 (IntKind.i64.wrap (e113.2.1 + y122)))), (21, (.int .i64 e113.2.2.2)), (235, (.bool e))], ⟨5, [(4, .rw [(.int .i64 y71.1), (.int .i64 y71.2.1), (.int .i64 y71.2.2.1)]), (3, .rw [(.int .i64 r47.2.1), (.int .i64 r47.2.2.1), (.int .i64 r47.2.2.2)]), (2, .rw [(.int .i64 r31.2.1), (.int .i64 r31.2.2.1), (.int .i64 r31.2.2.2)]), (1, .rw [(.int .i64 y29.1), (.int .i64 y29.2.1), (.int .i64 y29.2.2.1)]), (0, .rw [(.int .i64 a0), (.int .i64 a1)])], false⟩⟩) r124 ?_ ?_
                          · refine pw_draw ?_;(conv=>whnf);refine pbr_t g117 ?_;(conv=>whnf);refine nth_o (l := y65.1) h125 (fun x128 _ h125 => ?_);(conv=>whnf);refine ⟨?_, trivial⟩;(conv=>whnf);obtain ⟨y129, h130, h125⟩ := obnd_some h125;refine (c15 h130).go ?_;(conv=>whnf);refine ⟨by repeat (first | exact trivial | refine And.intro rfl ?_), ?_⟩;(conv=>whnf);refine pbr_oite h125 (fun g131 h125 => ?_) (fun g131 h125 => ?_)
                            · (conv=>whnf);refine pbr_t g131 ?_;(conv=>whnf);refine pbr_t g131 ?_;(conv=>whnf);refine pbr_t g131 ?_;(conv=>whnf);refine pbr_t g131 ?_;(conv=>whnf);refine pbr_t g131 ?_;(conv=>whnf);refine pbr_t g131 ?_;(conv=>whnf);refine pbr_t g131 ?_;(conv=>whnf);refine pbr_t g131 ?_;(conv=>whnf);refine pbr_t g131 ?_;(conv=>whnf);refine ⟨?_, trivial⟩;(conv=>whnf);refine pbr_t g131 ?_;(conv=>whnf);refine pbr_t g131 ?_;(conv=>whnf);cases h125;exact ⟨(.cons rfl (.cons rfl (.cons rfl (.cons rfl (.cons rfl (.cons rfl (.cons rfl (.cons rfl (.cons rfl (.cons rfl .nil)))))))))), rfl⟩
                            · (conv=>whnf);refine pbr_f g131 ?_;(conv=>whnf);refine pbr_f g131 ?_;(conv=>whnf);refine pbr_t g117 ?_;(conv=>whnf);refine nth_o (l := y65.1) h125 (fun x132 _ h125 => ?_);(conv=>whnf);refine pbr_f g131 ?_;(conv=>whnf);refine pbr_f g131 ?_;(conv=>whnf);refine pbr_f g131 ?_;(conv=>whnf);refine pbr_f g131 ?_;(conv=>whnf);refine pbr_t g117 ?_;(conv=>whnf);refine nth_o (l := a2) h125 (fun x133 _ h125 => ?_);(conv=>whnf);refine pbr_f g131 ?_;(conv=>whnf);refine pbr_f g131 ?_;(conv=>whnf);refine pbr_f g131 ?_;(conv=>whnf);refine pbr_oite h125 (fun g134 h125 => ?_) (fun g134 h125 => ?_)
                              · (conv=>whnf);refine pbr_t g134 ?_;(conv=>whnf);refine pbr_t g134 ?_;(conv=>whnf);refine pbr_t g117 ?_;(conv=>whnf);refine nth_o (l := y65.1) h125 (fun x135 _ h125 => ?_);(conv=>whnf);refine pbr_t g134 ?_;(conv=>whnf);refine pbr_t g134 ?_;(conv=>whnf);refine pbr_t g134 ?_;(conv=>whnf);refine pbr_t g134 ?_;(conv=>whnf);refine pbr_t g134 ?_;(conv=>whnf);refine ⟨?_, trivial⟩;(conv=>whnf);refine pbr_t g134 ?_;(conv=>whnf);obtain ⟨y136, h137, h125⟩ := obnd_some h125;refine (c109 h137).go ?_;(conv=>whnf);refine ⟨by repeat (first | exact trivial | refine And.intro rfl ?_), ?_⟩;(conv=>whnf);refine pbr_t g134 ?_
                                (conv=>whnf);refine pbr_f g131 ?_;(conv=>whnf);refine pbr_t g134 ?_;(conv=>whnf);refine pbr_f g131 ?_;(conv=>whnf);cases h125;exact ⟨(.cons rfl (.cons rfl (.cons rfl (.cons rfl (.cons rfl (.cons rfl (.cons rfl (.cons rfl (.cons rfl (.cons rfl .nil)))))))))), rfl⟩
                              · (conv=>whnf);refine pbr_f g134 ?_;(conv=>whnf);refine pbr_f g134 ?_;(conv=>whnf);refine pbr_f g134 ?_;(conv=>whnf);refine pbr_f g134 ?_;(conv=>whnf);refine pbr_f g134 ?_;(conv=>whnf);refine pbr_f g134 ?_;(conv=>whnf);refine pbr_f g134 ?_;(conv=>whnf);refine ⟨?_, trivial⟩;(conv=>whnf);refine pbr_f g134 ?_;(conv=>whnf);refine pbr_f g134 ?_;(conv=>whnf);refine pbr_f g131 ?_;(conv=>whnf);refine pbr_f g134 ?_;(conv=>whnf);refine pbr_f g131 ?_;(conv=>whnf);cases h125;exact ⟨(.cons rfl (.cons rfl (.cons rfl (.cons rfl (.cons rfl (.cons rfl (.cons rfl (.cons rfl (.cons rfl (.cons rfl .nil)))))))))), rfl⟩
                          · refine pw_cond ?_;(conv=>whnf);refine pbr_oite h115 (fun g138 h115 => ?_) (fun g138 h115 => ?_)
                            · (conv=>whnf);refine pw_so ?_;refine po_all ?_;(conv=>whnf);refine pw_ret ?_;(conv=>whnf);cases h115;refine ⟨_, rfl, ?_⟩; rintro rfl;(conv=>whnf);obtain rfl := h112 _ rfl; rfl
                            · (conv=>whnf);refine pw_skip ?_;(conv=>whnf);refine pw_ops ?_;refine po_all ?_;(conv=>whnf);refine pbr_t g117 ?_;(conv=>whnf);refine nth_o (l := y65.1) h115 (fun x140 _ h115 => ?_);(conv=>whnf);refine pw_ops ?_;refine po_all ?_;(conv=>whnf);cases h115;refine ⟨_, rfl, ?_⟩;exact .sub' (Nat.le_of_ble_eq_true rfl) (.cons rfl (.cons rfl (.cons rfl (.cons rfl (.cons rfl (.cons rfl (.cons rfl (.cons rfl (.cons rfl (.cons rfl .nil))))))))))
                        · (conv=>whnf);refine pw_exit ?_;(conv=>whnf);cases h115;refine ⟨_, rfl, ?_⟩; rintro rfl;(conv=>whnf);exact ⟨_, rfl, ⟨(.cons rfl (.cons rfl (.cons rfl (.cons rfl (.cons rfl (.cons rfl .nil)))))), rfl⟩⟩
                    · intro r142 hr; have H := h111 _ hr;refine pw_seq ?_;obtain ⟨r143, h144, H⟩ := obnd_some H;refine pw_join (ρ := Bool) (fun e => ⟨[(1, (VS 1 (a2.map eI))), (3, (.pointer (some ⟨0, 0, none⟩))), (261, (.bool e))], ⟨5, [(4, .rw [(.int .i64 y71.1), (.int .i64 y71.2.1), (.int .i64 y71.2.2.1)]), (3, .rw [(.int .i64 r47.2.1), (.int .i64 r47.2.2.1), (.int .i64 r47.2.2.2)]), (2, .rw [(.int .i64 r31.2.1), (.int .i64 r31.2.2.1), (.int .i64 r31.2.2.2)]), (1, .rw [(.int .i64 y29.1), (.int .i64 y29.2.1), (.int .i64 y29.2.2.1)]), (0, .rw [(.int .i64 a0), (.int .i64 a1)])], false⟩⟩) r143 ?_ ?_
                      · refine pw_ops ?_;refine po_ops 8 ?_;(conv=>whnf);obtain ⟨r147, h148, h144⟩ := obnd_some h144;refine po_seg (τ := Bool) 8 (fun e => ⟨[(1, (VS 1 (a2.map eI))), (3, (.pointer (some ⟨0, 0, none⟩))), (16, (.pointer (some ⟨4, 0, none⟩))), (18, (.int .i64 r142.1)), (255, (.bool e))], ⟨5, [(4, .rw [(.int .i64 y71.1), (.int .i64 y71.2.1), (.int .i64 y71.2.2.1)]), (3, .rw [(.int .i64 r47.2.1), (.int .i64 r47.2.2.1), (.int .i64 r47.2.2.2)]), (2, .rw [(.int .i64 r31.2.1), (.int .i64 r31.2.2.1), (.int .i64 r31.2.2.2)]), (1, .rw [(.int .i64 y29.1), (.int .i64 y29.2.1), (.int .i64 y29.2.2.1)]), (0, .rw [(.int .i64 a0), (.int .i64 a1)])], false⟩⟩) r147 ?_ ?_
                        · refine po_all ?_;(conv=>whnf);refine pbr_oite h148 (fun g149 h148 => ?_) (fun g149 h148 => ?_)
                          · (conv=>whnf);refine pbr_t g149 ?_;(conv=>whnf);refine pbr_t g149 ?_;(conv=>whnf);refine pbr_t g149 ?_;(conv=>whnf);refine pbr_t g149 ?_;(conv=>whnf);refine pbr_t g149 ?_;(conv=>whnf);refine pbr_t g149 ?_;(conv=>whnf);refine pbr_t g149 ?_;(conv=>whnf);cases h148;exact ⟨(.cons rfl (.cons rfl (.cons rfl (.cons rfl (.cons rfl .nil))))), rfl⟩
                          · (conv=>whnf);refine pbr_f g149 ?_;(conv=>whnf);refine pbr_f g149 ?_;(conv=>whnf);refine pbr_f g149 ?_;(conv=>whnf);refine pbr_f g149 ?_;(conv=>whnf);refine pbr_f g149 ?_;(conv=>whnf);refine pbr_f g149 ?_;(conv=>whnf);refine pbr_f g149 ?_;(conv=>whnf);cases h148;exact ⟨(.cons rfl (.cons rfl (.cons rfl (.cons rfl (.cons rfl .nil))))), rfl⟩
                        · refine po_all ?_;(conv=>whnf);refine pbr_oite h144 (fun g150 h144 => ?_) (fun g150 h144 => ?_)
                          · (conv=>whnf);refine pbr_t g150 ?_;(conv=>whnf);refine pbr_t g150 ?_;(conv=>whnf);refine pbr_t g150 ?_;(conv=>whnf);refine pbr_t g150 ?_;(conv=>whnf);cases h144;exact ⟨(.cons rfl (.cons rfl (.cons rfl .nil))), rfl⟩
                          · (conv=>whnf);refine pbr_f g150 ?_;(conv=>whnf);refine pbr_f g150 ?_;(conv=>whnf);refine pbr_f g150 ?_;(conv=>whnf);refine pbr_f g150 ?_;(conv=>whnf);cases h144;exact ⟨(.cons rfl (.cons rfl (.cons rfl .nil))), rfl⟩
                      · refine pw_cond ?_;(conv=>whnf);refine pbr_oite H (fun g151 H => ?_) (fun g151 H => ?_)
                        · (conv=>whnf);refine pw_so ?_;refine po_all ?_;(conv=>whnf);refine pw_ret ?_;(conv=>whnf);cases H; rfl
                        · (conv=>whnf);refine pw_skip ?_;(conv=>whnf);refine pw_seq ?_;obtain ⟨r152, h153, H⟩ := obnd_some H;refine pw_join (ρ := Bool) (fun e => ⟨[(1, (VS 1 (a2.map eI))), (3, (.pointer (some ⟨0, 0, none⟩))), (269, (.bool e))], ⟨5, [(4, .rw [(.int .i64 y71.1), (.int .i64 y71.2.1), (.int .i64 y71.2.2.1)]), (3, .rw [(.int .i64 r47.2.1), (.int .i64 r47.2.2.1), (.int .i64 r47.2.2.2)]), (2, .rw [(.int .i64 r31.2.1), (.int .i64 r31.2.2.1), (.int .i64 r31.2.2.2)]), (1, .rw [(.int .i64 y29.1), (.int .i64 y29.2.1), (.int .i64 y29.2.2.1)]), (0, .rw [(.int .i64 a0), (.int .i64 a1)])], false⟩⟩) r152 ?_ ?_
                          · refine pw_ops ?_;refine po_all ?_;(conv=>whnf);refine pbr_oite h153 (fun g156 h153 => ?_) (fun g156 h153 => ?_)
                            · (conv=>whnf);refine pbr_t g156 ?_;(conv=>whnf);refine pbr_t g156 ?_;(conv=>whnf);refine pbr_t g156 ?_;(conv=>whnf);cases h153;exact ⟨(.cons rfl (.cons rfl (.cons rfl .nil))), rfl⟩
                            · (conv=>whnf);refine pbr_f g156 ?_;(conv=>whnf);refine pbr_f g156 ?_;(conv=>whnf);refine pbr_f g156 ?_;(conv=>whnf);cases h153;exact ⟨(.cons rfl (.cons rfl (.cons rfl .nil))), rfl⟩
                          · refine pw_cond ?_;(conv=>whnf);refine pbr_oite H (fun g157 H => ?_) (fun g157 H => ?_)
                            · (conv=>whnf);refine pw_so ?_;refine po_all ?_;(conv=>whnf);refine pw_ret ?_;(conv=>whnf);cases H; rfl
                            · (conv=>whnf);refine pw_skip ?_;(conv=>whnf);refine pw_so ?_;refine po_all ?_;(conv=>whnf);obtain ⟨r158, h159, H⟩ := obnd_some H;refine pw_join (ρ := (List Int)) (fun e => ⟨[(1, (VS 1 (a2.map eI))), (3, (.pointer (some ⟨0, 0, none⟩))), (22, (VT 1 (e.map eI) 5))], ⟨6, [(5, .tail (e.map eI).length 1), (4, .rw [(.int .i64 y71.1), (.int .i64 y71.2.1), (.int .i64 y71.2.2.1)]), (3, .rw [(.int .i64 r47.2.1), (.int .i64 r47.2.2.1), (.int .i64 r47.2.2.2)]), (2, .rw [(.int .i64 r31.2.1), (.int .i64 r31.2.2.1), (.int .i64 r31.2.2.2)]), (1, .rw [(.int .i64 y29.1), (.int .i64 y29.2.1), (.int .i64 y29.2.2.1)]), (0, .rw [(.int .i64 a0), (.int .i64 a1)])], false⟩⟩) r158 ?_ ?_
                              · refine pw_so ?_;refine po_all ?_;(conv=>whnf);refine pw_block ?_;refine pw_loop (τ := (List Int) × Int) (fun e => ⟨[(1, (VS 1 (a2.map eI))), (3, (.pointer (some ⟨0, 0, none⟩))), (22, (VT 1 (e.1.map eI) 5)), (23, (.int .i64 e.2))], ⟨6, [(5, .tail (e.1.map eI).length 1), (4, .rw [(.int .i64 y71.1), (.int .i64 y71.2.1), (.int .i64 y71.2.2.1)]), (3, .rw [(.int .i64 r47.2.1), (.int .i64 r47.2.2.1), (.int .i64 r47.2.2.2)]), (2, .rw [(.int .i64 r31.2.1), (.int .i64 r31.2.2.1), (.int .i64 r31.2.2.2)]), (1, .rw [(.int .i64 y29.1), (.int .i64 y29.2.1), (.int .i64 y29.2.2.1)]), (0, .rw [(.int .i64 a0), (.int .i64 a1)])], false⟩⟩) h159 ?_ (fun _ => Nat.le_of_ble_eq_true rfl) ?_
                                · exact (Recast.nilTs 1 (Nat.le_of_ble_eq_true rfl) (.same rfl (.same rfl (.turn rfl (.same rfl .nil)))))
                                · intro e162 x163 h164; unfold l197_2 at h164;refine pw_seq ?_;refine pw_so ?_;refine po_all ?_;(conv=>whnf);refine pw_cond ?_;(conv=>whnf);refine pbr_oite h164 (fun g165 h164 => ?_) (fun g165 h164 => ?_)
                                  · (conv=>whnf);refine pw_skip ?_;(conv=>whnf);refine pw_seq ?_;refine pw_block ?_;refine pw_ops ?_;refine po_all ?_;(conv=>whnf);refine nth_o (l := a2) h164 (fun x166 _ h164 => ?_);(conv=>whnf);refine app_o (l := e162.1) (m := ([x166] : List Int)) (f := eI) h164 (by rfl) (by rfl) (by rfl) (fun h164 => ?_);(conv=>whnf);refine pw_ops ?_;refine po_all ?_;(conv=>whnf);cases h164;refine ⟨_, rfl, ?_⟩;refine Recast.trunc (Nat.le_of_ble_eq_true rfl) ?_ ?_
                                    · repeat (first | exact .nil | refine .cons rfl (by first | exact OBnd.rwc (Nat.le_of_ble_eq_true rfl) rfl | exact OBnd.tail (Nat.le_of_ble_eq_true rfl) | trivial) ?_)
                                    · repeat (first | exact .nil | refine .cons rfl (by first | exact Bnd.ptr (Nat.le_of_ble_eq_true rfl) | exact Bnd.vt (Nat.le_of_ble_eq_true rfl) | exact Bnd.cl) ?_)
                                  · (conv=>whnf);refine pw_exit ?_;(conv=>whnf);cases h164;refine ⟨_, rfl, ?_⟩; rintro rfl;(conv=>whnf);exact ⟨(.cons rfl (.cons rfl (.cons rfl .nil))), rfl⟩
                              · refine pw_so ?_;refine po_all ?_;(conv=>whnf);obtain ⟨y168, h169, H⟩ := obnd_some H;refine ICalls.goW (c200 h169) (.cons (.refl _) (.cons (.refl _) (.cons (.vt _ _ _) .nil))) ?_;(conv=>whnf);refine pw_sd ?_;(conv=>whnf);refine pbr_oite H (fun g170 H => ?_) (fun g170 H => ?_)
                                · (conv=>whnf);refine pbr_t g170 ?_;(conv=>whnf);refine pbr_t g170 ?_;(conv=>whnf);refine pbr_t g170 ?_;(conv=>whnf);refine pbr_oite H (fun g171 H => ?_) (fun g171 H => ?_)
                                  · (conv=>whnf);refine pbr_t g171 ?_;(conv=>whnf);refine pbr_t g171 ?_;(conv=>whnf);refine pbr_t g171 ?_;(conv=>whnf);refine pbr_t g171 ?_;(conv=>whnf);refine nth_o (l := a2) H (fun x172 _ H => ?_);(conv=>whnf);refine pbr_t g171 ?_;(conv=>whnf);refine pbr_t g171 ?_;(conv=>whnf);refine pbr_t g171 ?_;(conv=>whnf);refine pbr_t g171 ?_;(conv=>whnf);refine ⟨?_, trivial⟩;(conv=>whnf);refine pbr_t g171 ?_;(conv=>whnf);obtain ⟨y173, h174, H⟩ := obnd_some H;refine (c109 h174).go ?_;(conv=>whnf);refine ⟨by repeat (first | exact trivial | refine And.intro rfl ?_), ?_⟩;(conv=>whnf);refine pbr_t g171 ?_;(conv=>whnf)
                                    refine pbr_t g171 ?_;(conv=>whnf);refine pbr_oite H (fun g175 H => ?_) (fun g175 H => ?_)
                                    · (conv=>whnf);refine pbr_t g175 ?_;(conv=>whnf);refine pbr_t g175 ?_;(conv=>whnf);refine pbr_t g175 ?_;(conv=>whnf);refine pbr_t g175 ?_;(conv=>whnf);refine pbr_t g175 ?_;(conv=>whnf);refine pbr_t g175 ?_;(conv=>whnf);refine pbr_t g171 ?_;(conv=>whnf);refine pbr_t g175 ?_;(conv=>whnf);refine pbr_t g171 ?_;(conv=>whnf);refine pw_ret ?_;(conv=>whnf);cases H; rfl
                                    · (conv=>whnf);refine pbr_f g175 ?_;(conv=>whnf);refine nth_o (l := y168.1) H (fun x176 _ H => ?_);(conv=>whnf);refine pbr_f g175 ?_;(conv=>whnf);refine pbr_f g175 ?_;(conv=>whnf);refine pbr_f g175 ?_;(conv=>whnf);refine nth_o (l := a2) H (fun x177 _ H => ?_);(conv=>whnf);refine pbr_f g175 ?_;(conv=>whnf);refine pbr_f g175 ?_;(conv=>whnf);refine pbr_t g171 ?_;(conv=>whnf);refine pbr_f g175 ?_;(conv=>whnf);refine pbr_t g171 ?_;(conv=>whnf);refine pw_ret ?_;(conv=>whnf);cases H; rfl
                                  · (conv=>whnf);refine pbr_f g171 ?_;(conv=>whnf);refine pbr_f g171 ?_;(conv=>whnf);refine pbr_f g171 ?_;(conv=>whnf);refine pbr_f g171 ?_;(conv=>whnf);refine pbr_f g171 ?_;(conv=>whnf);refine pbr_f g171 ?_;(conv=>whnf);refine pbr_f g171 ?_;(conv=>whnf);refine pbr_f g171 ?_;(conv=>whnf);refine ⟨?_, trivial⟩;(conv=>whnf);refine pbr_f g171 ?_;(conv=>whnf);refine pbr_f g171 ?_;(conv=>whnf);refine pbr_f g171 ?_;(conv=>whnf);refine pbr_f g171 ?_;(conv=>whnf);refine pbr_f g171 ?_;(conv=>whnf);refine pw_ret ?_;(conv=>whnf);cases H; rfl
                                · (conv=>whnf);refine pbr_f g170 ?_;(conv=>whnf);refine pbr_f g170 ?_;(conv=>whnf);refine pbr_f g170 ?_;(conv=>whnf);refine ⟨?_, trivial⟩;(conv=>whnf);refine pw_ret ?_;(conv=>whnf);cases H; rfl

end Go.Proofs.Ytmbekcealcjabaa.AM
