/- Computations of functions, and that the functions do them (printed by tools/lift.py). Conditions: none. -/
import Derived.Test.YtolapannkcdeeaaGreatDoorAmMan
namespace Go.Proofs.YtolapannkcdeeaaGreatDoor.AM
set_option linter.unusedSimpArgs false
set_option linter.unusedVariables false
set_option maxHeartbeats 1000000
open Go Go.RowKit
attribute [local irreducible] ICallV ICalls Recast rng
noncomputable def f307 [LO]  (_ : Int) (_ : Int) (a2 : List (ByteArray × Int × Int × Int)) : Option Bool :=
 oite ((ilt (7 : Int) ((a2.map e_SIII).length : Int))) (
 some false
 ) (
 obndS (
 oloop (τ := Int) (ρ := (Unit) ⊕ Bool) (fun e6 =>
 oite ((ilt e6 ((a2.map e_SIII).length : Int))) (
 ogrd ((ile 0 e6)) (
 obnd (a2[e6.toNat]?) fun (x11 : ByteArray × Int × Int × Int) =>
 oite ((ilt (20 : Int) (x11.1.size : Int))) (
 some (.inr (.inr (false)))
 ) (
 some (.inl (IntKind.i64.wrap (e6 + (1 : Int))))))
 ) (
 some (.inr (.inl ())))
 ) (0 : Int)
 ) fun (_ : Unit) =>
 some true)
theorem c307 [LO]  {a0 : Int} {a1 : Int} {a2 : List (ByteArray × Int × Int × Int)} {x : Bool} (H : f307 a0 a1 a2 = some x) : ICalls E 307 [(.agg ⟨[(.int .i64 a0), (.int .i64 a1), (VS 4 (a2.map e_SIII))]⟩)] AHeap.none fun v _ => v = (.bool x) := by
 refine icalls_fn (pfnw ?_); unfold f307 at H;(conv=>whnf);refine pwa ?_;(conv=>whnf);refine pw_seq ?_;refine pwa ?_;(conv=>whnf);refine pw_cond ?_;(conv=>whnf);refine pbr_oite H (fun g1 H => ?_) (fun g1 H => ?_)
 · (conv=>whnf);refine pwa ?_;(conv=>whnf);refine pw_ret ?_;(conv=>whnf);cases H; rfl
 · (conv=>whnf);refine pw_skip ?_;(conv=>whnf);obtain ⟨r2, h3, h4, h5⟩ := obndS_some H;refine pw_joinS (ρ := Unit) (fun e => ⟨[], ⟨1, [(0, .rw [(.int .i64 a0), (.int .i64 a1), (VS 4 (a2.map e_SIII))])], false⟩⟩) r2 ?_ ?_
   · refine pwa ?_;(conv=>whnf);refine pw_block ?_;refine pw_loop (τ := Int) (fun e => ⟨[(1, (.pointer (some ⟨0, 0, none⟩))), (3, (.int .i64 e))], ⟨1, [(0, .rw [(.int .i64 a0), (.int .i64 a1), (VS 4 (a2.map e_SIII))])], false⟩⟩) h3 ?_ (fun _ => nl rfl) ?_
     · exact .sub' (nl rfl) (.cons rfl (.cons rfl .nil))
     · intro e6 x7 h8;refine pw_seq ?_;refine pwa ?_;(conv=>whnf);refine pw_cond ?_;(conv=>whnf);refine pbr_oite h8 (fun g9 h8 => ?_) (fun g9 h8 => ?_)
       · (conv=>whnf);refine pw_skip ?_;(conv=>whnf);refine pw_seq ?_;refine pw_block ?_;refine pwa ?_;(conv=>whnf);refine pbr_ogrd h8 (fun g10 h8 => ?_);(conv=>whnf);refine nth_o (l := a2) h8 (fun x11 _ h8 => ?_);(conv=>whnf);refine pw_cond ?_;(conv=>whnf);refine pbr_oite h8 (fun g12 h8 => ?_) (fun g12 h8 => ?_)
         · (conv=>whnf);refine pwa ?_;(conv=>whnf);refine pw_ret ?_;(conv=>whnf);cases h8;refine ⟨_, rfl, ?_⟩; rintro rfl;(conv=>whnf);obtain rfl := h5 _ rfl; rfl
         · (conv=>whnf);refine pw_skip ?_;(conv=>whnf);refine pw_ops ?_;refine po_all ?_;(conv=>whnf);cases h8;refine ⟨_, rfl, ?_⟩;exact .sub' (nl rfl) (.cons rfl (.cons rfl .nil))
       · (conv=>whnf);refine pw_exit ?_;(conv=>whnf);cases h8;refine ⟨_, rfl, ?_⟩; rintro rfl;(conv=>whnf);exact ⟨_, rfl, ⟨.nil, rfl⟩⟩
   · intro r15 hr; have H := h4 _ hr;refine pwa ?_;(conv=>whnf);refine pw_ret ?_;(conv=>whnf);cases H; rfl
noncomputable def f308  (_ : Int) (_ : Int) (_ : Int) (a3 : List (Int × Int × Int)) : Option Bool :=
 some (ile ((a3.map e_III).length : Int) (12 : Int))
theorem c308  {a0 : Int} {a1 : Int} {a2 : Int} {a3 : List (Int × Int × Int)} {x : Bool} (H : f308 a0 a1 a2 a3 = some x) : ICalls E 308 [(.agg ⟨[(.int .i64 a0), (.int .i64 a1), (.int .i64 a2), (VS 3 (a3.map e_III))]⟩)] AHeap.none fun v _ => v = (.bool x) := by
 refine icalls_fn (pfnw ?_); unfold f308 at H;(conv=>whnf);refine pwa ?_;(conv=>whnf);refine pwa ?_;(conv=>whnf);refine pw_ret ?_;(conv=>whnf);cases H; rfl
noncomputable def f309  (a0 : Int) (a1 : Int) (a2 : List (ByteArray × Int × Int × Int)) : Option (Int × Int × (List (ByteArray × Int × Int × Int))) :=
 ogrd (fits 40 (([] : List (ByteArray × Int × Int × Int)).length + a2.length)) (
 some (a0, a1, (([] : List (ByteArray × Int × Int × Int)) ++ a2)))
theorem c309  {a0 : Int} {a1 : Int} {a2 : List (ByteArray × Int × Int × Int)} {x : Int × Int × (List (ByteArray × Int × Int × Int))} (H : f309 a0 a1 a2 = some x) : ICalls E 309 [(.agg ⟨[(.int .i64 a0), (.int .i64 a1), (VS 4 (a2.map e_SIII))]⟩)] AHeap.none fun v _ => v = (.agg ⟨[(.int .i64 x.1), (.int .i64 x.2.1), (VS 4 (x.2.2.map e_SIII))]⟩) := by
 refine ICalls.frz ?_;refine icalls_fn (pfnw ?_); unfold f309 at H;(conv=>whnf);refine pwa ?_;(conv=>whnf);refine pwa ?_;(conv=>whnf);refine app_o (l := ([] : List (ByteArray × Int × Int × Int))) (m := a2) (f := e_SIII) H (by rfl) (by rfl) (by rfl) (fun H => ?_);(conv=>whnf);refine pwa ?_;(conv=>whnf);refine pw_ret ?_;(conv=>whnf);cases H; show ∃ D, Fz _ D 0 (.agg ⟨[(.int .i64 a0), (.int .i64 a1), (VT 4 _ 2)]⟩) _;exact ⟨fun _ => false, .aggl (.cons .cl (.cons .cl (.cons .vtc (.nil))))⟩
noncomputable def f471 [LO]  (a0 : List Int) : Option ByteArray :=
 obnd (
 oloop (τ := (List ByteArray) × Int) (ρ := (List ByteArray)) (fun e5 =>
 oite ((ilt e5.2 ((a0.map eI).length : Int))) (
 ogrd ((ile 0 e5.2)) (
 obnd (a0[e5.2.toNat]?) fun (x10 : Int) =>
 obnd (f385 x10) fun (y11 : ByteArray) =>
 ogrd (fits 16 (e5.1.length + ([y11] : List ByteArray).length)) (
 some (.inl (((e5.1 ++ ([y11] : List ByteArray)), (IntKind.i64.wrap (e5.2 + (1 : Int))))))))
 ) (
 some (.inr (e5.1)))
 ) ((([] : List ByteArray), (0 : Int)))
 ) fun (r1 : (List ByteArray)) =>
 obnd (f384 r1 (⟨#[32]⟩ : ByteArray)) fun (y14 : ByteArray) =>
 some y14
theorem c471 [LO]  {a0 : List Int} {x : ByteArray} (H : f471 a0 = some x) : ICalls E 471 [(VS 1 (a0.map eI))] AHeap.none fun v _ => v = (.string x) := by
 refine icalls_fn (pfnw ?_); unfold f471 at H;(conv=>whnf);refine pwa ?_;(conv=>whnf);refine pwa ?_;(conv=>whnf);obtain ⟨r1, h2, H⟩ := obnd_some H;refine pw_join (ρ := (List ByteArray)) (fun e => ⟨[(3, (VT 1 (e.map eS) 0))], ⟨1, [(0, .tail (e.map eS).length 1)], false⟩⟩) r1 ?_ ?_
 · refine pwa ?_;(conv=>whnf);refine pw_block ?_;refine pw_loop (τ := (List ByteArray) × Int) (fun e => ⟨[(3, (VT 1 (e.1.map eS) 0)), (6, (VS 1 (a0.map eI))), (7, (.int .i64 ((a0.map eI).length : Int))), (8, (.int .i64 e.2))], ⟨1, [(0, .tail (e.1.map eS).length 1)], false⟩⟩) h2 ?_ (fun _ => nl rfl) ?_
   · exact (Recast.nilTs 1 (nl rfl) (.turn rfl (.same rfl (.same rfl (.same rfl .nil)))))
   · intro e5 x6 h7;refine pwa ?_;(conv=>whnf);refine pw_seq ?_;refine pw_cond ?_;(conv=>whnf);refine pbr_oite h7 (fun g8 h7 => ?_) (fun g8 h7 => ?_)
     · (conv=>whnf);refine pw_skip ?_;(conv=>whnf);refine pw_seq ?_;refine pw_block ?_;refine pwa ?_;(conv=>whnf);refine pbr_ogrd h7 (fun g9 h7 => ?_);(conv=>whnf);refine nth_o (l := a0) h7 (fun x10 _ h7 => ?_);(conv=>whnf);refine pw_ops ?_;refine po_all ?_;(conv=>whnf);obtain ⟨y11, h12, h7⟩ := obnd_some h7;refine (c385 h12).go ?_;(conv=>whnf);refine app_o (l := e5.1) (m := ([y11] : List ByteArray)) (f := eS) h7 (by rfl) (by rfl) (by rfl) (fun h7 => ?_);(conv=>whnf);refine pw_ops ?_;refine po_all ?_;(conv=>whnf);cases h7;refine ⟨_, rfl, ?_⟩;refine Recast.trunc (nl rfl) ?_ ?_
       · repeat (first | exact .nil | refine .cons rfl (by first | exact OBnd.rwc (nl rfl) rfl | exact OBnd.tail (nl rfl) | trivial) ?_)
       · repeat (first | exact .nil | refine .cons rfl (by first | exact Bnd.ptr (nl rfl) | exact Bnd.vt (nl rfl) | exact Bnd.cl) ?_)
     · (conv=>whnf);refine pw_exit ?_;(conv=>whnf);cases h7;refine ⟨_, rfl, ?_⟩; rintro rfl;(conv=>whnf);exact ⟨(.cons rfl .nil), rfl⟩
 · refine pwa ?_;(conv=>whnf);obtain ⟨y14, h15, H⟩ := obnd_some H;refine ICalls.goW (c384 h15) (.cons (.vt _ _ _) (.cons (.refl _) .nil)) ?_;(conv=>whnf);refine pw_ret ?_;(conv=>whnf);cases H; rfl
noncomputable def f460 [LO]  (a0 : Int) (a1 : Int) (a2 : List (ByteArray × Int × Int × Int)) : Option ByteArray :=
 obnd (f471 ([a0, a1] : List Int)) fun (y1 : ByteArray) =>
 obnd (
 oloop (τ := (List ByteArray) × Int) (ρ := (List ByteArray)) (fun e7 =>
 oite ((ilt e7.2 ((a2.map e_SIII).length : Int))) (
 ogrd ((ile 0 e7.2)) (
 obnd (a2[e7.2.toNat]?) fun (x12 : ByteArray × Int × Int × Int) =>
 ogrd ((Nat.ble (x12.1.size + (⟨#[32]⟩ : ByteArray).size) 9223372036854775807)) (
 obnd (f471 ([x12.2.1, x12.2.2.1, x12.2.2.2] : List Int)) fun (y14 : ByteArray) =>
 ogrd ((Nat.ble ((x12.1 ++ (⟨#[32]⟩ : ByteArray)).size + y14.size) 9223372036854775807)) (
 ogrd (fits 16 (e7.1.length + ([((x12.1 ++ (⟨#[32]⟩ : ByteArray)) ++ y14)] : List ByteArray).length)) (
 some (.inl (((e7.1 ++ ([((x12.1 ++ (⟨#[32]⟩ : ByteArray)) ++ y14)] : List ByteArray)), (IntKind.i64.wrap (e7.2 + (1 : Int))))))))))
 ) (
 some (.inr (e7.1)))
 ) ((([y1] : List ByteArray), (0 : Int)))
 ) fun (r3 : (List ByteArray)) =>
 obnd (f384 r3 (⟨#[59]⟩ : ByteArray)) fun (y18 : ByteArray) =>
 some y18
theorem c460 [LO]  {a0 : Int} {a1 : Int} {a2 : List (ByteArray × Int × Int × Int)} {x : ByteArray} (H : f460 a0 a1 a2 = some x) : ICalls E 460 [(.agg ⟨[(.int .i64 a0), (.int .i64 a1), (VS 4 (a2.map e_SIII))]⟩)] AHeap.none fun v _ => v = (.string x) := by
 refine icalls_fn (pfnw ?_); unfold f460 at H;(conv=>whnf);refine pwa ?_;(conv=>whnf);refine pwa ?_;(conv=>whnf);obtain ⟨y1, h2, H⟩ := obnd_some H;refine ICalls.goW (c471 h2) (.cons (.vt _ _ _) .nil) ?_;(conv=>whnf);obtain ⟨r3, h4, H⟩ := obnd_some H;refine pw_join (ρ := (List ByteArray)) (fun e => ⟨[(3, (VT 1 (e.map eS) 2))], ⟨3, [(2, .tail (e.map eS).length 1), (1, .tail 2 1), (0, .rw [(.int .i64 a0), (.int .i64 a1), (VS 4 (a2.map e_SIII))])], false⟩⟩) r3 ?_ ?_
 · refine pwa ?_;(conv=>whnf);refine pw_block ?_;refine pw_loop (τ := (List ByteArray) × Int) (fun e => ⟨[(3, (VT 1 (e.1.map eS) 2)), (14, (VS 4 (a2.map e_SIII))), (15, (.int .i64 ((a2.map e_SIII).length : Int))), (16, (.int .i64 e.2))], ⟨3, [(2, .tail (e.1.map eS).length 1), (1, .tail 2 1), (0, .rw [(.int .i64 a0), (.int .i64 a1), (VS 4 (a2.map e_SIII))])], false⟩⟩) h4 ?_ (fun _ => nl rfl) ?_
   · exact .sub' (nl rfl) (.cons rfl (.cons rfl (.cons rfl (.cons rfl .nil))))
   · intro e7 x8 h9;refine pwa ?_;(conv=>whnf);refine pw_seq ?_;refine pw_cond ?_;(conv=>whnf);refine pbr_oite h9 (fun g10 h9 => ?_) (fun g10 h9 => ?_)
     · (conv=>whnf);refine pw_skip ?_;(conv=>whnf);refine pw_seq ?_;refine pw_block ?_;refine pwa ?_;(conv=>whnf);refine pbr_ogrd h9 (fun g11 h9 => ?_);(conv=>whnf);refine nth_o (l := a2) h9 (fun x12 _ h9 => ?_);(conv=>whnf);refine pw_draw ?_;(conv=>whnf);refine pbr_ogrd h9 (fun g13 h9 => ?_);(conv=>whnf);refine ⟨?_, trivial⟩;(conv=>whnf);refine ⟨by trivial,?_⟩;(conv=>whnf);refine ⟨?_, trivial⟩;(conv=>whnf);obtain ⟨y14, h15, h9⟩ := obnd_some h9;refine ICalls.goW (c471 h15) (.cons (.vt _ _ _) .nil) ?_;(conv=>whnf);refine ⟨by trivial,?_⟩
       (conv=>whnf);refine pbr_ogrd h9 (fun g16 h9 => ?_);(conv=>whnf);refine ⟨?_, trivial⟩;(conv=>whnf);refine ⟨by trivial,?_⟩;(conv=>whnf);refine ⟨?_, trivial⟩;(conv=>whnf);refine app_o (l := e7.1) (m := ([((x12.1 ++ (⟨#[32]⟩ : ByteArray)) ++ y14)] : List ByteArray)) (f := eS) h9 (by rfl) (by rfl) (by rfl) (fun h9 => ?_);(conv=>whnf);refine ⟨by trivial,?_⟩;(conv=>whnf);refine ⟨?_, trivial⟩;(conv=>whnf);refine ⟨by trivial,?_⟩;(conv=>whnf);refine pw_ops ?_
       refine po_all ?_;(conv=>whnf);cases h9;refine ⟨_, rfl, ?_⟩;refine Recast.trunc (nl rfl) ?_ ?_
       · repeat (first | exact .nil | refine .cons rfl (by first | exact OBnd.rwc (nl rfl) rfl | exact OBnd.tail (nl rfl) | trivial) ?_)
       · repeat (first | exact .nil | refine .cons rfl (by first | exact Bnd.ptr (nl rfl) | exact Bnd.vt (nl rfl) | exact Bnd.cl) ?_)
     · (conv=>whnf);refine pw_exit ?_;(conv=>whnf);cases h9;refine ⟨_, rfl, ?_⟩; rintro rfl;(conv=>whnf);exact ⟨(.cons rfl .nil), rfl⟩
 · refine pwa ?_;(conv=>whnf);obtain ⟨y18, h19, H⟩ := obnd_some H;refine ICalls.goW (c384 h19) (.cons (.vt _ _ _) (.cons (.refl _) .nil)) ?_;(conv=>whnf);refine pw_ret ?_;(conv=>whnf);cases H; rfl
noncomputable def f310  (a0 : Int) (a1 : Int) (a2 : Int) (a3 : List (Int × Int × Int)) : Option (Int × Int × Int × (List (Int × Int × Int))) :=
 ogrd (fits 24 (([] : List (Int × Int × Int)).length + a3.length)) (
 some (a0, a1, a2, (([] : List (Int × Int × Int)) ++ a3)))
theorem c310  {a0 : Int} {a1 : Int} {a2 : Int} {a3 : List (Int × Int × Int)} {x : Int × Int × Int × (List (Int × Int × Int))} (H : f310 a0 a1 a2 a3 = some x) : ICalls E 310 [(.agg ⟨[(.int .i64 a0), (.int .i64 a1), (.int .i64 a2), (VS 3 (a3.map e_III))]⟩)] AHeap.none fun v _ => v = (.agg ⟨[(.int .i64 x.1), (.int .i64 x.2.1), (.int .i64 x.2.2.1), (VS 3 (x.2.2.2.map e_III))]⟩) := by
 refine ICalls.frz ?_;refine icalls_fn (pfnw ?_); unfold f310 at H;(conv=>whnf);refine pwa ?_;(conv=>whnf);refine pwa ?_;(conv=>whnf);refine app_o (l := ([] : List (Int × Int × Int))) (m := a3) (f := e_III) H (by rfl) (by rfl) (by rfl) (fun H => ?_);(conv=>whnf);refine pwa ?_;(conv=>whnf);refine pw_ret ?_;(conv=>whnf);cases H; show ∃ D, Fz _ D 0 (.agg ⟨[(.int .i64 a0), (.int .i64 a1), (.int .i64 a2), (VT 3 _ 2)]⟩) _;exact ⟨fun _ => false, .aggl (.cons .cl (.cons .cl (.cons .cl (.cons .vtc (.nil)))))⟩
noncomputable def f461 [LO]  (a0 : Int) (a1 : Int) (a2 : Int) (a3 : List (Int × Int × Int)) : Option ByteArray :=
 obnd (f471 ([a0, a1, a2] : List Int)) fun (y1 : ByteArray) =>
 obnd (
 oloop (τ := (List ByteArray) × Int) (ρ := (List ByteArray)) (fun e7 =>
 oite ((ilt e7.2 ((a3.map e_III).length : Int))) (
 ogrd ((ile 0 e7.2)) (
 obnd (a3[e7.2.toNat]?) fun (x12 : Int × Int × Int) =>
 obnd (f471 ([x12.1, x12.2.1, x12.2.2] : List Int)) fun (y13 : ByteArray) =>
 ogrd (fits 16 (e7.1.length + ([y13] : List ByteArray).length)) (
 some (.inl (((e7.1 ++ ([y13] : List ByteArray)), (IntKind.i64.wrap (e7.2 + (1 : Int))))))))
 ) (
 some (.inr (e7.1)))
 ) ((([y1] : List ByteArray), (0 : Int)))
 ) fun (r3 : (List ByteArray)) =>
 obnd (f384 r3 (⟨#[59]⟩ : ByteArray)) fun (y16 : ByteArray) =>
 some y16
theorem c461 [LO]  {a0 : Int} {a1 : Int} {a2 : Int} {a3 : List (Int × Int × Int)} {x : ByteArray} (H : f461 a0 a1 a2 a3 = some x) : ICalls E 461 [(.agg ⟨[(.int .i64 a0), (.int .i64 a1), (.int .i64 a2), (VS 3 (a3.map e_III))]⟩)] AHeap.none fun v _ => v = (.string x) := by
 refine icalls_fn (pfnw ?_); unfold f461 at H;(conv=>whnf);refine pwa ?_;(conv=>whnf);refine pwa ?_;(conv=>whnf);obtain ⟨y1, h2, H⟩ := obnd_some H;refine ICalls.goW (c471 h2) (.cons (.vt _ _ _) .nil) ?_;(conv=>whnf);obtain ⟨r3, h4, H⟩ := obnd_some H;refine pw_join (ρ := (List ByteArray)) (fun e => ⟨[(3, (VT 1 (e.map eS) 2))], ⟨3, [(2, .tail (e.map eS).length 1), (1, .tail 3 1), (0, .rw [(.int .i64 a0), (.int .i64 a1), (.int .i64 a2), (VS 3 (a3.map e_III))])], false⟩⟩) r3 ?_ ?_
 · refine pwa ?_;(conv=>whnf);refine pw_block ?_;refine pw_loop (τ := (List ByteArray) × Int) (fun e => ⟨[(3, (VT 1 (e.1.map eS) 2)), (16, (VS 3 (a3.map e_III))), (17, (.int .i64 ((a3.map e_III).length : Int))), (18, (.int .i64 e.2))], ⟨3, [(2, .tail (e.1.map eS).length 1), (1, .tail 3 1), (0, .rw [(.int .i64 a0), (.int .i64 a1), (.int .i64 a2), (VS 3 (a3.map e_III))])], false⟩⟩) h4 ?_ (fun _ => nl rfl) ?_
   · exact .sub' (nl rfl) (.cons rfl (.cons rfl (.cons rfl (.cons rfl .nil))))
   · intro e7 x8 h9;refine pwa ?_;(conv=>whnf);refine pw_seq ?_;refine pw_cond ?_;(conv=>whnf);refine pbr_oite h9 (fun g10 h9 => ?_) (fun g10 h9 => ?_)
     · (conv=>whnf);refine pw_skip ?_;(conv=>whnf);refine pw_seq ?_;refine pw_block ?_;refine pwa ?_;(conv=>whnf);refine pbr_ogrd h9 (fun g11 h9 => ?_);(conv=>whnf);refine nth_o (l := a3) h9 (fun x12 _ h9 => ?_);(conv=>whnf);refine pw_ops ?_;refine po_all ?_;(conv=>whnf);obtain ⟨y13, h14, h9⟩ := obnd_some h9;refine ICalls.goW (c471 h14) (.cons (.vt _ _ _) .nil) ?_;(conv=>whnf);refine app_o (l := e7.1) (m := ([y13] : List ByteArray)) (f := eS) h9 (by rfl) (by rfl) (by rfl) (fun h9 => ?_);(conv=>whnf);refine pw_ops ?_;refine po_all ?_;(conv=>whnf);cases h9;refine ⟨_, rfl, ?_⟩;refine Recast.trunc (nl rfl) ?_ ?_
       · repeat (first | exact .nil | refine .cons rfl (by first | exact OBnd.rwc (nl rfl) rfl | exact OBnd.tail (nl rfl) | trivial) ?_)
       · repeat (first | exact .nil | refine .cons rfl (by first | exact Bnd.ptr (nl rfl) | exact Bnd.vt (nl rfl) | exact Bnd.cl) ?_)
     · (conv=>whnf);refine pw_exit ?_;(conv=>whnf);cases h9;refine ⟨_, rfl, ?_⟩; rintro rfl;(conv=>whnf);exact ⟨(.cons rfl .nil), rfl⟩
 · refine pwa ?_;(conv=>whnf);obtain ⟨y16, h17, H⟩ := obnd_some H;refine ICalls.goW (c384 h17) (.cons (.vt _ _ _) (.cons (.refl _) .nil)) ?_;(conv=>whnf);refine pw_ret ?_;(conv=>whnf);cases H; rfl
noncomputable def f462 [LO]  (a0 : ByteArray) : Option (Int × Int × (List (ByteArray × Int × Int × Int)) × Int) :=
 oite ((ilt (60000 : Int) (a0.size : Int))) (
 some ((0 : Int), (0 : Int), ([] : List (ByteArray × Int × Int × Int)), (8 : Int))
 ) (
 obnd (f382 a0 (⟨#[59]⟩ : ByteArray)) fun (y2 : (List ByteArray)) =>
 obnd (
 obnd (y2[(0 : Int).toNat]?) fun (x8 : ByteArray) =>
 obnd (f382 x8 (⟨#[32]⟩ : ByteArray)) fun (y9 : (List ByteArray)) =>
 oite ((!(ieq ((y9.map eS).length : Int) (2 : Int)))) (
 some (false, (0 : Int), (0 : Int))
 ) (
 obndS (
 obnd (y9[(0 : Int).toNat]?) fun (x16 : ByteArray) =>
 obnd (f394 x16) fun (y17 : Int × Bool) =>
 obnd (
 oite y17.2 (
 obnd (y9[(0 : Int).toNat]?) fun (x24 : ByteArray) =>
 obnd (f385 y17.1) fun (y25 : ByteArray) =>
 oite ((!(y25.toList == x24.toList))) (
 some true
 ) (
 oite ((ilt y17.1 (0 : Int))) (
 some true
 ) (
 obnd (y9[(0 : Int).toNat]?) fun (x29 : ByteArray) =>
 obnd (f395 x29 (⟨#[45]⟩ : ByteArray)) fun (y30 : ByteArray) =>
 some (ilt (7 : Int) (y30.size : Int))))
 ) (
 some true)
 ) fun (r19 : Bool) =>
 oite r19 (
 some (.inr ((false, (0 : Int), (0 : Int))))
 ) (
 obnd (y9[(1 : Int).toNat]?) fun (x33 : ByteArray) =>
 obnd (f394 x33) fun (y34 : Int × Bool) =>
 obnd (
 oite y34.2 (
 obnd (y9[(1 : Int).toNat]?) fun (x41 : ByteArray) =>
 obnd (f385 y34.1) fun (y42 : ByteArray) =>
 oite ((!(y42.toList == x41.toList))) (
 some true
 ) (
 oite ((ilt y34.1 (0 : Int))) (
 some true
 ) (
 obnd (y9[(1 : Int).toNat]?) fun (x46 : ByteArray) =>
 obnd (f395 x46 (⟨#[45]⟩ : ByteArray)) fun (y47 : ByteArray) =>
 some (ilt (7 : Int) (y47.size : Int))))
 ) (
 some true)
 ) fun (r36 : Bool) =>
 oite r36 (
 some (.inr ((false, y17.1, (0 : Int))))
 ) (
 some (.inl (y17.1, y34.1))))
 ) fun (r50 : Int × Int) =>
 some (true, r50.1, r50.2))
 ) fun (r4 : Bool × Int × Int) =>
 obnd (
 obnd (oslL y2 (1 : Int)) fun (m55 : List ByteArray) =>
 oloop (τ := Bool × Int × (List (ByteArray × Int × Int × Int))) (ρ := Bool × (List (ByteArray × Int × Int × Int))) (fun e58 =>
 oite ((ilt e58.2.1 ((m55.map eS).length : Int))) (
 ogrd ((ile 0 e58.2.1)) (
 obnd (m55[e58.2.1.toNat]?) fun (x63 : ByteArray) =>
 obnd (f382 x63 (⟨#[32]⟩ : ByteArray)) fun (y64 : (List ByteArray)) =>
 obnd (y64[(0 : Int).toNat]?) fun (x66 : ByteArray) =>
 obnd (
 obnd (y64[(0 : Int).toNat]?) fun (x71 : ByteArray) =>
 oite ((!(x71.toList == (⟨#[]⟩ : ByteArray).toList))) (
 obnd (oslL y64 (1 : Int)) fun (m74 : List ByteArray) =>
 oite ((!(ieq ((m74.map eS).length : Int) (3 : Int)))) (
 some (false, (0 : Int), (0 : Int), (0 : Int))
 ) (
 obndS (
 obnd (m74[(0 : Int).toNat]?) fun (x82 : ByteArray) =>
 obnd (f394 x82) fun (y83 : Int × Bool) =>
 obnd (
 oite y83.2 (
 obnd (m74[(0 : Int).toNat]?) fun (x90 : ByteArray) =>
 obnd (f385 y83.1) fun (y91 : ByteArray) =>
 oite ((!(y91.toList == x90.toList))) (
 some true
 ) (
 oite ((ilt y83.1 (0 : Int))) (
 obnd (m74[(0 : Int).toNat]?) fun (x95 : ByteArray) =>
 obnd (f395 x95 (⟨#[45]⟩ : ByteArray)) fun (y96 : ByteArray) =>
 some (ilt (7 : Int) (y96.size : Int))
 ) (
 obnd (m74[(0 : Int).toNat]?) fun (x98 : ByteArray) =>
 obnd (f395 x98 (⟨#[45]⟩ : ByteArray)) fun (y99 : ByteArray) =>
 some (ilt (7 : Int) (y99.size : Int))))
 ) (
 some true)
 ) fun (r85 : Bool) =>
 oite r85 (
 some (.inr ((false, (0 : Int), (0 : Int), (0 : Int))))
 ) (
 obnd (m74[(1 : Int).toNat]?) fun (x102 : ByteArray) =>
 obnd (f394 x102) fun (y103 : Int × Bool) =>
 obnd (
 oite y103.2 (
 obnd (m74[(1 : Int).toNat]?) fun (x110 : ByteArray) =>
 obnd (f385 y103.1) fun (y111 : ByteArray) =>
 oite ((!(y111.toList == x110.toList))) (
 some true
 ) (
 oite ((ilt y103.1 (0 : Int))) (
 obnd (m74[(1 : Int).toNat]?) fun (x115 : ByteArray) =>
 obnd (f395 x115 (⟨#[45]⟩ : ByteArray)) fun (y116 : ByteArray) =>
 some (ilt (7 : Int) (y116.size : Int))
 ) (
 obnd (m74[(1 : Int).toNat]?) fun (x118 : ByteArray) =>
 obnd (f395 x118 (⟨#[45]⟩ : ByteArray)) fun (y119 : ByteArray) =>
 some (ilt (7 : Int) (y119.size : Int))))
 ) (
 some true)
 ) fun (r105 : Bool) =>
 oite r105 (
 some (.inr ((false, y83.1, (0 : Int), (0 : Int))))
 ) (
 obnd (m74[(2 : Int).toNat]?) fun (x122 : ByteArray) =>
 obnd (f394 x122) fun (y123 : Int × Bool) =>
 obnd (
 oite y123.2 (
 obnd (m74[(2 : Int).toNat]?) fun (x130 : ByteArray) =>
 obnd (f385 y123.1) fun (y131 : ByteArray) =>
 oite ((!(y131.toList == x130.toList))) (
 some true
 ) (
 oite ((ilt y123.1 (0 : Int))) (
 obnd (m74[(2 : Int).toNat]?) fun (x135 : ByteArray) =>
 obnd (f395 x135 (⟨#[45]⟩ : ByteArray)) fun (y136 : ByteArray) =>
 some (ilt (7 : Int) (y136.size : Int))
 ) (
 obnd (m74[(2 : Int).toNat]?) fun (x138 : ByteArray) =>
 obnd (f395 x138 (⟨#[45]⟩ : ByteArray)) fun (y139 : ByteArray) =>
 some (ilt (7 : Int) (y139.size : Int))))
 ) (
 some true)
 ) fun (r125 : Bool) =>
 oite r125 (
 some (.inr ((false, y83.1, y103.1, (0 : Int))))
 ) (
 some (.inl (y83.1, y103.1, y123.1)))))
 ) fun (r142 : Int × Int × Int) =>
 some (e58.1, r142.1, r142.2.1, r142.2.2))
 ) (
 some (false, (0 : Int), (0 : Int), (0 : Int)))
 ) fun (r67 : Bool × Int × Int × Int) =>
 ogrd (fits 40 (e58.2.2.length + ([(x66, r67.2.1, r67.2.2.1, r67.2.2.2)] : List (ByteArray × Int × Int × Int)).length)) (
 some (.inl ((r67.1, (IntKind.i64.wrap (e58.2.1 + (1 : Int))), (e58.2.2 ++ ([(x66, r67.2.1, r67.2.2.1, r67.2.2.2)] : List (ByteArray × Int × Int × Int))))))))
 ) (
 some (.inr ((e58.1, e58.2.2))))
 ) ((r4.1, (0 : Int), ([] : List (ByteArray × Int × Int × Int))))
 ) fun (r51 : Bool × (List (ByteArray × Int × Int × Int))) =>
 oite (!r51.1) (
 some ((0 : Int), (0 : Int), ([] : List (ByteArray × Int × Int × Int)), (7 : Int))
 ) (
 obnd (f249 r4.2.1 r4.2.2 r51.2) fun (y145 : Int × Int) =>
 oite ((!(ieq y145.2 (0 : Int)))) (
 some ((0 : Int), (0 : Int), ([] : List (ByteArray × Int × Int × Int)), y145.2)
 ) (
 some (r4.2.1, r4.2.2, r51.2, (0 : Int)))))
theorem c462 [LO]  {a0 : ByteArray} {x : Int × Int × (List (ByteArray × Int × Int × Int)) × Int} (H : f462 a0 = some x) : ICalls E 462 [(.string a0)] AHeap.none fun v _ => v = (.tuple ⟨[(.agg ⟨[(.int .i64 x.1), (.int .i64 x.2.1), (VS 4 (x.2.2.1.map e_SIII))]⟩), (.int .i64 x.2.2.2)]⟩) := by
  refine ICalls.frz ?_;refine icalls_fn (pfnw ?_); unfold f462 at H;(conv=>whnf);refine pwa ?_;(conv=>whnf);refine pw_seq ?_;refine pwa ?_;(conv=>whnf);refine pw_cond ?_;(conv=>whnf);refine pbr_oite H (fun g1 H => ?_) (fun g1 H => ?_)
  · (conv=>whnf);refine pwa ?_;(conv=>whnf);refine pw_ret ?_;(conv=>whnf);cases H; show ∃ D, Fz _ D 0 (.tuple ⟨[(.agg ⟨[(.int .i64 0), (.int .i64 0), (.slice none 0 0)]⟩), (.int .i64 8)]⟩) _;exact ⟨fun _ => false, .tuplel (.cons (.aggl (.cons .cl (.cons .cl (.cons (.nil _) (.nil))))) (.cons .cl (.nil)))⟩
  · (conv=>whnf);refine pw_skip ?_;(conv=>whnf);refine pwa ?_;(conv=>whnf);refine pwa ?_;(conv=>whnf);obtain ⟨y2, h3, H⟩ := obnd_some H;refine (c382 h3).go ?_;(conv=>whnf);obtain ⟨r4, h5, H⟩ := obnd_some H;refine pw_joinR (ρ := Bool × Int × Int) (fun e => ⟨[(2, (.pointer (some ⟨0, 0, none⟩))), (4, (.pointer (some ⟨1, 0, none⟩))), (5, (VS 1 (y2.map eS))), (6, (.bool e.1))], ⟨2, [(1, .rw [(.int .i64 e.2.1), (.int .i64 e.2.2), (.slice none 0 0)]), (0, .rw [(.int .i64 0), (.int .i64 0), (.slice none 0 0)])], false⟩⟩) r4 ?_ ?_
    · refine pw_ops ?_;refine po_all ?_;(conv=>whnf);refine nth_o (l := y2) h5 (fun x8 _ h5 => ?_);(conv=>whnf);obtain ⟨y9, h10, h5⟩ := obnd_some h5;refine (c382 h10).go ?_;(conv=>whnf);refine pcalls_in ?_;(conv=>whnf);refine pwa ?_;(conv=>whnf);refine pw_seq ?_;refine pwa ?_;(conv=>whnf);refine pw_cond ?_;(conv=>whnf);refine pbr_oite h5 (fun g11 h5 => ?_) (fun g11 h5 => ?_)
      · (conv=>whnf);refine pwa ?_;(conv=>whnf);refine pw_ret ?_;(conv=>whnf);cases h5;exact Recast.fz (fun _ => false) (nl rfl) (.cons (.same rfl rfl (OBnd.rwl (nl rfl) rfl (.cons .cl (.cons .cl (.cons .cl .nil))))) (.cons (.same rfl rfl (OBnd.rwl (nl rfl) rfl (.cons .cl (.cons .cl (.cons .cl .nil))))) .nil)) (.cons rfl (.same _ (.ptr (nl rfl))) (.cons rfl (.same _ (.ptr (nl rfl))) (.cons rfl (.same _ .cl) (.cons rfl (.same _ .cl) .nil))))
      · (conv=>whnf);refine pw_skip ?_;(conv=>whnf);obtain ⟨r12, h13, h14, h15⟩ := obndS_some h5;refine pw_joinS (ρ := Int × Int) (fun e => ⟨[], ⟨5, [(4, .rw [(.pointer (some ⟨1, 1, none⟩)), (.bool false)]), (3, .rw [(.pointer (some ⟨1, 0, none⟩)), (.bool false)]), (2, .tail 2 2), (1, .rw [(.int .i64 e.1), (.int .i64 e.2), (.slice none 0 0)]), (0, .rw [(.int .i64 0), (.int .i64 0), (.slice none 0 0)])], false⟩⟩) r12 ?_ ?_
        · refine pwa ?_;(conv=>whnf);refine pw_block ?_;refine pw_unroll 3 ?_;(conv=>whnf);refine pwa ?_;(conv=>whnf);refine pw_seq ?_;refine pw_cond ?_;(conv=>whnf);refine pw_skip ?_;(conv=>whnf);refine pw_seq ?_;refine pw_block ?_;refine pwa ?_;(conv=>whnf);refine pwa ?_;(conv=>whnf);refine nth_o (l := y9) h13 (fun x16 _ h13 => ?_);(conv=>whnf);obtain ⟨y17, h18, h13⟩ := obnd_some h13;refine (c394 h18).go ?_;(conv=>whnf);refine pw_seq ?_;obtain ⟨r19, h20, h13⟩ := obnd_some h13;refine pw_join (ρ := Bool) (fun e => ⟨[(0, (VS 1 (y9.map eS))), (6, (.pointer (some ⟨3, 0, none⟩))), (7, (.int .i64 y17.1)), (14, (VT 2 [(.agg ⟨[(.pointer (some ⟨1, 0, none⟩)), (.bool false)]⟩), (.agg ⟨[(.pointer (some ⟨1, 1, none⟩)), (.bool false)]⟩)] 2)), (15, (.int .i64 2)), (16, (.int .i64 0)), (57, (.bool e))], ⟨4, [(3, .rw [(.pointer (some ⟨1, 0, none⟩)), (.bool false)]), (2, .tail 2 2), (1, .rw [(.int .i64 0), (.int .i64 0), (.slice none 0 0)]), (0, .rw [(.int .i64 0), (.int .i64 0), (.slice none 0 0)])], false⟩⟩) r19 ?_ ?_
          · refine pw_draw ?_;(conv=>whnf);refine oite_o2 h20 (fun g23 h20 => ?_) (fun g23 h20 => ?_)
            · rw [ifv_t g23];(conv=>whnf);refine nth_o (l := y9) h20 (fun x24 _ h20 => ?_);(conv=>whnf);refine ⟨?_, trivial⟩;(conv=>whnf);obtain ⟨y25, h26, h20⟩ := obnd_some h20;refine (c385 h26).go ?_;(conv=>whnf);refine ⟨by trivial,?_⟩;(conv=>whnf);refine pbr_oite h20 (fun g27 h20 => ?_) (fun g27 h20 => ?_)
              · (conv=>whnf);(iterate 4 refine pbr_t g27 ?_;(conv=>whnf));refine ⟨?_, trivial⟩;(conv=>whnf);cases h20;exact ⟨by (repeat refine .cons rfl ?_);exact .nil,rfl⟩
              · (conv=>whnf);refine pbr_f g27 ?_;(conv=>whnf);refine pbr_f g27 ?_;(conv=>whnf);refine pbr_oite h20 (fun g28 h20 => ?_) (fun g28 h20 => ?_)
                · (conv=>whnf);refine pbr_t g28 ?_;(conv=>whnf);refine pbr_t g28 ?_;(conv=>whnf);refine pbr_f g27 ?_;(conv=>whnf);refine pbr_t g28 ?_;(conv=>whnf);refine pbr_f g27 ?_;(conv=>whnf);refine ⟨?_, trivial⟩;(conv=>whnf);cases h20;exact ⟨by (repeat refine .cons rfl ?_);exact .nil,rfl⟩
                · (conv=>whnf);refine pbr_f g28 ?_;(conv=>whnf);refine pbr_f g28 ?_;(conv=>whnf);refine pbr_f g27 ?_;(conv=>whnf);refine pbr_f g28 ?_;(conv=>whnf);refine pbr_f g27 ?_;(conv=>whnf);refine nth_o (l := y9) h20 (fun x29 _ h20 => ?_);(conv=>whnf);refine ⟨?_, trivial⟩;(conv=>whnf);obtain ⟨y30, h31, h20⟩ := obnd_some h20;refine (c395 h31).go ?_;(conv=>whnf);refine ⟨by trivial,?_⟩;(conv=>whnf);cases h20;exact ⟨by (repeat refine .cons rfl ?_);exact .nil,rfl⟩
            · rw [ifv_f g23];(conv=>whnf);refine ⟨?_, trivial⟩;(conv=>whnf);refine ⟨?_, trivial⟩;(conv=>whnf);cases h20;exact ⟨by (repeat refine .cons rfl ?_);exact .nil,rfl⟩
          · refine pw_cond ?_;(conv=>whnf);refine pbr_oite h13 (fun g32 h13 => ?_) (fun g32 h13 => ?_)
            · (conv=>whnf);refine pwa ?_;(conv=>whnf);refine pw_ret ?_;(conv=>whnf);cases h13;obtain rfl := h15 _ rfl;exact Recast.fz (fun _ => false) (nl rfl) (.cons (.same rfl rfl (OBnd.rwl (nl rfl) rfl (.cons .cl (.cons .cl (.cons .cl .nil))))) (.cons (.same rfl rfl (OBnd.rwl (nl rfl) rfl (.cons .cl (.cons .cl (.cons .cl .nil))))) .nil)) (.cons rfl (.same _ (.ptr (nl rfl))) (.cons rfl (.same _ (.ptr (nl rfl))) (.cons rfl (.same _ .cl) (.cons rfl (.same _ .cl) .nil))))
            · (conv=>whnf);refine pw_skip ?_;(conv=>whnf);refine pw_ops ?_;refine po_all ?_;(conv=>whnf);refine pw_ops ?_;refine po_all ?_;(conv=>whnf);refine ⟨_, .refl, nl rfl, ?_⟩;(conv=>whnf);refine pwa ?_;(conv=>whnf);refine pw_seq ?_;refine pw_cond ?_;(conv=>whnf);refine pw_skip ?_;(conv=>whnf);refine pw_seq ?_;refine pw_block ?_;refine pwa ?_;(conv=>whnf);refine pwa ?_;(conv=>whnf);refine nth_o (l := y9) h13 (fun x33 _ h13 => ?_);(conv=>whnf);obtain ⟨y34, h35, h13⟩ := obnd_some h13;refine (c394 h35).go ?_;(conv=>whnf);refine pw_seq ?_;obtain ⟨r36, h37, h13⟩ := obnd_some h13
              refine pw_join (ρ := Bool) (fun e => ⟨[(0, (VS 1 (y9.map eS))), (6, (.pointer (some ⟨4, 0, none⟩))), (7, (.int .i64 y34.1)), (14, (VT 2 [(.agg ⟨[(.pointer (some ⟨1, 0, none⟩)), (.bool false)]⟩), (.agg ⟨[(.pointer (some ⟨1, 1, none⟩)), (.bool false)]⟩)] 2)), (15, (.int .i64 2)), (16, (.int .i64 1)), (57, (.bool e))], ⟨5, [(4, .rw [(.pointer (some ⟨1, 1, none⟩)), (.bool false)]), (3, .rw [(.pointer (some ⟨1, 0, none⟩)), (.bool false)]), (2, .tail 2 2), (1, .rw [(.int .i64 y17.1), (.int .i64 0), (.slice none 0 0)]), (0, .rw [(.int .i64 0), (.int .i64 0), (.slice none 0 0)])], false⟩⟩) r36 ?_ ?_
              · refine pw_draw ?_;(conv=>whnf);refine oite_o2 h37 (fun g40 h37 => ?_) (fun g40 h37 => ?_)
                · rw [ifv_t g40];(conv=>whnf);refine nth_o (l := y9) h37 (fun x41 _ h37 => ?_);(conv=>whnf);refine ⟨?_, trivial⟩;(conv=>whnf);obtain ⟨y42, h43, h37⟩ := obnd_some h37;refine (c385 h43).go ?_;(conv=>whnf);refine ⟨by trivial,?_⟩;(conv=>whnf);refine pbr_oite h37 (fun g44 h37 => ?_) (fun g44 h37 => ?_)
                  · (conv=>whnf);(iterate 4 refine pbr_t g44 ?_;(conv=>whnf));refine ⟨?_, trivial⟩;(conv=>whnf);cases h37;exact ⟨by (repeat refine .cons rfl ?_);exact .nil,rfl⟩
                  · (conv=>whnf);refine pbr_f g44 ?_;(conv=>whnf);refine pbr_f g44 ?_;(conv=>whnf);refine pbr_oite h37 (fun g45 h37 => ?_) (fun g45 h37 => ?_)
                    · (conv=>whnf);refine pbr_t g45 ?_;(conv=>whnf);refine pbr_t g45 ?_;(conv=>whnf);refine pbr_f g44 ?_;(conv=>whnf);refine pbr_t g45 ?_;(conv=>whnf);refine pbr_f g44 ?_;(conv=>whnf);refine ⟨?_, trivial⟩;(conv=>whnf);cases h37;exact ⟨by (repeat refine .cons rfl ?_);exact .nil,rfl⟩
                    · (conv=>whnf);refine pbr_f g45 ?_;(conv=>whnf);refine pbr_f g45 ?_;(conv=>whnf);refine pbr_f g44 ?_;(conv=>whnf);refine pbr_f g45 ?_;(conv=>whnf);refine pbr_f g44 ?_;(conv=>whnf);refine nth_o (l := y9) h37 (fun x46 _ h37 => ?_);(conv=>whnf);refine ⟨?_, trivial⟩;(conv=>whnf);obtain ⟨y47, h48, h37⟩ := obnd_some h37;refine (c395 h48).go ?_;(conv=>whnf);refine ⟨by trivial,?_⟩;(conv=>whnf);cases h37;exact ⟨by (repeat refine .cons rfl ?_);exact .nil,rfl⟩
                · rw [ifv_f g40];(conv=>whnf);refine ⟨?_, trivial⟩;(conv=>whnf);refine ⟨?_, trivial⟩;(conv=>whnf);cases h37;exact ⟨by (repeat refine .cons rfl ?_);exact .nil,rfl⟩
              · refine pw_cond ?_;(conv=>whnf);refine pbr_oite h13 (fun g49 h13 => ?_) (fun g49 h13 => ?_)
                · (conv=>whnf);refine pwa ?_;(conv=>whnf);refine pw_ret ?_;(conv=>whnf);cases h13;obtain rfl := h15 _ rfl;exact Recast.fz (fun _ => false) (nl rfl) (.cons (.same rfl rfl (OBnd.rwl (nl rfl) rfl (.cons .cl (.cons .cl (.cons .cl .nil))))) (.cons (.same rfl rfl (OBnd.rwl (nl rfl) rfl (.cons .cl (.cons .cl (.cons .cl .nil))))) .nil)) (.cons rfl (.same _ (.ptr (nl rfl))) (.cons rfl (.same _ (.ptr (nl rfl))) (.cons rfl (.same _ .cl) (.cons rfl (.same _ .cl) .nil))))
                · (conv=>whnf);refine pw_skip ?_;(conv=>whnf);refine pw_ops ?_;refine po_all ?_;(conv=>whnf);refine pw_ops ?_;refine po_all ?_;(conv=>whnf);refine ⟨_, .refl, nl rfl, ?_⟩;(conv=>whnf);refine pwa ?_;(conv=>whnf);refine pw_seq ?_;refine pw_cond ?_;(conv=>whnf);refine pw_exit ?_;(conv=>whnf);cases h13;exact ⟨_, rfl, ⟨.nil, rfl⟩⟩
        · intro r50 hr; have h5 := h14 _ hr;refine pwa ?_;(conv=>whnf);refine pw_ret ?_;(conv=>whnf);cases h5;exact Recast.fz (fun _ => false) (nl rfl) (.cons (.same rfl rfl (OBnd.rwl (nl rfl) rfl (.cons .cl (.cons .cl (.cons .cl .nil))))) (.cons (.same rfl rfl (OBnd.rwl (nl rfl) rfl (.cons .cl (.cons .cl (.cons .cl .nil))))) .nil)) (.cons rfl (.same _ (.ptr (nl rfl))) (.cons rfl (.same _ (.ptr (nl rfl))) (.cons rfl (.same _ .cl) (.cons rfl (.same _ .cl) .nil))))
    · obtain ⟨r51, h52, H⟩ := obnd_some H;refine pw_join (ρ := Bool × (List (ByteArray × Int × Int × Int))) (fun e => ⟨[(2, (.pointer (some ⟨0, 0, none⟩))), (4, (.pointer (some ⟨1, 0, none⟩))), (6, (.bool e.1))], ⟨3, [(2, .tail (e.2.map e_SIII).length 4), (1, .rw [(.int .i64 r4.2.1), (.int .i64 r4.2.2), (VT 4 (e.2.map e_SIII) 2)]), (0, .rw [(.int .i64 0), (.int .i64 0), (.slice none 0 0)])], false⟩⟩) r51 ?_ ?_
      · refine pwa ?_;(conv=>whnf);refine oslL_o (f := eS) h52 (fun m55 _ h52 h56 h57 => ?_);refine pbr_t (ile_t (by simpa only [List.length_map] using h56.2)) ?_; rw [h57];(conv=>whnf);refine pw_block ?_;refine pw_loop (τ := Bool × Int × (List (ByteArray × Int × Int × Int))) (fun e => ⟨[(2, (.pointer (some ⟨0, 0, none⟩))), (4, (.pointer (some ⟨1, 0, none⟩))), (6, (.bool e.1)), (30, (VS 1 (m55.map eS))), (31, (.int .i64 ((m55.map eS).length : Int))), (32, (.int .i64 e.2.1))], ⟨3, [(2, .tail (e.2.2.map e_SIII).length 4), (1, .rw [(.int .i64 r4.2.1), (.int .i64 r4.2.2), (VT 4 (e.2.2.map e_SIII) 2)]), (0, .rw [(.int .i64 0), (.int .i64 0), (.slice none 0 0)])], false⟩⟩) h52 ?_ (fun _ => nl rfl) ?_
        · exact ((Recast.sub' (nl rfl) (.cons rfl (.cons rfl (.cons rfl (.cons rfl (.cons rfl (.cons rfl .nil)))))) : Recast _ _ ⟨[(2, (.pointer (some ⟨0, 0, none⟩))), (4, (.pointer (some ⟨1, 0, none⟩))), (6, (.bool r4.1)), (30, (VS 1 (m55.map eS))), (31, (.int .i64 ((m55.map eS).length : Int))), (32, (.int .i64 0))], ⟨2, [(1, .rw [(.int .i64 r4.2.1), (.int .i64 r4.2.2), (.slice none 0 0)]), (0, .rw [(.int .i64 0), (.int .i64 0), (.slice none 0 0)])], false⟩⟩).trans (Recast.nilM 4 1 (nl rfl) rfl (nl rfl) rfl (.same (.same (.turn .nil))) rfl))
        · intro e58 x59 h60;refine pwa ?_;(conv=>whnf);refine pw_seq ?_;refine pw_cond ?_;(conv=>whnf);refine pbr_oite h60 (fun g61 h60 => ?_) (fun g61 h60 => ?_)
          · (conv=>whnf);refine pw_skip ?_;(conv=>whnf);refine pw_seq ?_;refine pw_block ?_;refine pwa ?_;(conv=>whnf);refine pbr_ogrd h60 (fun g62 h60 => ?_);(conv=>whnf);refine nth_o (l := m55) h60 (fun x63 _ h60 => ?_);(conv=>whnf);refine pwa ?_;(conv=>whnf);obtain ⟨y64, h65, h60⟩ := obnd_some h60;refine (c382 h65).go ?_;(conv=>whnf);refine pwa ?_;(conv=>whnf);refine nth_o (l := y64) h60 (fun x66 _ h60 => ?_);(conv=>whnf);obtain ⟨r67, h68, h60⟩ := obnd_some h60;refine pw_joinR (ρ := Bool × Int × Int × Int) (fun e => ⟨[(2, (.pointer (some ⟨0, 0, none⟩))), (4, (.pointer (some ⟨1, 0, none⟩))), (6, (.bool e.1)), (10, (.pointer (some ⟨3, 0, none⟩))), (30, (VS 1 (m55.map eS))), (31, (.int .i64 ((m55.map eS).length : Int))), (32, (.int .i64 e58.2.1))], ⟨4, [(3, .rw [(.string x66), (.int .i64 e.2.1), (.int .i64 e.2.2.1), (.int .i64 e.2.2.2)]), (2, .tail (e58.2.2.map e_SIII).length 4), (1, .rw [(.int .i64 r4.2.1), (.int .i64 r4.2.2), (VT 4 (e58.2.2.map e_SIII) 2)]), (0, .rw [(.int .i64 0), (.int .i64 0), (.slice none 0 0)])], false⟩⟩) r67 ?_ ?_
            · refine pw_ops ?_;refine po_ops 5 ?_;(conv=>whnf);refine nth_o (l := y64) h68 (fun x71 _ h68 => ?_);(conv=>whnf);refine po_all ?_;(conv=>whnf);refine pbr_oite h68 (fun g73 h68 => ?_) (fun g73 h68 => ?_)
              · (conv=>whnf);refine pbr_t g73 ?_;(conv=>whnf);refine oslL_o (f := eS) h68 (fun m74 _ h68 h75 h76 => ?_);refine pbr_t (ile_t (by simpa only [List.length_map] using h75.2)) ?_; rw [h76];(conv=>whnf);(iterate 8 refine pbr_t g73 ?_;(conv=>whnf));refine pcalls_in ?_;(conv=>whnf);refine pwa ?_;(conv=>whnf);refine pw_seq ?_;refine pwa ?_;(conv=>whnf);refine pw_cond ?_
                (conv=>whnf);refine pbr_oite h68 (fun g77 h68 => ?_) (fun g77 h68 => ?_)
                · (conv=>whnf);refine pwa ?_;(conv=>whnf);refine pw_ret ?_;(conv=>whnf);refine pbr_t g73 ?_;(conv=>whnf);cases h68;exact Recast.fz (fun _ => false) (nl rfl) (.cons (.same rfl rfl (OBnd.rwl (nl rfl) rfl (.cons .cl (.cons .cl (.cons .cl (.cons .cl .nil)))))) (.cons (.same rfl rfl (OBnd.tail (nl rfl))) (.cons (.same rfl rfl (OBnd.rwl (nl rfl) rfl (.cons .cl (.cons .cl (.cons (.vt (nl rfl)) .nil))))) (.cons (.same rfl rfl (OBnd.rwl (nl rfl) rfl (.cons .cl (.cons .cl (.cons .cl .nil))))) .nil)))) (.cons rfl (.same _ (.ptr (nl rfl))) (.cons rfl (.same _ (.ptr (nl rfl))) (.cons rfl (.same _ .cl) (.cons rfl (.same _ (.ptr (nl rfl))) (.cons rfl (.same _ .cl) (.cons rfl (.same _ .cl) (.cons rfl (.same _ .cl) .nil)))))))
                · (conv=>whnf);refine pw_skip ?_;(conv=>whnf);obtain ⟨r78, h79, h80, h81⟩ := obndS_some h68;refine pw_joinS (ρ := Int × Int × Int) (fun e => ⟨[], ⟨8, [(7, .rw [(.pointer (some ⟨3, 3, none⟩)), (.bool true)]), (6, .rw [(.pointer (some ⟨3, 2, none⟩)), (.bool true)]), (5, .rw [(.pointer (some ⟨3, 1, none⟩)), (.bool true)]), (4, .tail 3 2), (3, .rw [(.string x66), (.int .i64 e.1), (.int .i64 e.2.1), (.int .i64 e.2.2)]), (2, .tail (e58.2.2.map e_SIII).length 4), (1, .rw [(.int .i64 r4.2.1), (.int .i64 r4.2.2), (VT 4 (e58.2.2.map e_SIII) 2)]), (0, .rw [(.int .i64 0), (.int .i64 0), (.slice none 0 0)])], false⟩⟩) r78 ?_ ?_
                  · refine pwa ?_;(conv=>whnf);refine pw_block ?_;refine pw_unroll 4 ?_;(conv=>whnf);refine pwa ?_;(conv=>whnf);refine pw_seq ?_;refine pw_cond ?_;(conv=>whnf);refine pw_skip ?_;(conv=>whnf);refine pw_seq ?_;refine pw_block ?_;refine pwa ?_;(conv=>whnf);refine pwa ?_;(conv=>whnf);refine nth_o (l := m74) h79 (fun x82 _ h79 => ?_);(conv=>whnf);obtain ⟨y83, h84, h79⟩ := obnd_some h79;refine (c394 h84).go ?_;(conv=>whnf);refine pw_seq ?_;obtain ⟨r85, h86, h79⟩ := obnd_some h79;refine pw_join (ρ := Bool) (fun e => ⟨[(0, (VS 1 (m74.map eS))), (6, (.pointer (some ⟨5, 0, none⟩))), (7, (.int .i64 y83.1)), (14, (VT 2 [(.agg ⟨[(.pointer (some ⟨3, 1, none⟩)), (.bool true)]⟩), (.agg ⟨[(.pointer (some ⟨3, 2, none⟩)), (.bool true)]⟩), (.agg ⟨[(.pointer (some ⟨3, 3, none⟩)), (.bool true)]⟩)] 4)), (15, (.int .i64 3)), (16, (.int .i64 0)), (57, (.bool e))], ⟨6, [(5, .rw [(.pointer (some ⟨3, 1, none⟩)), (.bool true)]), (4, .tail 3 2), (3, .rw [(.string x66), (.int .i64 0), (.int .i64 0), (.int .i64 0)]), (2, .tail (e58.2.2.map e_SIII).length 4), (1, .rw [(.int .i64 r4.2.1), (.int .i64 r4.2.2), (VT 4 (e58.2.2.map e_SIII) 2)]), (0, .rw [(.int .i64 0), (.int .i64 0), (.slice none 0 0)])], false⟩⟩) r85 ?_ ?_
                    · refine pw_draw ?_;(conv=>whnf);refine oite_o2 h86 (fun g89 h86 => ?_) (fun g89 h86 => ?_)
                      · rw [ifv_t g89];(conv=>whnf);refine nth_o (l := m74) h86 (fun x90 _ h86 => ?_);(conv=>whnf);refine ⟨?_, trivial⟩;(conv=>whnf);obtain ⟨y91, h92, h86⟩ := obnd_some h86;refine (c385 h92).go ?_;(conv=>whnf);refine ⟨by trivial,?_⟩;(conv=>whnf);refine pbr_oite h86 (fun g93 h86 => ?_) (fun g93 h86 => ?_)
                        · (conv=>whnf);(iterate 4 refine pbr_t g93 ?_;(conv=>whnf));refine ⟨?_, trivial⟩;(conv=>whnf);cases h86;exact ⟨by (repeat refine .cons rfl ?_);exact .nil,rfl⟩
                        · (conv=>whnf);refine pbr_f g93 ?_;(conv=>whnf);refine pbr_f g93 ?_;(conv=>whnf);refine pbr_oite h86 (fun g94 h86 => ?_) (fun g94 h86 => ?_)
                          · (conv=>whnf);refine pbr_t g94 ?_;(conv=>whnf);refine pbr_t g94 ?_;(conv=>whnf);refine pbr_f g93 ?_;(conv=>whnf);refine pbr_t g94 ?_;(conv=>whnf);refine pbr_f g93 ?_;(conv=>whnf);refine nth_o (l := m74) h86 (fun x95 _ h86 => ?_);(conv=>whnf);refine ⟨?_, trivial⟩;(conv=>whnf);obtain ⟨y96, h97, h86⟩ := obnd_some h86;refine (c395 h97).go ?_;(conv=>whnf);refine ⟨by trivial,?_⟩;(conv=>whnf);cases h86;exact ⟨by (repeat refine .cons rfl ?_);exact .nil,rfl⟩
                          · (conv=>whnf);refine pbr_f g94 ?_;(conv=>whnf);refine pbr_f g94 ?_;(conv=>whnf);refine pbr_f g93 ?_;(conv=>whnf);refine pbr_f g94 ?_;(conv=>whnf);refine pbr_f g93 ?_;(conv=>whnf);refine nth_o (l := m74) h86 (fun x98 _ h86 => ?_);(conv=>whnf);refine ⟨?_, trivial⟩;(conv=>whnf);obtain ⟨y99, h100, h86⟩ := obnd_some h86;refine (c395 h100).go ?_;(conv=>whnf);refine ⟨by trivial,?_⟩;(conv=>whnf);cases h86;exact ⟨by (repeat refine .cons rfl ?_);exact .nil,rfl⟩
                      · rw [ifv_f g89];(conv=>whnf);refine ⟨?_, trivial⟩;(conv=>whnf);refine ⟨?_, trivial⟩;(conv=>whnf);cases h86;exact ⟨by (repeat refine .cons rfl ?_);exact .nil,rfl⟩
                    · refine pw_cond ?_;(conv=>whnf);refine pbr_oite h79 (fun g101 h79 => ?_) (fun g101 h79 => ?_)
                      · (conv=>whnf);refine pwa ?_;(conv=>whnf);refine pw_ret ?_;(conv=>whnf);refine pbr_t g73 ?_;(conv=>whnf);cases h79;obtain rfl := h81 _ rfl;exact Recast.fz (fun _ => false) (nl rfl) (.cons (.same rfl rfl (OBnd.rwl (nl rfl) rfl (.cons .cl (.cons .cl (.cons .cl (.cons .cl .nil)))))) (.cons (.same rfl rfl (OBnd.tail (nl rfl))) (.cons (.same rfl rfl (OBnd.rwl (nl rfl) rfl (.cons .cl (.cons .cl (.cons (.vt (nl rfl)) .nil))))) (.cons (.same rfl rfl (OBnd.rwl (nl rfl) rfl (.cons .cl (.cons .cl (.cons .cl .nil))))) .nil)))) (.cons rfl (.same _ (.ptr (nl rfl))) (.cons rfl (.same _ (.ptr (nl rfl))) (.cons rfl (.same _ .cl) (.cons rfl (.same _ (.ptr (nl rfl))) (.cons rfl (.same _ .cl) (.cons rfl (.same _ .cl) (.cons rfl (.same _ .cl) .nil)))))))
                      · (conv=>whnf);refine pw_skip ?_;(conv=>whnf);refine pw_ops ?_;refine po_all ?_;(conv=>whnf);refine pw_ops ?_;refine po_all ?_;(conv=>whnf);refine ⟨_, .refl, nl rfl, ?_⟩;(conv=>whnf);refine pwa ?_;(conv=>whnf);refine pw_seq ?_;refine pw_cond ?_;(conv=>whnf);refine pw_skip ?_;(conv=>whnf);refine pw_seq ?_;refine pw_block ?_;refine pwa ?_;(conv=>whnf);refine pwa ?_;(conv=>whnf);refine nth_o (l := m74) h79 (fun x102 _ h79 => ?_);(conv=>whnf);obtain ⟨y103, h104, h79⟩ := obnd_some h79;refine (c394 h104).go ?_;(conv=>whnf);refine pw_seq ?_
                        obtain ⟨r105, h106, h79⟩ := obnd_some h79;refine pw_join (ρ := Bool) (fun e => ⟨[(0, (VS 1 (m74.map eS))), (6, (.pointer (some ⟨6, 0, none⟩))), (7, (.int .i64 y103.1)), (14, (VT 2 [(.agg ⟨[(.pointer (some ⟨3, 1, none⟩)), (.bool true)]⟩), (.agg ⟨[(.pointer (some ⟨3, 2, none⟩)), (.bool true)]⟩), (.agg ⟨[(.pointer (some ⟨3, 3, none⟩)), (.bool true)]⟩)] 4)), (15, (.int .i64 3)), (16, (.int .i64 1)), (57, (.bool e))], ⟨7, [(6, .rw [(.pointer (some ⟨3, 2, none⟩)), (.bool true)]), (5, .rw [(.pointer (some ⟨3, 1, none⟩)), (.bool true)]), (4, .tail 3 2), (3, .rw [(.string x66), (.int .i64 y83.1), (.int .i64 0), (.int .i64 0)]), (2, .tail (e58.2.2.map e_SIII).length 4), (1, .rw [(.int .i64 r4.2.1), (.int .i64 r4.2.2), (VT 4 (e58.2.2.map e_SIII) 2)]), (0, .rw [(.int .i64 0), (.int .i64 0), (.slice none 0 0)])], false⟩⟩) r105 ?_ ?_
                        · refine pw_draw ?_;(conv=>whnf);refine oite_o2 h106 (fun g109 h106 => ?_) (fun g109 h106 => ?_)
                          · rw [ifv_t g109];(conv=>whnf);refine nth_o (l := m74) h106 (fun x110 _ h106 => ?_);(conv=>whnf);refine ⟨?_, trivial⟩;(conv=>whnf);obtain ⟨y111, h112, h106⟩ := obnd_some h106;refine (c385 h112).go ?_;(conv=>whnf);refine ⟨by trivial,?_⟩;(conv=>whnf);refine pbr_oite h106 (fun g113 h106 => ?_) (fun g113 h106 => ?_)
                            · (conv=>whnf);(iterate 4 refine pbr_t g113 ?_;(conv=>whnf));refine ⟨?_, trivial⟩;(conv=>whnf);cases h106;exact ⟨by (repeat refine .cons rfl ?_);exact .nil,rfl⟩
                            · (conv=>whnf);refine pbr_f g113 ?_;(conv=>whnf);refine pbr_f g113 ?_;(conv=>whnf);refine pbr_oite h106 (fun g114 h106 => ?_) (fun g114 h106 => ?_)
                              · (conv=>whnf);refine pbr_t g114 ?_;(conv=>whnf);refine pbr_t g114 ?_;(conv=>whnf);refine pbr_f g113 ?_;(conv=>whnf);refine pbr_t g114 ?_;(conv=>whnf);refine pbr_f g113 ?_;(conv=>whnf);refine nth_o (l := m74) h106 (fun x115 _ h106 => ?_);(conv=>whnf);refine ⟨?_, trivial⟩;(conv=>whnf);obtain ⟨y116, h117, h106⟩ := obnd_some h106;refine (c395 h117).go ?_;(conv=>whnf);refine ⟨by trivial,?_⟩;(conv=>whnf);cases h106;exact ⟨by (repeat refine .cons rfl ?_);exact .nil,rfl⟩
                              · (conv=>whnf);refine pbr_f g114 ?_;(conv=>whnf);refine pbr_f g114 ?_;(conv=>whnf);refine pbr_f g113 ?_;(conv=>whnf);refine pbr_f g114 ?_;(conv=>whnf);refine pbr_f g113 ?_;(conv=>whnf);refine nth_o (l := m74) h106 (fun x118 _ h106 => ?_);(conv=>whnf);refine ⟨?_, trivial⟩;(conv=>whnf);obtain ⟨y119, h120, h106⟩ := obnd_some h106;refine (c395 h120).go ?_;(conv=>whnf);refine ⟨by trivial,?_⟩;(conv=>whnf);cases h106;exact ⟨by (repeat refine .cons rfl ?_);exact .nil,rfl⟩
                          · rw [ifv_f g109];(conv=>whnf);refine ⟨?_, trivial⟩;(conv=>whnf);refine ⟨?_, trivial⟩;(conv=>whnf);cases h106;exact ⟨by (repeat refine .cons rfl ?_);exact .nil,rfl⟩
                        · refine pw_cond ?_;(conv=>whnf);refine pbr_oite h79 (fun g121 h79 => ?_) (fun g121 h79 => ?_)
                          · (conv=>whnf);refine pwa ?_;(conv=>whnf);refine pw_ret ?_;(conv=>whnf);refine pbr_t g73 ?_;(conv=>whnf);cases h79;obtain rfl := h81 _ rfl;exact Recast.fz (fun _ => false) (nl rfl) (.cons (.same rfl rfl (OBnd.rwl (nl rfl) rfl (.cons .cl (.cons .cl (.cons .cl (.cons .cl .nil)))))) (.cons (.same rfl rfl (OBnd.tail (nl rfl))) (.cons (.same rfl rfl (OBnd.rwl (nl rfl) rfl (.cons .cl (.cons .cl (.cons (.vt (nl rfl)) .nil))))) (.cons (.same rfl rfl (OBnd.rwl (nl rfl) rfl (.cons .cl (.cons .cl (.cons .cl .nil))))) .nil)))) (.cons rfl (.same _ (.ptr (nl rfl))) (.cons rfl (.same _ (.ptr (nl rfl))) (.cons rfl (.same _ .cl) (.cons rfl (.same _ (.ptr (nl rfl))) (.cons rfl (.same _ .cl) (.cons rfl (.same _ .cl) (.cons rfl (.same _ .cl) .nil)))))))
                          · (conv=>whnf);refine pw_skip ?_;(conv=>whnf);refine pw_ops ?_;refine po_all ?_;(conv=>whnf);refine pw_ops ?_;refine po_all ?_;(conv=>whnf);refine ⟨_, .refl, nl rfl, ?_⟩;(conv=>whnf);refine pwa ?_;(conv=>whnf);refine pw_seq ?_;refine pw_cond ?_;(conv=>whnf);refine pw_skip ?_;(conv=>whnf);refine pw_seq ?_;refine pw_block ?_;refine pwa ?_;(conv=>whnf);refine pwa ?_;(conv=>whnf);refine nth_o (l := m74) h79 (fun x122 _ h79 => ?_);(conv=>whnf);obtain ⟨y123, h124, h79⟩ := obnd_some h79;refine (c394 h124).go ?_;(conv=>whnf);refine pw_seq ?_
                            obtain ⟨r125, h126, h79⟩ := obnd_some h79;refine pw_join (ρ := Bool) (fun e => ⟨[(0, (VS 1 (m74.map eS))), (6, (.pointer (some ⟨7, 0, none⟩))), (7, (.int .i64 y123.1)), (14, (VT 2 [(.agg ⟨[(.pointer (some ⟨3, 1, none⟩)), (.bool true)]⟩), (.agg ⟨[(.pointer (some ⟨3, 2, none⟩)), (.bool true)]⟩), (.agg ⟨[(.pointer (some ⟨3, 3, none⟩)), (.bool true)]⟩)] 4)), (15, (.int .i64 3)), (16, (.int .i64 2)), (57, (.bool e))], ⟨8, [(7, .rw [(.pointer (some ⟨3, 3, none⟩)), (.bool true)]), (6, .rw [(.pointer (some ⟨3, 2, none⟩)), (.bool true)]), (5, .rw [(.pointer (some ⟨3, 1, none⟩)), (.bool true)]), (4, .tail 3 2), (3, .rw [(.string x66), (.int .i64 y83.1), (.int .i64 y103.1), (.int .i64 0)]), (2, .tail (e58.2.2.map e_SIII).length 4), (1, .rw [(.int .i64 r4.2.1), (.int .i64 r4.2.2), (VT 4 (e58.2.2.map e_SIII) 2)]), (0, .rw [(.int .i64 0), (.int .i64 0), (.slice none 0 0)])], false⟩⟩) r125 ?_ ?_
                            · refine pw_draw ?_;(conv=>whnf);refine oite_o2 h126 (fun g129 h126 => ?_) (fun g129 h126 => ?_)
                              · rw [ifv_t g129];(conv=>whnf);refine nth_o (l := m74) h126 (fun x130 _ h126 => ?_);(conv=>whnf);refine ⟨?_, trivial⟩;(conv=>whnf);obtain ⟨y131, h132, h126⟩ := obnd_some h126;refine (c385 h132).go ?_;(conv=>whnf);refine ⟨by trivial,?_⟩;(conv=>whnf);refine pbr_oite h126 (fun g133 h126 => ?_) (fun g133 h126 => ?_)
                                · (conv=>whnf);(iterate 4 refine pbr_t g133 ?_;(conv=>whnf));refine ⟨?_, trivial⟩;(conv=>whnf);cases h126;exact ⟨by (repeat refine .cons rfl ?_);exact .nil,rfl⟩
                                · (conv=>whnf);refine pbr_f g133 ?_;(conv=>whnf);refine pbr_f g133 ?_;(conv=>whnf);refine pbr_oite h126 (fun g134 h126 => ?_) (fun g134 h126 => ?_)
                                  · (conv=>whnf);refine pbr_t g134 ?_;(conv=>whnf);refine pbr_t g134 ?_;(conv=>whnf);refine pbr_f g133 ?_;(conv=>whnf);refine pbr_t g134 ?_;(conv=>whnf);refine pbr_f g133 ?_;(conv=>whnf);refine nth_o (l := m74) h126 (fun x135 _ h126 => ?_);(conv=>whnf);refine ⟨?_, trivial⟩;(conv=>whnf);obtain ⟨y136, h137, h126⟩ := obnd_some h126;refine (c395 h137).go ?_;(conv=>whnf);refine ⟨by trivial,?_⟩;(conv=>whnf);cases h126;exact ⟨by (repeat refine .cons rfl ?_);exact .nil,rfl⟩
                                  · (conv=>whnf);refine pbr_f g134 ?_;(conv=>whnf);refine pbr_f g134 ?_;(conv=>whnf);refine pbr_f g133 ?_;(conv=>whnf);refine pbr_f g134 ?_;(conv=>whnf);refine pbr_f g133 ?_;(conv=>whnf);refine nth_o (l := m74) h126 (fun x138 _ h126 => ?_);(conv=>whnf);refine ⟨?_, trivial⟩;(conv=>whnf);obtain ⟨y139, h140, h126⟩ := obnd_some h126;refine (c395 h140).go ?_;(conv=>whnf);refine ⟨by trivial,?_⟩;(conv=>whnf);cases h126;exact ⟨by (repeat refine .cons rfl ?_);exact .nil,rfl⟩
                              · rw [ifv_f g129];(conv=>whnf);refine ⟨?_, trivial⟩;(conv=>whnf);refine ⟨?_, trivial⟩;(conv=>whnf);cases h126;exact ⟨by (repeat refine .cons rfl ?_);exact .nil,rfl⟩
                            · refine pw_cond ?_;(conv=>whnf);refine pbr_oite h79 (fun g141 h79 => ?_) (fun g141 h79 => ?_)
                              · (conv=>whnf);refine pwa ?_;(conv=>whnf);refine pw_ret ?_;(conv=>whnf);refine pbr_t g73 ?_;(conv=>whnf);cases h79;obtain rfl := h81 _ rfl;exact Recast.fz (fun _ => false) (nl rfl) (.cons (.same rfl rfl (OBnd.rwl (nl rfl) rfl (.cons .cl (.cons .cl (.cons .cl (.cons .cl .nil)))))) (.cons (.same rfl rfl (OBnd.tail (nl rfl))) (.cons (.same rfl rfl (OBnd.rwl (nl rfl) rfl (.cons .cl (.cons .cl (.cons (.vt (nl rfl)) .nil))))) (.cons (.same rfl rfl (OBnd.rwl (nl rfl) rfl (.cons .cl (.cons .cl (.cons .cl .nil))))) .nil)))) (.cons rfl (.same _ (.ptr (nl rfl))) (.cons rfl (.same _ (.ptr (nl rfl))) (.cons rfl (.same _ .cl) (.cons rfl (.same _ (.ptr (nl rfl))) (.cons rfl (.same _ .cl) (.cons rfl (.same _ .cl) (.cons rfl (.same _ .cl) .nil)))))))
                              · (conv=>whnf);refine pw_skip ?_;(conv=>whnf);refine pw_ops ?_;refine po_all ?_;(conv=>whnf);refine pw_ops ?_;refine po_all ?_;(conv=>whnf);refine ⟨_, .refl, nl rfl, ?_⟩;(conv=>whnf);refine pwa ?_;(conv=>whnf);refine pw_seq ?_;refine pw_cond ?_;(conv=>whnf);refine pw_exit ?_;(conv=>whnf);cases h79;exact ⟨_, rfl, ⟨.nil, rfl⟩⟩
                  · intro r142 hr; have h68 := h80 _ hr;refine pwa ?_;(conv=>whnf);refine pw_ret ?_;(conv=>whnf);refine pbr_t g73 ?_;(conv=>whnf);cases h68;exact Recast.fz (fun _ => false) (nl rfl) (.cons (.same rfl rfl (OBnd.rwl (nl rfl) rfl (.cons .cl (.cons .cl (.cons .cl (.cons .cl .nil)))))) (.cons (.same rfl rfl (OBnd.tail (nl rfl))) (.cons (.same rfl rfl (OBnd.rwl (nl rfl) rfl (.cons .cl (.cons .cl (.cons (.vt (nl rfl)) .nil))))) (.cons (.same rfl rfl (OBnd.rwl (nl rfl) rfl (.cons .cl (.cons .cl (.cons .cl .nil))))) .nil)))) (.cons rfl (.same _ (.ptr (nl rfl))) (.cons rfl (.same _ (.ptr (nl rfl))) (.cons rfl (.same _ .cl) (.cons rfl (.same _ (.ptr (nl rfl))) (.cons rfl (.same _ .cl) (.cons rfl (.same _ .cl) (.cons rfl (.same _ .cl) .nil)))))))
              · (conv=>whnf);(iterate 10 refine pbr_f g73 ?_;(conv=>whnf));cases h68;exact Recast.fz (fun _ => false) (nl rfl) (.cons (.same rfl rfl (OBnd.rwl (nl rfl) rfl (.cons .cl (.cons .cl (.cons .cl (.cons .cl .nil)))))) (.cons (.same rfl rfl (OBnd.tail (nl rfl))) (.cons (.same rfl rfl (OBnd.rwl (nl rfl) rfl (.cons .cl (.cons .cl (.cons (.vt (nl rfl)) .nil))))) (.cons (.same rfl rfl (OBnd.rwl (nl rfl) rfl (.cons .cl (.cons .cl (.cons .cl .nil))))) .nil)))) (.cons rfl (.same _ (.ptr (nl rfl))) (.cons rfl (.same _ (.ptr (nl rfl))) (.cons rfl (.same _ .cl) (.cons rfl (.same _ (.ptr (nl rfl))) (.cons rfl (.same _ .cl) (.cons rfl (.same _ .cl) (.cons rfl (.same _ .cl) .nil)))))))
            · refine pw_ops ?_;refine po_all ?_;(conv=>whnf);refine app_o (l := e58.2.2) (m := ([(x66, r67.2.1, r67.2.2.1, r67.2.2.2)] : List (ByteArray × Int × Int × Int))) (f := e_SIII) h60 (by rfl) (by rfl) (by rfl) (fun h60 => ?_);(conv=>whnf);refine pw_ops ?_;refine po_all ?_;(conv=>whnf);cases h60;refine ⟨_, rfl, ?_⟩;exact Recast.fz (fun _ => false) (nl rfl) (.cons (.same rfl rfl (OBnd.tail (nl rfl))) (.cons (.same rfl rfl (OBnd.rwl (nl rfl) rfl (.cons .cl (.cons .cl (.cons (.vt (nl rfl)) .nil))))) (.cons (.same rfl rfl (OBnd.rwl (nl rfl) rfl (.cons .cl (.cons .cl (.cons .cl .nil))))) .nil))) (.cons rfl (.same _ (.ptr (nl rfl))) (.cons rfl (.same _ (.ptr (nl rfl))) (.cons rfl (.same _ .cl) (.cons rfl (.same _ .cl) (.cons rfl (.same _ .cl) (.cons rfl (.same _ .cl) .nil))))))
          · (conv=>whnf);refine pw_exit ?_;(conv=>whnf);cases h60;refine ⟨_, rfl, ?_⟩; rintro rfl;(conv=>whnf);exact ⟨(.cons rfl (.cons rfl (.cons rfl .nil))), rfl⟩
      · refine pw_seq ?_;refine pwa ?_;(conv=>whnf);refine pw_cond ?_;(conv=>whnf);refine pbr_oite H (fun g144 H => ?_) (fun g144 H => ?_)
        · (conv=>whnf);refine pwa ?_;(conv=>whnf);refine pw_ret ?_;(conv=>whnf);cases H; show ∃ D, Fz _ D 0 (.tuple ⟨[(.agg ⟨[(.int .i64 0), (.int .i64 0), (.slice none 0 0)]⟩), (.int .i64 7)]⟩) _;exact ⟨fun _ => false, .tuplel (.cons (.aggl (.cons .cl (.cons .cl (.cons (.nil _) (.nil))))) (.cons .cl (.nil)))⟩
        · (conv=>whnf);refine pw_skip ?_;(conv=>whnf);refine pw_seq ?_;refine pwa ?_;(conv=>whnf);obtain ⟨y145, h146, H⟩ := obnd_some H;refine ICalls.goW (c249 h146) (.cons (.aggl (.cons (.refl _) (.cons (.refl _) (.cons (.vt _ _ _) .nil)))) .nil) ?_;(conv=>whnf);refine pwa ?_;(conv=>whnf);refine pw_cond ?_;(conv=>whnf);refine pbr_oite H (fun g147 H => ?_) (fun g147 H => ?_)
          · (conv=>whnf);refine pwa ?_;(conv=>whnf);refine pw_ret ?_;(conv=>whnf);cases H; show ∃ D, Fz _ D 0 (.tuple ⟨[(.agg ⟨[(.int .i64 0), (.int .i64 0), (.slice none 0 0)]⟩), (.int .i64 y145.2)]⟩) _;exact ⟨fun _ => false, .tuplel (.cons (.aggl (.cons .cl (.cons .cl (.cons (.nil _) (.nil))))) (.cons .cl (.nil)))⟩
          · (conv=>whnf);refine pw_skip ?_;(conv=>whnf);refine pwa ?_;(conv=>whnf);refine pw_ret ?_;(conv=>whnf);cases H; show ∃ D, Fz _ D 0 (.tuple ⟨[(.agg ⟨[(.int .i64 r4.2.1), (.int .i64 r4.2.2), (VT 4 _ 2)]⟩), (.int .i64 0)]⟩) _;exact ⟨fun _ => false, .tuplel (.cons (.aggl (.cons .cl (.cons .cl (.cons .vtc (.nil))))) (.cons .cl (.nil)))⟩
noncomputable def f463 [LO]  (a0 : ByteArray) : Option (Int × Int × Int × (List (Int × Int × Int)) × Int) :=
 oite ((ilt (60000 : Int) (a0.size : Int))) (
 some ((0 : Int), (0 : Int), (0 : Int), ([] : List (Int × Int × Int)), (8 : Int))
 ) (
 obnd (f382 a0 (⟨#[59]⟩ : ByteArray)) fun (y2 : (List ByteArray)) =>
 obnd (
 obnd (y2[(0 : Int).toNat]?) fun (x8 : ByteArray) =>
 obnd (f382 x8 (⟨#[32]⟩ : ByteArray)) fun (y9 : (List ByteArray)) =>
 oite ((!(ieq ((y9.map eS).length : Int) (3 : Int)))) (
 some (false, (0 : Int), (0 : Int), (0 : Int))
 ) (
 obndS (
 obnd (y9[(0 : Int).toNat]?) fun (x16 : ByteArray) =>
 obnd (f394 x16) fun (y17 : Int × Bool) =>
 obnd (
 oite y17.2 (
 obnd (y9[(0 : Int).toNat]?) fun (x24 : ByteArray) =>
 obnd (f385 y17.1) fun (y25 : ByteArray) =>
 oite ((!(y25.toList == x24.toList))) (
 some true
 ) (
 oite ((ilt y17.1 (0 : Int))) (
 some true
 ) (
 obnd (y9[(0 : Int).toNat]?) fun (x29 : ByteArray) =>
 obnd (f395 x29 (⟨#[45]⟩ : ByteArray)) fun (y30 : ByteArray) =>
 some (ilt (7 : Int) (y30.size : Int))))
 ) (
 some true)
 ) fun (r19 : Bool) =>
 oite r19 (
 some (.inr ((false, (0 : Int), (0 : Int), (0 : Int))))
 ) (
 obnd (y9[(1 : Int).toNat]?) fun (x33 : ByteArray) =>
 obnd (f394 x33) fun (y34 : Int × Bool) =>
 obnd (
 oite y34.2 (
 obnd (y9[(1 : Int).toNat]?) fun (x41 : ByteArray) =>
 obnd (f385 y34.1) fun (y42 : ByteArray) =>
 oite ((!(y42.toList == x41.toList))) (
 some true
 ) (
 oite ((ilt y34.1 (0 : Int))) (
 some true
 ) (
 obnd (y9[(1 : Int).toNat]?) fun (x46 : ByteArray) =>
 obnd (f395 x46 (⟨#[45]⟩ : ByteArray)) fun (y47 : ByteArray) =>
 some (ilt (7 : Int) (y47.size : Int))))
 ) (
 some true)
 ) fun (r36 : Bool) =>
 oite r36 (
 some (.inr ((false, y17.1, (0 : Int), (0 : Int))))
 ) (
 obnd (y9[(2 : Int).toNat]?) fun (x50 : ByteArray) =>
 obnd (f394 x50) fun (y51 : Int × Bool) =>
 obnd (
 oite y51.2 (
 obnd (y9[(2 : Int).toNat]?) fun (x58 : ByteArray) =>
 obnd (f385 y51.1) fun (y59 : ByteArray) =>
 oite ((!(y59.toList == x58.toList))) (
 some true
 ) (
 oite ((ilt y51.1 (0 : Int))) (
 obnd (y9[(2 : Int).toNat]?) fun (x63 : ByteArray) =>
 obnd (f395 x63 (⟨#[45]⟩ : ByteArray)) fun (y64 : ByteArray) =>
 some (ilt (7 : Int) (y64.size : Int))
 ) (
 obnd (y9[(2 : Int).toNat]?) fun (x66 : ByteArray) =>
 obnd (f395 x66 (⟨#[45]⟩ : ByteArray)) fun (y67 : ByteArray) =>
 some (ilt (7 : Int) (y67.size : Int))))
 ) (
 some true)
 ) fun (r53 : Bool) =>
 oite r53 (
 some (.inr ((false, y17.1, y34.1, (0 : Int))))
 ) (
 some (.inl (y17.1, y34.1, y51.1)))))
 ) fun (r70 : Int × Int × Int) =>
 some (true, r70.1, r70.2.1, r70.2.2))
 ) fun (r4 : Bool × Int × Int × Int) =>
 obnd (
 obnd (oslL y2 (1 : Int)) fun (m75 : List ByteArray) =>
 oloop (τ := Bool × Int × (List (Int × Int × Int))) (ρ := Bool × (List (Int × Int × Int))) (fun e78 =>
 oite ((ilt e78.2.1 ((m75.map eS).length : Int))) (
 ogrd ((ile 0 e78.2.1)) (
 obnd (m75[e78.2.1.toNat]?) fun (x83 : ByteArray) =>
 obnd (
 obnd (f382 x83 (⟨#[32]⟩ : ByteArray)) fun (y88 : (List ByteArray)) =>
 oite ((!(ieq ((y88.map eS).length : Int) (3 : Int)))) (
 some (false, (0 : Int), (0 : Int), (0 : Int))
 ) (
 obndS (
 obnd (y88[(0 : Int).toNat]?) fun (x95 : ByteArray) =>
 obnd (f394 x95) fun (y96 : Int × Bool) =>
 obnd (
 oite y96.2 (
 obnd (y88[(0 : Int).toNat]?) fun (x103 : ByteArray) =>
 obnd (f385 y96.1) fun (y104 : ByteArray) =>
 oite ((!(y104.toList == x103.toList))) (
 some true
 ) (
 oite ((ilt y96.1 (0 : Int))) (
 obnd (y88[(0 : Int).toNat]?) fun (x108 : ByteArray) =>
 obnd (f395 x108 (⟨#[45]⟩ : ByteArray)) fun (y109 : ByteArray) =>
 some (ilt (7 : Int) (y109.size : Int))
 ) (
 obnd (y88[(0 : Int).toNat]?) fun (x111 : ByteArray) =>
 obnd (f395 x111 (⟨#[45]⟩ : ByteArray)) fun (y112 : ByteArray) =>
 some (ilt (7 : Int) (y112.size : Int))))
 ) (
 some true)
 ) fun (r98 : Bool) =>
 oite r98 (
 some (.inr ((false, (0 : Int), (0 : Int), (0 : Int))))
 ) (
 obnd (y88[(1 : Int).toNat]?) fun (x115 : ByteArray) =>
 obnd (f394 x115) fun (y116 : Int × Bool) =>
 obnd (
 oite y116.2 (
 obnd (y88[(1 : Int).toNat]?) fun (x123 : ByteArray) =>
 obnd (f385 y116.1) fun (y124 : ByteArray) =>
 oite ((!(y124.toList == x123.toList))) (
 some true
 ) (
 oite ((ilt y116.1 (0 : Int))) (
 obnd (y88[(1 : Int).toNat]?) fun (x128 : ByteArray) =>
 obnd (f395 x128 (⟨#[45]⟩ : ByteArray)) fun (y129 : ByteArray) =>
 some (ilt (7 : Int) (y129.size : Int))
 ) (
 obnd (y88[(1 : Int).toNat]?) fun (x131 : ByteArray) =>
 obnd (f395 x131 (⟨#[45]⟩ : ByteArray)) fun (y132 : ByteArray) =>
 some (ilt (7 : Int) (y132.size : Int))))
 ) (
 some true)
 ) fun (r118 : Bool) =>
 oite r118 (
 some (.inr ((false, y96.1, (0 : Int), (0 : Int))))
 ) (
 obnd (y88[(2 : Int).toNat]?) fun (x135 : ByteArray) =>
 obnd (f394 x135) fun (y136 : Int × Bool) =>
 obnd (
 oite y136.2 (
 obnd (y88[(2 : Int).toNat]?) fun (x143 : ByteArray) =>
 obnd (f385 y136.1) fun (y144 : ByteArray) =>
 oite ((!(y144.toList == x143.toList))) (
 some true
 ) (
 oite ((ilt y136.1 (0 : Int))) (
 obnd (y88[(2 : Int).toNat]?) fun (x148 : ByteArray) =>
 obnd (f395 x148 (⟨#[45]⟩ : ByteArray)) fun (y149 : ByteArray) =>
 some (ilt (7 : Int) (y149.size : Int))
 ) (
 obnd (y88[(2 : Int).toNat]?) fun (x151 : ByteArray) =>
 obnd (f395 x151 (⟨#[45]⟩ : ByteArray)) fun (y152 : ByteArray) =>
 some (ilt (7 : Int) (y152.size : Int))))
 ) (
 some true)
 ) fun (r138 : Bool) =>
 oite r138 (
 some (.inr ((false, y96.1, y116.1, (0 : Int))))
 ) (
 some (.inl (y96.1, y116.1, y136.1)))))
 ) fun (r155 : Int × Int × Int) =>
 some (e78.1, r155.1, r155.2.1, r155.2.2))
 ) fun (r84 : Bool × Int × Int × Int) =>
 ogrd (fits 24 (e78.2.2.length + ([(r84.2.1, r84.2.2.1, r84.2.2.2)] : List (Int × Int × Int)).length)) (
 some (.inl ((r84.1, (IntKind.i64.wrap (e78.2.1 + (1 : Int))), (e78.2.2 ++ ([(r84.2.1, r84.2.2.1, r84.2.2.2)] : List (Int × Int × Int))))))))
 ) (
 some (.inr ((e78.1, e78.2.2))))
 ) ((r4.1, (0 : Int), ([] : List (Int × Int × Int))))
 ) fun (r71 : Bool × (List (Int × Int × Int))) =>
 oite (!r71.1) (
 some ((0 : Int), (0 : Int), (0 : Int), ([] : List (Int × Int × Int)), (7 : Int))
 ) (
 some (r4.2.1, r4.2.2.1, r4.2.2.2, r71.2, (0 : Int))))
theorem c463 [LO]  {a0 : ByteArray} {x : Int × Int × Int × (List (Int × Int × Int)) × Int} (H : f463 a0 = some x) : ICalls E 463 [(.string a0)] AHeap.none fun v _ => v = (.tuple ⟨[(.agg ⟨[(.int .i64 x.1), (.int .i64 x.2.1), (.int .i64 x.2.2.1), (VS 3 (x.2.2.2.1.map e_III))]⟩), (.int .i64 x.2.2.2.2)]⟩) := by
  refine ICalls.frz ?_;refine icalls_fn (pfnw ?_); unfold f463 at H;(conv=>whnf);refine pwa ?_;(conv=>whnf);refine pw_seq ?_;refine pwa ?_;(conv=>whnf);refine pw_cond ?_;(conv=>whnf);refine pbr_oite H (fun g1 H => ?_) (fun g1 H => ?_)
  · (conv=>whnf);refine pwa ?_;(conv=>whnf);refine pw_ret ?_;(conv=>whnf);cases H; show ∃ D, Fz _ D 0 (.tuple ⟨[(.agg ⟨[(.int .i64 0), (.int .i64 0), (.int .i64 0), (.slice none 0 0)]⟩), (.int .i64 8)]⟩) _;exact ⟨fun _ => false, .tuplel (.cons (.aggl (.cons .cl (.cons .cl (.cons .cl (.cons (.nil _) (.nil)))))) (.cons .cl (.nil)))⟩
  · (conv=>whnf);refine pw_skip ?_;(conv=>whnf);refine pwa ?_;(conv=>whnf);refine pwa ?_;(conv=>whnf);obtain ⟨y2, h3, H⟩ := obnd_some H;refine (c382 h3).go ?_;(conv=>whnf);obtain ⟨r4, h5, H⟩ := obnd_some H;refine pw_joinR (ρ := Bool × Int × Int × Int) (fun e => ⟨[(2, (.pointer (some ⟨0, 0, none⟩))), (4, (.pointer (some ⟨1, 0, none⟩))), (5, (VS 1 (y2.map eS))), (6, (.bool e.1))], ⟨2, [(1, .rw [(.int .i64 e.2.1), (.int .i64 e.2.2.1), (.int .i64 e.2.2.2), (.slice none 0 0)]), (0, .rw [(.int .i64 0), (.int .i64 0), (.int .i64 0), (.slice none 0 0)])], false⟩⟩) r4 ?_ ?_
    · refine pw_ops ?_;refine po_all ?_;(conv=>whnf);refine nth_o (l := y2) h5 (fun x8 _ h5 => ?_);(conv=>whnf);obtain ⟨y9, h10, h5⟩ := obnd_some h5;refine (c382 h10).go ?_;(conv=>whnf);refine pcalls_in ?_;(conv=>whnf);refine pwa ?_;(conv=>whnf);refine pw_seq ?_;refine pwa ?_;(conv=>whnf);refine pw_cond ?_;(conv=>whnf);refine pbr_oite h5 (fun g11 h5 => ?_) (fun g11 h5 => ?_)
      · (conv=>whnf);refine pwa ?_;(conv=>whnf);refine pw_ret ?_;(conv=>whnf);cases h5;exact Recast.fz (fun _ => false) (nl rfl) (.cons (.same rfl rfl (OBnd.rwl (nl rfl) rfl (.cons .cl (.cons .cl (.cons .cl (.cons .cl .nil)))))) (.cons (.same rfl rfl (OBnd.rwl (nl rfl) rfl (.cons .cl (.cons .cl (.cons .cl (.cons .cl .nil)))))) .nil)) (.cons rfl (.same _ (.ptr (nl rfl))) (.cons rfl (.same _ (.ptr (nl rfl))) (.cons rfl (.same _ .cl) (.cons rfl (.same _ .cl) .nil))))
      · (conv=>whnf);refine pw_skip ?_;(conv=>whnf);obtain ⟨r12, h13, h14, h15⟩ := obndS_some h5;refine pw_joinS (ρ := Int × Int × Int) (fun e => ⟨[], ⟨6, [(5, .rw [(.pointer (some ⟨1, 2, none⟩)), (.bool true)]), (4, .rw [(.pointer (some ⟨1, 1, none⟩)), (.bool false)]), (3, .rw [(.pointer (some ⟨1, 0, none⟩)), (.bool false)]), (2, .tail 3 2), (1, .rw [(.int .i64 e.1), (.int .i64 e.2.1), (.int .i64 e.2.2), (.slice none 0 0)]), (0, .rw [(.int .i64 0), (.int .i64 0), (.int .i64 0), (.slice none 0 0)])], false⟩⟩) r12 ?_ ?_
        · refine pwa ?_;(conv=>whnf);refine pw_block ?_;refine pw_unroll 4 ?_;(conv=>whnf);refine pwa ?_;(conv=>whnf);refine pw_seq ?_;refine pw_cond ?_;(conv=>whnf);refine pw_skip ?_;(conv=>whnf);refine pw_seq ?_;refine pw_block ?_;refine pwa ?_;(conv=>whnf);refine pwa ?_;(conv=>whnf);refine nth_o (l := y9) h13 (fun x16 _ h13 => ?_);(conv=>whnf);obtain ⟨y17, h18, h13⟩ := obnd_some h13;refine (c394 h18).go ?_;(conv=>whnf);refine pw_seq ?_;obtain ⟨r19, h20, h13⟩ := obnd_some h13;refine pw_join (ρ := Bool) (fun e => ⟨[(0, (VS 1 (y9.map eS))), (6, (.pointer (some ⟨3, 0, none⟩))), (7, (.int .i64 y17.1)), (14, (VT 2 [(.agg ⟨[(.pointer (some ⟨1, 0, none⟩)), (.bool false)]⟩), (.agg ⟨[(.pointer (some ⟨1, 1, none⟩)), (.bool false)]⟩), (.agg ⟨[(.pointer (some ⟨1, 2, none⟩)), (.bool true)]⟩)] 2)), (15, (.int .i64 3)), (16, (.int .i64 0)), (57, (.bool e))], ⟨4, [(3, .rw [(.pointer (some ⟨1, 0, none⟩)), (.bool false)]), (2, .tail 3 2), (1, .rw [(.int .i64 0), (.int .i64 0), (.int .i64 0), (.slice none 0 0)]), (0, .rw [(.int .i64 0), (.int .i64 0), (.int .i64 0), (.slice none 0 0)])], false⟩⟩) r19 ?_ ?_
          · refine pw_draw ?_;(conv=>whnf);refine oite_o2 h20 (fun g23 h20 => ?_) (fun g23 h20 => ?_)
            · rw [ifv_t g23];(conv=>whnf);refine nth_o (l := y9) h20 (fun x24 _ h20 => ?_);(conv=>whnf);refine ⟨?_, trivial⟩;(conv=>whnf);obtain ⟨y25, h26, h20⟩ := obnd_some h20;refine (c385 h26).go ?_;(conv=>whnf);refine ⟨by trivial,?_⟩;(conv=>whnf);refine pbr_oite h20 (fun g27 h20 => ?_) (fun g27 h20 => ?_)
              · (conv=>whnf);(iterate 4 refine pbr_t g27 ?_;(conv=>whnf));refine ⟨?_, trivial⟩;(conv=>whnf);cases h20;exact ⟨by (repeat refine .cons rfl ?_);exact .nil,rfl⟩
              · (conv=>whnf);refine pbr_f g27 ?_;(conv=>whnf);refine pbr_f g27 ?_;(conv=>whnf);refine pbr_oite h20 (fun g28 h20 => ?_) (fun g28 h20 => ?_)
                · (conv=>whnf);refine pbr_t g28 ?_;(conv=>whnf);refine pbr_t g28 ?_;(conv=>whnf);refine pbr_f g27 ?_;(conv=>whnf);refine pbr_t g28 ?_;(conv=>whnf);refine pbr_f g27 ?_;(conv=>whnf);refine ⟨?_, trivial⟩;(conv=>whnf);cases h20;exact ⟨by (repeat refine .cons rfl ?_);exact .nil,rfl⟩
                · (conv=>whnf);refine pbr_f g28 ?_;(conv=>whnf);refine pbr_f g28 ?_;(conv=>whnf);refine pbr_f g27 ?_;(conv=>whnf);refine pbr_f g28 ?_;(conv=>whnf);refine pbr_f g27 ?_;(conv=>whnf);refine nth_o (l := y9) h20 (fun x29 _ h20 => ?_);(conv=>whnf);refine ⟨?_, trivial⟩;(conv=>whnf);obtain ⟨y30, h31, h20⟩ := obnd_some h20;refine (c395 h31).go ?_;(conv=>whnf);refine ⟨by trivial,?_⟩;(conv=>whnf);cases h20;exact ⟨by (repeat refine .cons rfl ?_);exact .nil,rfl⟩
            · rw [ifv_f g23];(conv=>whnf);refine ⟨?_, trivial⟩;(conv=>whnf);refine ⟨?_, trivial⟩;(conv=>whnf);cases h20;exact ⟨by (repeat refine .cons rfl ?_);exact .nil,rfl⟩
          · refine pw_cond ?_;(conv=>whnf);refine pbr_oite h13 (fun g32 h13 => ?_) (fun g32 h13 => ?_)
            · (conv=>whnf);refine pwa ?_;(conv=>whnf);refine pw_ret ?_;(conv=>whnf);cases h13;obtain rfl := h15 _ rfl;exact Recast.fz (fun _ => false) (nl rfl) (.cons (.same rfl rfl (OBnd.rwl (nl rfl) rfl (.cons .cl (.cons .cl (.cons .cl (.cons .cl .nil)))))) (.cons (.same rfl rfl (OBnd.rwl (nl rfl) rfl (.cons .cl (.cons .cl (.cons .cl (.cons .cl .nil)))))) .nil)) (.cons rfl (.same _ (.ptr (nl rfl))) (.cons rfl (.same _ (.ptr (nl rfl))) (.cons rfl (.same _ .cl) (.cons rfl (.same _ .cl) .nil))))
            · (conv=>whnf);refine pw_skip ?_;(conv=>whnf);refine pw_ops ?_;refine po_all ?_;(conv=>whnf);refine pw_ops ?_;refine po_all ?_;(conv=>whnf);refine ⟨_, .refl, nl rfl, ?_⟩;(conv=>whnf);refine pwa ?_;(conv=>whnf);refine pw_seq ?_;refine pw_cond ?_;(conv=>whnf);refine pw_skip ?_;(conv=>whnf);refine pw_seq ?_;refine pw_block ?_;refine pwa ?_;(conv=>whnf);refine pwa ?_;(conv=>whnf);refine nth_o (l := y9) h13 (fun x33 _ h13 => ?_);(conv=>whnf);obtain ⟨y34, h35, h13⟩ := obnd_some h13;refine (c394 h35).go ?_;(conv=>whnf);refine pw_seq ?_;obtain ⟨r36, h37, h13⟩ := obnd_some h13
              refine pw_join (ρ := Bool) (fun e => ⟨[(0, (VS 1 (y9.map eS))), (6, (.pointer (some ⟨4, 0, none⟩))), (7, (.int .i64 y34.1)), (14, (VT 2 [(.agg ⟨[(.pointer (some ⟨1, 0, none⟩)), (.bool false)]⟩), (.agg ⟨[(.pointer (some ⟨1, 1, none⟩)), (.bool false)]⟩), (.agg ⟨[(.pointer (some ⟨1, 2, none⟩)), (.bool true)]⟩)] 2)), (15, (.int .i64 3)), (16, (.int .i64 1)), (57, (.bool e))], ⟨5, [(4, .rw [(.pointer (some ⟨1, 1, none⟩)), (.bool false)]), (3, .rw [(.pointer (some ⟨1, 0, none⟩)), (.bool false)]), (2, .tail 3 2), (1, .rw [(.int .i64 y17.1), (.int .i64 0), (.int .i64 0), (.slice none 0 0)]), (0, .rw [(.int .i64 0), (.int .i64 0), (.int .i64 0), (.slice none 0 0)])], false⟩⟩) r36 ?_ ?_
              · refine pw_draw ?_;(conv=>whnf);refine oite_o2 h37 (fun g40 h37 => ?_) (fun g40 h37 => ?_)
                · rw [ifv_t g40];(conv=>whnf);refine nth_o (l := y9) h37 (fun x41 _ h37 => ?_);(conv=>whnf);refine ⟨?_, trivial⟩;(conv=>whnf);obtain ⟨y42, h43, h37⟩ := obnd_some h37;refine (c385 h43).go ?_;(conv=>whnf);refine ⟨by trivial,?_⟩;(conv=>whnf);refine pbr_oite h37 (fun g44 h37 => ?_) (fun g44 h37 => ?_)
                  · (conv=>whnf);(iterate 4 refine pbr_t g44 ?_;(conv=>whnf));refine ⟨?_, trivial⟩;(conv=>whnf);cases h37;exact ⟨by (repeat refine .cons rfl ?_);exact .nil,rfl⟩
                  · (conv=>whnf);refine pbr_f g44 ?_;(conv=>whnf);refine pbr_f g44 ?_;(conv=>whnf);refine pbr_oite h37 (fun g45 h37 => ?_) (fun g45 h37 => ?_)
                    · (conv=>whnf);refine pbr_t g45 ?_;(conv=>whnf);refine pbr_t g45 ?_;(conv=>whnf);refine pbr_f g44 ?_;(conv=>whnf);refine pbr_t g45 ?_;(conv=>whnf);refine pbr_f g44 ?_;(conv=>whnf);refine ⟨?_, trivial⟩;(conv=>whnf);cases h37;exact ⟨by (repeat refine .cons rfl ?_);exact .nil,rfl⟩
                    · (conv=>whnf);refine pbr_f g45 ?_;(conv=>whnf);refine pbr_f g45 ?_;(conv=>whnf);refine pbr_f g44 ?_;(conv=>whnf);refine pbr_f g45 ?_;(conv=>whnf);refine pbr_f g44 ?_;(conv=>whnf);refine nth_o (l := y9) h37 (fun x46 _ h37 => ?_);(conv=>whnf);refine ⟨?_, trivial⟩;(conv=>whnf);obtain ⟨y47, h48, h37⟩ := obnd_some h37;refine (c395 h48).go ?_;(conv=>whnf);refine ⟨by trivial,?_⟩;(conv=>whnf);cases h37;exact ⟨by (repeat refine .cons rfl ?_);exact .nil,rfl⟩
                · rw [ifv_f g40];(conv=>whnf);refine ⟨?_, trivial⟩;(conv=>whnf);refine ⟨?_, trivial⟩;(conv=>whnf);cases h37;exact ⟨by (repeat refine .cons rfl ?_);exact .nil,rfl⟩
              · refine pw_cond ?_;(conv=>whnf);refine pbr_oite h13 (fun g49 h13 => ?_) (fun g49 h13 => ?_)
                · (conv=>whnf);refine pwa ?_;(conv=>whnf);refine pw_ret ?_;(conv=>whnf);cases h13;obtain rfl := h15 _ rfl;exact Recast.fz (fun _ => false) (nl rfl) (.cons (.same rfl rfl (OBnd.rwl (nl rfl) rfl (.cons .cl (.cons .cl (.cons .cl (.cons .cl .nil)))))) (.cons (.same rfl rfl (OBnd.rwl (nl rfl) rfl (.cons .cl (.cons .cl (.cons .cl (.cons .cl .nil)))))) .nil)) (.cons rfl (.same _ (.ptr (nl rfl))) (.cons rfl (.same _ (.ptr (nl rfl))) (.cons rfl (.same _ .cl) (.cons rfl (.same _ .cl) .nil))))
                · (conv=>whnf);refine pw_skip ?_;(conv=>whnf);refine pw_ops ?_;refine po_all ?_;(conv=>whnf);refine pw_ops ?_;refine po_all ?_;(conv=>whnf);refine ⟨_, .refl, nl rfl, ?_⟩;(conv=>whnf);refine pwa ?_;(conv=>whnf);refine pw_seq ?_;refine pw_cond ?_;(conv=>whnf);refine pw_skip ?_;(conv=>whnf);refine pw_seq ?_;refine pw_block ?_;refine pwa ?_;(conv=>whnf);refine pwa ?_;(conv=>whnf);refine nth_o (l := y9) h13 (fun x50 _ h13 => ?_);(conv=>whnf);obtain ⟨y51, h52, h13⟩ := obnd_some h13;refine (c394 h52).go ?_;(conv=>whnf);refine pw_seq ?_;obtain ⟨r53, h54, h13⟩ := obnd_some h13
                  refine pw_join (ρ := Bool) (fun e => ⟨[(0, (VS 1 (y9.map eS))), (6, (.pointer (some ⟨5, 0, none⟩))), (7, (.int .i64 y51.1)), (14, (VT 2 [(.agg ⟨[(.pointer (some ⟨1, 0, none⟩)), (.bool false)]⟩), (.agg ⟨[(.pointer (some ⟨1, 1, none⟩)), (.bool false)]⟩), (.agg ⟨[(.pointer (some ⟨1, 2, none⟩)), (.bool true)]⟩)] 2)), (15, (.int .i64 3)), (16, (.int .i64 2)), (57, (.bool e))], ⟨6, [(5, .rw [(.pointer (some ⟨1, 2, none⟩)), (.bool true)]), (4, .rw [(.pointer (some ⟨1, 1, none⟩)), (.bool false)]), (3, .rw [(.pointer (some ⟨1, 0, none⟩)), (.bool false)]), (2, .tail 3 2), (1, .rw [(.int .i64 y17.1), (.int .i64 y34.1), (.int .i64 0), (.slice none 0 0)]), (0, .rw [(.int .i64 0), (.int .i64 0), (.int .i64 0), (.slice none 0 0)])], false⟩⟩) r53 ?_ ?_
                  · refine pw_draw ?_;(conv=>whnf);refine oite_o2 h54 (fun g57 h54 => ?_) (fun g57 h54 => ?_)
                    · rw [ifv_t g57];(conv=>whnf);refine nth_o (l := y9) h54 (fun x58 _ h54 => ?_);(conv=>whnf);refine ⟨?_, trivial⟩;(conv=>whnf);obtain ⟨y59, h60, h54⟩ := obnd_some h54;refine (c385 h60).go ?_;(conv=>whnf);refine ⟨by trivial,?_⟩;(conv=>whnf);refine pbr_oite h54 (fun g61 h54 => ?_) (fun g61 h54 => ?_)
                      · (conv=>whnf);(iterate 4 refine pbr_t g61 ?_;(conv=>whnf));refine ⟨?_, trivial⟩;(conv=>whnf);cases h54;exact ⟨by (repeat refine .cons rfl ?_);exact .nil,rfl⟩
                      · (conv=>whnf);refine pbr_f g61 ?_;(conv=>whnf);refine pbr_f g61 ?_;(conv=>whnf);refine pbr_oite h54 (fun g62 h54 => ?_) (fun g62 h54 => ?_)
                        · (conv=>whnf);refine pbr_t g62 ?_;(conv=>whnf);refine pbr_t g62 ?_;(conv=>whnf);refine pbr_f g61 ?_;(conv=>whnf);refine pbr_t g62 ?_;(conv=>whnf);refine pbr_f g61 ?_;(conv=>whnf);refine nth_o (l := y9) h54 (fun x63 _ h54 => ?_);(conv=>whnf);refine ⟨?_, trivial⟩;(conv=>whnf);obtain ⟨y64, h65, h54⟩ := obnd_some h54;refine (c395 h65).go ?_;(conv=>whnf);refine ⟨by trivial,?_⟩;(conv=>whnf);cases h54;exact ⟨by (repeat refine .cons rfl ?_);exact .nil,rfl⟩
                        · (conv=>whnf);refine pbr_f g62 ?_;(conv=>whnf);refine pbr_f g62 ?_;(conv=>whnf);refine pbr_f g61 ?_;(conv=>whnf);refine pbr_f g62 ?_;(conv=>whnf);refine pbr_f g61 ?_;(conv=>whnf);refine nth_o (l := y9) h54 (fun x66 _ h54 => ?_);(conv=>whnf);refine ⟨?_, trivial⟩;(conv=>whnf);obtain ⟨y67, h68, h54⟩ := obnd_some h54;refine (c395 h68).go ?_;(conv=>whnf);refine ⟨by trivial,?_⟩;(conv=>whnf);cases h54;exact ⟨by (repeat refine .cons rfl ?_);exact .nil,rfl⟩
                    · rw [ifv_f g57];(conv=>whnf);refine ⟨?_, trivial⟩;(conv=>whnf);refine ⟨?_, trivial⟩;(conv=>whnf);cases h54;exact ⟨by (repeat refine .cons rfl ?_);exact .nil,rfl⟩
                  · refine pw_cond ?_;(conv=>whnf);refine pbr_oite h13 (fun g69 h13 => ?_) (fun g69 h13 => ?_)
                    · (conv=>whnf);refine pwa ?_;(conv=>whnf);refine pw_ret ?_;(conv=>whnf);cases h13;obtain rfl := h15 _ rfl;exact Recast.fz (fun _ => false) (nl rfl) (.cons (.same rfl rfl (OBnd.rwl (nl rfl) rfl (.cons .cl (.cons .cl (.cons .cl (.cons .cl .nil)))))) (.cons (.same rfl rfl (OBnd.rwl (nl rfl) rfl (.cons .cl (.cons .cl (.cons .cl (.cons .cl .nil)))))) .nil)) (.cons rfl (.same _ (.ptr (nl rfl))) (.cons rfl (.same _ (.ptr (nl rfl))) (.cons rfl (.same _ .cl) (.cons rfl (.same _ .cl) .nil))))
                    · (conv=>whnf);refine pw_skip ?_;(conv=>whnf);refine pw_ops ?_;refine po_all ?_;(conv=>whnf);refine pw_ops ?_;refine po_all ?_;(conv=>whnf);refine ⟨_, .refl, nl rfl, ?_⟩;(conv=>whnf);refine pwa ?_;(conv=>whnf);refine pw_seq ?_;refine pw_cond ?_;(conv=>whnf);refine pw_exit ?_;(conv=>whnf);cases h13;exact ⟨_, rfl, ⟨.nil, rfl⟩⟩
        · intro r70 hr; have h5 := h14 _ hr;refine pwa ?_;(conv=>whnf);refine pw_ret ?_;(conv=>whnf);cases h5;exact Recast.fz (fun _ => false) (nl rfl) (.cons (.same rfl rfl (OBnd.rwl (nl rfl) rfl (.cons .cl (.cons .cl (.cons .cl (.cons .cl .nil)))))) (.cons (.same rfl rfl (OBnd.rwl (nl rfl) rfl (.cons .cl (.cons .cl (.cons .cl (.cons .cl .nil)))))) .nil)) (.cons rfl (.same _ (.ptr (nl rfl))) (.cons rfl (.same _ (.ptr (nl rfl))) (.cons rfl (.same _ .cl) (.cons rfl (.same _ .cl) .nil))))
    · obtain ⟨r71, h72, H⟩ := obnd_some H;refine pw_join (ρ := Bool × (List (Int × Int × Int))) (fun e => ⟨[(2, (.pointer (some ⟨0, 0, none⟩))), (4, (.pointer (some ⟨1, 0, none⟩))), (6, (.bool e.1))], ⟨3, [(2, .tail (e.2.map e_III).length 3), (1, .rw [(.int .i64 r4.2.1), (.int .i64 r4.2.2.1), (.int .i64 r4.2.2.2), (VT 3 (e.2.map e_III) 2)]), (0, .rw [(.int .i64 0), (.int .i64 0), (.int .i64 0), (.slice none 0 0)])], false⟩⟩) r71 ?_ ?_
      · refine pwa ?_;(conv=>whnf);refine oslL_o (f := eS) h72 (fun m75 _ h72 h76 h77 => ?_);refine pbr_t (ile_t (by simpa only [List.length_map] using h76.2)) ?_; rw [h77];(conv=>whnf);refine pw_block ?_;refine pw_loop (τ := Bool × Int × (List (Int × Int × Int))) (fun e => ⟨[(2, (.pointer (some ⟨0, 0, none⟩))), (4, (.pointer (some ⟨1, 0, none⟩))), (6, (.bool e.1)), (29, (VS 1 (m75.map eS))), (30, (.int .i64 ((m75.map eS).length : Int))), (31, (.int .i64 e.2.1))], ⟨3, [(2, .tail (e.2.2.map e_III).length 3), (1, .rw [(.int .i64 r4.2.1), (.int .i64 r4.2.2.1), (.int .i64 r4.2.2.2), (VT 3 (e.2.2.map e_III) 2)]), (0, .rw [(.int .i64 0), (.int .i64 0), (.int .i64 0), (.slice none 0 0)])], false⟩⟩) h72 ?_ (fun _ => nl rfl) ?_
        · exact ((Recast.sub' (nl rfl) (.cons rfl (.cons rfl (.cons rfl (.cons rfl (.cons rfl (.cons rfl .nil)))))) : Recast _ _ ⟨[(2, (.pointer (some ⟨0, 0, none⟩))), (4, (.pointer (some ⟨1, 0, none⟩))), (6, (.bool r4.1)), (29, (VS 1 (m75.map eS))), (30, (.int .i64 ((m75.map eS).length : Int))), (31, (.int .i64 0))], ⟨2, [(1, .rw [(.int .i64 r4.2.1), (.int .i64 r4.2.2.1), (.int .i64 r4.2.2.2), (.slice none 0 0)]), (0, .rw [(.int .i64 0), (.int .i64 0), (.int .i64 0), (.slice none 0 0)])], false⟩⟩).trans (Recast.nilM 3 1 (nl rfl) rfl (nl rfl) rfl (.same (.same (.same (.turn .nil)))) rfl))
        · intro e78 x79 h80;refine pwa ?_;(conv=>whnf);refine pw_seq ?_;refine pw_cond ?_;(conv=>whnf);refine pbr_oite h80 (fun g81 h80 => ?_) (fun g81 h80 => ?_)
          · (conv=>whnf);refine pw_skip ?_;(conv=>whnf);refine pw_seq ?_;refine pw_block ?_;refine pwa ?_;(conv=>whnf);refine pbr_ogrd h80 (fun g82 h80 => ?_);(conv=>whnf);refine nth_o (l := m75) h80 (fun x83 _ h80 => ?_);(conv=>whnf);refine pwa ?_;(conv=>whnf);obtain ⟨r84, h85, h80⟩ := obnd_some h80;refine pw_joinR (ρ := Bool × Int × Int × Int) (fun e => ⟨[(2, (.pointer (some ⟨0, 0, none⟩))), (4, (.pointer (some ⟨1, 0, none⟩))), (6, (.bool e.1)), (9, (.pointer (some ⟨3, 0, none⟩))), (29, (VS 1 (m75.map eS))), (30, (.int .i64 ((m75.map eS).length : Int))), (31, (.int .i64 e78.2.1))], ⟨4, [(3, .rw [(.int .i64 e.2.1), (.int .i64 e.2.2.1), (.int .i64 e.2.2.2)]), (2, .tail (e78.2.2.map e_III).length 3), (1, .rw [(.int .i64 r4.2.1), (.int .i64 r4.2.2.1), (.int .i64 r4.2.2.2), (VT 3 (e78.2.2.map e_III) 2)]), (0, .rw [(.int .i64 0), (.int .i64 0), (.int .i64 0), (.slice none 0 0)])], false⟩⟩) r84 ?_ ?_
            · refine pw_ops ?_;refine po_ops 11 ?_;(conv=>whnf);obtain ⟨y88, h89, h85⟩ := obnd_some h85;refine (c382 h89).go ?_;(conv=>whnf);refine pcalls_in ?_;(conv=>whnf);refine pwa ?_;(conv=>whnf);refine pw_seq ?_;refine pwa ?_;(conv=>whnf);refine pw_cond ?_;(conv=>whnf);refine pbr_oite h85 (fun g90 h85 => ?_) (fun g90 h85 => ?_)
              · (conv=>whnf);refine pwa ?_;(conv=>whnf);refine pw_ret ?_;(conv=>whnf);refine po_ops 2 ?_;(conv=>whnf);refine po_all ?_;(conv=>whnf);cases h85;exact Recast.fz (fun _ => false) (nl rfl) (.cons (.same rfl rfl (OBnd.rwl (nl rfl) rfl (.cons .cl (.cons .cl (.cons .cl .nil))))) (.cons (.same rfl rfl (OBnd.tail (nl rfl))) (.cons (.same rfl rfl (OBnd.rwl (nl rfl) rfl (.cons .cl (.cons .cl (.cons .cl (.cons (.vt (nl rfl)) .nil)))))) (.cons (.same rfl rfl (OBnd.rwl (nl rfl) rfl (.cons .cl (.cons .cl (.cons .cl (.cons .cl .nil)))))) .nil)))) (.cons rfl (.same _ (.ptr (nl rfl))) (.cons rfl (.same _ (.ptr (nl rfl))) (.cons rfl (.same _ .cl) (.cons rfl (.same _ (.ptr (nl rfl))) (.cons rfl (.same _ .cl) (.cons rfl (.same _ .cl) (.cons rfl (.same _ .cl) .nil)))))))
              · (conv=>whnf);refine pw_skip ?_;(conv=>whnf);obtain ⟨r91, h92, h93, h94⟩ := obndS_some h85;refine pw_joinS (ρ := Int × Int × Int) (fun e => ⟨[], ⟨8, [(7, .rw [(.pointer (some ⟨3, 2, none⟩)), (.bool true)]), (6, .rw [(.pointer (some ⟨3, 1, none⟩)), (.bool true)]), (5, .rw [(.pointer (some ⟨3, 0, none⟩)), (.bool true)]), (4, .tail 3 2), (3, .rw [(.int .i64 e.1), (.int .i64 e.2.1), (.int .i64 e.2.2)]), (2, .tail (e78.2.2.map e_III).length 3), (1, .rw [(.int .i64 r4.2.1), (.int .i64 r4.2.2.1), (.int .i64 r4.2.2.2), (VT 3 (e78.2.2.map e_III) 2)]), (0, .rw [(.int .i64 0), (.int .i64 0), (.int .i64 0), (.slice none 0 0)])], false⟩⟩) r91 ?_ ?_
                · refine pwa ?_;(conv=>whnf);refine pw_block ?_;refine pw_unroll 4 ?_;(conv=>whnf);refine pwa ?_;(conv=>whnf);refine pw_seq ?_;refine pw_cond ?_;(conv=>whnf);refine pw_skip ?_;(conv=>whnf);refine pw_seq ?_;refine pw_block ?_;refine pwa ?_;(conv=>whnf);refine pwa ?_;(conv=>whnf);refine nth_o (l := y88) h92 (fun x95 _ h92 => ?_);(conv=>whnf);obtain ⟨y96, h97, h92⟩ := obnd_some h92;refine (c394 h97).go ?_;(conv=>whnf);refine pw_seq ?_;obtain ⟨r98, h99, h92⟩ := obnd_some h92;refine pw_join (ρ := Bool) (fun e => ⟨[(0, (VS 1 (y88.map eS))), (6, (.pointer (some ⟨5, 0, none⟩))), (7, (.int .i64 y96.1)), (14, (VT 2 [(.agg ⟨[(.pointer (some ⟨3, 0, none⟩)), (.bool true)]⟩), (.agg ⟨[(.pointer (some ⟨3, 1, none⟩)), (.bool true)]⟩), (.agg ⟨[(.pointer (some ⟨3, 2, none⟩)), (.bool true)]⟩)] 4)), (15, (.int .i64 3)), (16, (.int .i64 0)), (57, (.bool e))], ⟨6, [(5, .rw [(.pointer (some ⟨3, 0, none⟩)), (.bool true)]), (4, .tail 3 2), (3, .rw [(.int .i64 0), (.int .i64 0), (.int .i64 0)]), (2, .tail (e78.2.2.map e_III).length 3), (1, .rw [(.int .i64 r4.2.1), (.int .i64 r4.2.2.1), (.int .i64 r4.2.2.2), (VT 3 (e78.2.2.map e_III) 2)]), (0, .rw [(.int .i64 0), (.int .i64 0), (.int .i64 0), (.slice none 0 0)])], false⟩⟩) r98 ?_ ?_
                  · refine pw_draw ?_;(conv=>whnf);refine oite_o2 h99 (fun g102 h99 => ?_) (fun g102 h99 => ?_)
                    · rw [ifv_t g102];(conv=>whnf);refine nth_o (l := y88) h99 (fun x103 _ h99 => ?_);(conv=>whnf);refine ⟨?_, trivial⟩;(conv=>whnf);obtain ⟨y104, h105, h99⟩ := obnd_some h99;refine (c385 h105).go ?_;(conv=>whnf);refine ⟨by trivial,?_⟩;(conv=>whnf);refine pbr_oite h99 (fun g106 h99 => ?_) (fun g106 h99 => ?_)
                      · (conv=>whnf);(iterate 4 refine pbr_t g106 ?_;(conv=>whnf));refine ⟨?_, trivial⟩;(conv=>whnf);cases h99;exact ⟨by (repeat refine .cons rfl ?_);exact .nil,rfl⟩
                      · (conv=>whnf);refine pbr_f g106 ?_;(conv=>whnf);refine pbr_f g106 ?_;(conv=>whnf);refine pbr_oite h99 (fun g107 h99 => ?_) (fun g107 h99 => ?_)
                        · (conv=>whnf);refine pbr_t g107 ?_;(conv=>whnf);refine pbr_t g107 ?_;(conv=>whnf);refine pbr_f g106 ?_;(conv=>whnf);refine pbr_t g107 ?_;(conv=>whnf);refine pbr_f g106 ?_;(conv=>whnf);refine nth_o (l := y88) h99 (fun x108 _ h99 => ?_);(conv=>whnf);refine ⟨?_, trivial⟩;(conv=>whnf);obtain ⟨y109, h110, h99⟩ := obnd_some h99;refine (c395 h110).go ?_;(conv=>whnf);refine ⟨by trivial,?_⟩;(conv=>whnf);cases h99;exact ⟨by (repeat refine .cons rfl ?_);exact .nil,rfl⟩
                        · (conv=>whnf);refine pbr_f g107 ?_;(conv=>whnf);refine pbr_f g107 ?_;(conv=>whnf);refine pbr_f g106 ?_;(conv=>whnf);refine pbr_f g107 ?_;(conv=>whnf);refine pbr_f g106 ?_;(conv=>whnf);refine nth_o (l := y88) h99 (fun x111 _ h99 => ?_);(conv=>whnf);refine ⟨?_, trivial⟩;(conv=>whnf);obtain ⟨y112, h113, h99⟩ := obnd_some h99;refine (c395 h113).go ?_;(conv=>whnf);refine ⟨by trivial,?_⟩;(conv=>whnf);cases h99;exact ⟨by (repeat refine .cons rfl ?_);exact .nil,rfl⟩
                    · rw [ifv_f g102];(conv=>whnf);refine ⟨?_, trivial⟩;(conv=>whnf);refine ⟨?_, trivial⟩;(conv=>whnf);cases h99;exact ⟨by (repeat refine .cons rfl ?_);exact .nil,rfl⟩
                  · refine pw_cond ?_;(conv=>whnf);refine pbr_oite h92 (fun g114 h92 => ?_) (fun g114 h92 => ?_)
                    · (conv=>whnf);refine pwa ?_;(conv=>whnf);refine pw_ret ?_;(conv=>whnf);refine po_ops 2 ?_;(conv=>whnf);refine po_all ?_;(conv=>whnf);cases h92;obtain rfl := h94 _ rfl;exact Recast.fz (fun _ => false) (nl rfl) (.cons (.same rfl rfl (OBnd.rwl (nl rfl) rfl (.cons .cl (.cons .cl (.cons .cl .nil))))) (.cons (.same rfl rfl (OBnd.tail (nl rfl))) (.cons (.same rfl rfl (OBnd.rwl (nl rfl) rfl (.cons .cl (.cons .cl (.cons .cl (.cons (.vt (nl rfl)) .nil)))))) (.cons (.same rfl rfl (OBnd.rwl (nl rfl) rfl (.cons .cl (.cons .cl (.cons .cl (.cons .cl .nil)))))) .nil)))) (.cons rfl (.same _ (.ptr (nl rfl))) (.cons rfl (.same _ (.ptr (nl rfl))) (.cons rfl (.same _ .cl) (.cons rfl (.same _ (.ptr (nl rfl))) (.cons rfl (.same _ .cl) (.cons rfl (.same _ .cl) (.cons rfl (.same _ .cl) .nil)))))))
                    · (conv=>whnf);refine pw_skip ?_;(conv=>whnf);refine pw_ops ?_;refine po_all ?_;(conv=>whnf);refine pw_ops ?_;refine po_all ?_;(conv=>whnf);refine ⟨_, .refl, nl rfl, ?_⟩;(conv=>whnf);refine pwa ?_;(conv=>whnf);refine pw_seq ?_;refine pw_cond ?_;(conv=>whnf);refine pw_skip ?_;(conv=>whnf);refine pw_seq ?_;refine pw_block ?_;refine pwa ?_;(conv=>whnf);refine pwa ?_;(conv=>whnf);refine nth_o (l := y88) h92 (fun x115 _ h92 => ?_);(conv=>whnf);obtain ⟨y116, h117, h92⟩ := obnd_some h92;refine (c394 h117).go ?_;(conv=>whnf);refine pw_seq ?_
                      obtain ⟨r118, h119, h92⟩ := obnd_some h92;refine pw_join (ρ := Bool) (fun e => ⟨[(0, (VS 1 (y88.map eS))), (6, (.pointer (some ⟨6, 0, none⟩))), (7, (.int .i64 y116.1)), (14, (VT 2 [(.agg ⟨[(.pointer (some ⟨3, 0, none⟩)), (.bool true)]⟩), (.agg ⟨[(.pointer (some ⟨3, 1, none⟩)), (.bool true)]⟩), (.agg ⟨[(.pointer (some ⟨3, 2, none⟩)), (.bool true)]⟩)] 4)), (15, (.int .i64 3)), (16, (.int .i64 1)), (57, (.bool e))], ⟨7, [(6, .rw [(.pointer (some ⟨3, 1, none⟩)), (.bool true)]), (5, .rw [(.pointer (some ⟨3, 0, none⟩)), (.bool true)]), (4, .tail 3 2), (3, .rw [(.int .i64 y96.1), (.int .i64 0), (.int .i64 0)]), (2, .tail (e78.2.2.map e_III).length 3), (1, .rw [(.int .i64 r4.2.1), (.int .i64 r4.2.2.1), (.int .i64 r4.2.2.2), (VT 3 (e78.2.2.map e_III) 2)]), (0, .rw [(.int .i64 0), (.int .i64 0), (.int .i64 0), (.slice none 0 0)])], false⟩⟩) r118 ?_ ?_
                      · refine pw_draw ?_;(conv=>whnf);refine oite_o2 h119 (fun g122 h119 => ?_) (fun g122 h119 => ?_)
                        · rw [ifv_t g122];(conv=>whnf);refine nth_o (l := y88) h119 (fun x123 _ h119 => ?_);(conv=>whnf);refine ⟨?_, trivial⟩;(conv=>whnf);obtain ⟨y124, h125, h119⟩ := obnd_some h119;refine (c385 h125).go ?_;(conv=>whnf);refine ⟨by trivial,?_⟩;(conv=>whnf);refine pbr_oite h119 (fun g126 h119 => ?_) (fun g126 h119 => ?_)
                          · (conv=>whnf);(iterate 4 refine pbr_t g126 ?_;(conv=>whnf));refine ⟨?_, trivial⟩;(conv=>whnf);cases h119;exact ⟨by (repeat refine .cons rfl ?_);exact .nil,rfl⟩
                          · (conv=>whnf);refine pbr_f g126 ?_;(conv=>whnf);refine pbr_f g126 ?_;(conv=>whnf);refine pbr_oite h119 (fun g127 h119 => ?_) (fun g127 h119 => ?_)
                            · (conv=>whnf);refine pbr_t g127 ?_;(conv=>whnf);refine pbr_t g127 ?_;(conv=>whnf);refine pbr_f g126 ?_;(conv=>whnf);refine pbr_t g127 ?_;(conv=>whnf);refine pbr_f g126 ?_;(conv=>whnf);refine nth_o (l := y88) h119 (fun x128 _ h119 => ?_);(conv=>whnf);refine ⟨?_, trivial⟩;(conv=>whnf);obtain ⟨y129, h130, h119⟩ := obnd_some h119;refine (c395 h130).go ?_;(conv=>whnf);refine ⟨by trivial,?_⟩;(conv=>whnf);cases h119;exact ⟨by (repeat refine .cons rfl ?_);exact .nil,rfl⟩
                            · (conv=>whnf);refine pbr_f g127 ?_;(conv=>whnf);refine pbr_f g127 ?_;(conv=>whnf);refine pbr_f g126 ?_;(conv=>whnf);refine pbr_f g127 ?_;(conv=>whnf);refine pbr_f g126 ?_;(conv=>whnf);refine nth_o (l := y88) h119 (fun x131 _ h119 => ?_);(conv=>whnf);refine ⟨?_, trivial⟩;(conv=>whnf);obtain ⟨y132, h133, h119⟩ := obnd_some h119;refine (c395 h133).go ?_;(conv=>whnf);refine ⟨by trivial,?_⟩;(conv=>whnf);cases h119;exact ⟨by (repeat refine .cons rfl ?_);exact .nil,rfl⟩
                        · rw [ifv_f g122];(conv=>whnf);refine ⟨?_, trivial⟩;(conv=>whnf);refine ⟨?_, trivial⟩;(conv=>whnf);cases h119;exact ⟨by (repeat refine .cons rfl ?_);exact .nil,rfl⟩
                      · refine pw_cond ?_;(conv=>whnf);refine pbr_oite h92 (fun g134 h92 => ?_) (fun g134 h92 => ?_)
                        · (conv=>whnf);refine pwa ?_;(conv=>whnf);refine pw_ret ?_;(conv=>whnf);refine po_ops 2 ?_;(conv=>whnf);refine po_all ?_;(conv=>whnf);cases h92;obtain rfl := h94 _ rfl;exact Recast.fz (fun _ => false) (nl rfl) (.cons (.same rfl rfl (OBnd.rwl (nl rfl) rfl (.cons .cl (.cons .cl (.cons .cl .nil))))) (.cons (.same rfl rfl (OBnd.tail (nl rfl))) (.cons (.same rfl rfl (OBnd.rwl (nl rfl) rfl (.cons .cl (.cons .cl (.cons .cl (.cons (.vt (nl rfl)) .nil)))))) (.cons (.same rfl rfl (OBnd.rwl (nl rfl) rfl (.cons .cl (.cons .cl (.cons .cl (.cons .cl .nil)))))) .nil)))) (.cons rfl (.same _ (.ptr (nl rfl))) (.cons rfl (.same _ (.ptr (nl rfl))) (.cons rfl (.same _ .cl) (.cons rfl (.same _ (.ptr (nl rfl))) (.cons rfl (.same _ .cl) (.cons rfl (.same _ .cl) (.cons rfl (.same _ .cl) .nil)))))))
                        · (conv=>whnf);refine pw_skip ?_;(conv=>whnf);refine pw_ops ?_;refine po_all ?_;(conv=>whnf);refine pw_ops ?_;refine po_all ?_;(conv=>whnf);refine ⟨_, .refl, nl rfl, ?_⟩;(conv=>whnf);refine pwa ?_;(conv=>whnf);refine pw_seq ?_;refine pw_cond ?_;(conv=>whnf);refine pw_skip ?_;(conv=>whnf);refine pw_seq ?_;refine pw_block ?_;refine pwa ?_;(conv=>whnf);refine pwa ?_;(conv=>whnf);refine nth_o (l := y88) h92 (fun x135 _ h92 => ?_);(conv=>whnf);obtain ⟨y136, h137, h92⟩ := obnd_some h92;refine (c394 h137).go ?_;(conv=>whnf);refine pw_seq ?_
                          obtain ⟨r138, h139, h92⟩ := obnd_some h92;refine pw_join (ρ := Bool) (fun e => ⟨[(0, (VS 1 (y88.map eS))), (6, (.pointer (some ⟨7, 0, none⟩))), (7, (.int .i64 y136.1)), (14, (VT 2 [(.agg ⟨[(.pointer (some ⟨3, 0, none⟩)), (.bool true)]⟩), (.agg ⟨[(.pointer (some ⟨3, 1, none⟩)), (.bool true)]⟩), (.agg ⟨[(.pointer (some ⟨3, 2, none⟩)), (.bool true)]⟩)] 4)), (15, (.int .i64 3)), (16, (.int .i64 2)), (57, (.bool e))], ⟨8, [(7, .rw [(.pointer (some ⟨3, 2, none⟩)), (.bool true)]), (6, .rw [(.pointer (some ⟨3, 1, none⟩)), (.bool true)]), (5, .rw [(.pointer (some ⟨3, 0, none⟩)), (.bool true)]), (4, .tail 3 2), (3, .rw [(.int .i64 y96.1), (.int .i64 y116.1), (.int .i64 0)]), (2, .tail (e78.2.2.map e_III).length 3), (1, .rw [(.int .i64 r4.2.1), (.int .i64 r4.2.2.1), (.int .i64 r4.2.2.2), (VT 3 (e78.2.2.map e_III) 2)]), (0, .rw [(.int .i64 0), (.int .i64 0), (.int .i64 0), (.slice none 0 0)])], false⟩⟩) r138 ?_ ?_
                          · refine pw_draw ?_;(conv=>whnf);refine oite_o2 h139 (fun g142 h139 => ?_) (fun g142 h139 => ?_)
                            · rw [ifv_t g142];(conv=>whnf);refine nth_o (l := y88) h139 (fun x143 _ h139 => ?_);(conv=>whnf);refine ⟨?_, trivial⟩;(conv=>whnf);obtain ⟨y144, h145, h139⟩ := obnd_some h139;refine (c385 h145).go ?_;(conv=>whnf);refine ⟨by trivial,?_⟩;(conv=>whnf);refine pbr_oite h139 (fun g146 h139 => ?_) (fun g146 h139 => ?_)
                              · (conv=>whnf);(iterate 4 refine pbr_t g146 ?_;(conv=>whnf));refine ⟨?_, trivial⟩;(conv=>whnf);cases h139;exact ⟨by (repeat refine .cons rfl ?_);exact .nil,rfl⟩
                              · (conv=>whnf);refine pbr_f g146 ?_;(conv=>whnf);refine pbr_f g146 ?_;(conv=>whnf);refine pbr_oite h139 (fun g147 h139 => ?_) (fun g147 h139 => ?_)
                                · (conv=>whnf);refine pbr_t g147 ?_;(conv=>whnf);refine pbr_t g147 ?_;(conv=>whnf);refine pbr_f g146 ?_;(conv=>whnf);refine pbr_t g147 ?_;(conv=>whnf);refine pbr_f g146 ?_;(conv=>whnf);refine nth_o (l := y88) h139 (fun x148 _ h139 => ?_);(conv=>whnf);refine ⟨?_, trivial⟩;(conv=>whnf);obtain ⟨y149, h150, h139⟩ := obnd_some h139;refine (c395 h150).go ?_;(conv=>whnf);refine ⟨by trivial,?_⟩;(conv=>whnf);cases h139;exact ⟨by (repeat refine .cons rfl ?_);exact .nil,rfl⟩
                                · (conv=>whnf);refine pbr_f g147 ?_;(conv=>whnf);refine pbr_f g147 ?_;(conv=>whnf);refine pbr_f g146 ?_;(conv=>whnf);refine pbr_f g147 ?_;(conv=>whnf);refine pbr_f g146 ?_;(conv=>whnf);refine nth_o (l := y88) h139 (fun x151 _ h139 => ?_);(conv=>whnf);refine ⟨?_, trivial⟩;(conv=>whnf);obtain ⟨y152, h153, h139⟩ := obnd_some h139;refine (c395 h153).go ?_;(conv=>whnf);refine ⟨by trivial,?_⟩;(conv=>whnf);cases h139;exact ⟨by (repeat refine .cons rfl ?_);exact .nil,rfl⟩
                            · rw [ifv_f g142];(conv=>whnf);refine ⟨?_, trivial⟩;(conv=>whnf);refine ⟨?_, trivial⟩;(conv=>whnf);cases h139;exact ⟨by (repeat refine .cons rfl ?_);exact .nil,rfl⟩
                          · refine pw_cond ?_;(conv=>whnf);refine pbr_oite h92 (fun g154 h92 => ?_) (fun g154 h92 => ?_)
                            · (conv=>whnf);refine pwa ?_;(conv=>whnf);refine pw_ret ?_;(conv=>whnf);refine po_ops 2 ?_;(conv=>whnf);refine po_all ?_;(conv=>whnf);cases h92;obtain rfl := h94 _ rfl;exact Recast.fz (fun _ => false) (nl rfl) (.cons (.same rfl rfl (OBnd.rwl (nl rfl) rfl (.cons .cl (.cons .cl (.cons .cl .nil))))) (.cons (.same rfl rfl (OBnd.tail (nl rfl))) (.cons (.same rfl rfl (OBnd.rwl (nl rfl) rfl (.cons .cl (.cons .cl (.cons .cl (.cons (.vt (nl rfl)) .nil)))))) (.cons (.same rfl rfl (OBnd.rwl (nl rfl) rfl (.cons .cl (.cons .cl (.cons .cl (.cons .cl .nil)))))) .nil)))) (.cons rfl (.same _ (.ptr (nl rfl))) (.cons rfl (.same _ (.ptr (nl rfl))) (.cons rfl (.same _ .cl) (.cons rfl (.same _ (.ptr (nl rfl))) (.cons rfl (.same _ .cl) (.cons rfl (.same _ .cl) (.cons rfl (.same _ .cl) .nil)))))))
                            · (conv=>whnf);refine pw_skip ?_;(conv=>whnf);refine pw_ops ?_;refine po_all ?_;(conv=>whnf);refine pw_ops ?_;refine po_all ?_;(conv=>whnf);refine ⟨_, .refl, nl rfl, ?_⟩;(conv=>whnf);refine pwa ?_;(conv=>whnf);refine pw_seq ?_;refine pw_cond ?_;(conv=>whnf);refine pw_exit ?_;(conv=>whnf);cases h92;exact ⟨_, rfl, ⟨.nil, rfl⟩⟩
                · intro r155 hr; have h85 := h93 _ hr;refine pwa ?_;(conv=>whnf);refine pw_ret ?_;(conv=>whnf);refine po_ops 2 ?_;(conv=>whnf);refine po_all ?_;(conv=>whnf);cases h85;exact Recast.fz (fun _ => false) (nl rfl) (.cons (.same rfl rfl (OBnd.rwl (nl rfl) rfl (.cons .cl (.cons .cl (.cons .cl .nil))))) (.cons (.same rfl rfl (OBnd.tail (nl rfl))) (.cons (.same rfl rfl (OBnd.rwl (nl rfl) rfl (.cons .cl (.cons .cl (.cons .cl (.cons (.vt (nl rfl)) .nil)))))) (.cons (.same rfl rfl (OBnd.rwl (nl rfl) rfl (.cons .cl (.cons .cl (.cons .cl (.cons .cl .nil)))))) .nil)))) (.cons rfl (.same _ (.ptr (nl rfl))) (.cons rfl (.same _ (.ptr (nl rfl))) (.cons rfl (.same _ .cl) (.cons rfl (.same _ (.ptr (nl rfl))) (.cons rfl (.same _ .cl) (.cons rfl (.same _ .cl) (.cons rfl (.same _ .cl) .nil)))))))
            · refine pw_ops ?_;refine po_all ?_;(conv=>whnf);refine app_o (l := e78.2.2) (m := ([(r84.2.1, r84.2.2.1, r84.2.2.2)] : List (Int × Int × Int))) (f := e_III) h80 (by rfl) (by rfl) (by rfl) (fun h80 => ?_);(conv=>whnf);refine pw_ops ?_;refine po_all ?_;(conv=>whnf);cases h80;refine ⟨_, rfl, ?_⟩;exact Recast.fz (fun _ => false) (nl rfl) (.cons (.same rfl rfl (OBnd.tail (nl rfl))) (.cons (.same rfl rfl (OBnd.rwl (nl rfl) rfl (.cons .cl (.cons .cl (.cons .cl (.cons (.vt (nl rfl)) .nil)))))) (.cons (.same rfl rfl (OBnd.rwl (nl rfl) rfl (.cons .cl (.cons .cl (.cons .cl (.cons .cl .nil)))))) .nil))) (.cons rfl (.same _ (.ptr (nl rfl))) (.cons rfl (.same _ (.ptr (nl rfl))) (.cons rfl (.same _ .cl) (.cons rfl (.same _ .cl) (.cons rfl (.same _ .cl) (.cons rfl (.same _ .cl) .nil))))))
          · (conv=>whnf);refine pw_exit ?_;(conv=>whnf);cases h80;refine ⟨_, rfl, ?_⟩; rintro rfl;(conv=>whnf);exact ⟨(.cons rfl (.cons rfl (.cons rfl .nil))), rfl⟩
      · refine pw_seq ?_;refine pwa ?_;(conv=>whnf);refine pw_cond ?_;(conv=>whnf);refine pbr_oite H (fun g157 H => ?_) (fun g157 H => ?_)
        · (conv=>whnf);refine pwa ?_;(conv=>whnf);refine pw_ret ?_;(conv=>whnf);cases H; show ∃ D, Fz _ D 0 (.tuple ⟨[(.agg ⟨[(.int .i64 0), (.int .i64 0), (.int .i64 0), (.slice none 0 0)]⟩), (.int .i64 7)]⟩) _;exact ⟨fun _ => false, .tuplel (.cons (.aggl (.cons .cl (.cons .cl (.cons .cl (.cons (.nil _) (.nil)))))) (.cons .cl (.nil)))⟩
        · (conv=>whnf);refine pw_skip ?_;(conv=>whnf);refine pwa ?_;(conv=>whnf);refine pw_ret ?_;(conv=>whnf);cases H; show ∃ D, Fz _ D 0 (.tuple ⟨[(.agg ⟨[(.int .i64 r4.2.1), (.int .i64 r4.2.2.1), (.int .i64 r4.2.2.2), (VT 3 _ 2)]⟩), (.int .i64 0)]⟩) _;exact ⟨fun _ => false, .tuplel (.cons (.aggl (.cons .cl (.cons .cl (.cons .cl (.cons .vtc (.nil)))))) (.cons .cl (.nil)))⟩
noncomputable def f386 [LO]  (a0 : ByteArray) (a1 : Int) : Option ((List ByteArray)) :=
 obnd (
 oloop (τ := (List ByteArray) × Int × Int) (ρ := (List ByteArray) × Int) (fun e5 =>
 oite ((ilt e5.2.2 (a0.size : Int))) (
 ogrd ((ile 0 e5.2.2)) (
 obnd (a0.data.toList[e5.2.2.toNat]?) fun (x10 : UInt8) =>
 oite ((ieq (x10.toNat : Int) a1)) (
 ogrd ((ile 0 e5.2.1)) (
 ogrd ((ile e5.2.1 e5.2.2)) (
 ogrd ((ile e5.2.2 (a0.size : Int))) (
 ogrd (fits 16 (e5.1.length + ([(⟨⟨(a0.data.toList.drop e5.2.1.toNat).take (e5.2.2.toNat - e5.2.1.toNat)⟩⟩ : ByteArray)] : List ByteArray).length)) (
 some (.inl (((e5.1 ++ ([(⟨⟨(a0.data.toList.drop e5.2.1.toNat).take (e5.2.2.toNat - e5.2.1.toNat)⟩⟩ : ByteArray)] : List ByteArray)), (IntKind.i64.wrap (e5.2.2 + (1 : Int))), (IntKind.i64.wrap (e5.2.2 + (1 : Int))))))))))
 ) (
 some (.inl (e5.1, e5.2.1, (IntKind.i64.wrap (e5.2.2 + (1 : Int)))))))
 ) (
 some (.inr ((e5.1, e5.2.1))))
 ) ((([] : List ByteArray), (0 : Int), (0 : Int)))
 ) fun (r1 : (List ByteArray) × Int) =>
 ogrd ((ile 0 r1.2)) (
 ogrd ((ile r1.2 (a0.size : Int))) (
 ogrd (fits 16 (r1.1.length + ([(⟨⟨a0.data.toList.drop r1.2.toNat⟩⟩ : ByteArray)] : List ByteArray).length)) (
 some (r1.1 ++ ([(⟨⟨a0.data.toList.drop r1.2.toNat⟩⟩ : ByteArray)] : List ByteArray)))))
theorem c386 [LO]  {a0 : ByteArray} {a1 : Int} {x : (List ByteArray)} (H : f386 a0 a1 = some x) : ICalls E 386 [(.string a0), (.int .u8 a1)] AHeap.none fun v _ => v = (VS 1 (x.map eS)) := by
 refine ICalls.frz ?_;refine icalls_fn (pfnw ?_); unfold f386 at H;(conv=>whnf);refine pwa ?_;(conv=>whnf);refine pwa ?_;(conv=>whnf);refine pwa ?_;(conv=>whnf);obtain ⟨r1, h2, H⟩ := obnd_some H;refine pw_join (ρ := (List ByteArray) × Int) (fun e => ⟨[(0, (.string a0)), (5, (VT 1 (e.1.map eS) 0)), (6, (.int .i64 e.2))], ⟨1, [(0, .tail (e.1.map eS).length 1)], false⟩⟩) r1 ?_ ?_
 · refine pwa ?_;(conv=>whnf);refine pw_block ?_;refine pw_loop (τ := (List ByteArray) × Int × Int) (fun e => ⟨[(0, (.string a0)), (1, (.int .u8 a1)), (5, (VT 1 (e.1.map eS) 0)), (6, (.int .i64 e.2.1)), (7, (.int .i64 e.2.2))], ⟨1, [(0, .tail (e.1.map eS).length 1)], false⟩⟩) h2 ?_ (fun _ => nl rfl) ?_
   · exact (Recast.nilTs 1 (nl rfl) (.same rfl (.same rfl (.turn rfl (.same rfl (.same rfl .nil))))))
   · intro e5 x6 h7;refine pw_seq ?_;refine pwa ?_;(conv=>whnf);refine pw_cond ?_;(conv=>whnf);refine pbr_oite h7 (fun g8 h7 => ?_) (fun g8 h7 => ?_)
     · (conv=>whnf);refine pw_skip ?_;(conv=>whnf);refine pw_seq ?_;refine pw_block ?_;refine pwa ?_;(conv=>whnf);refine pbr_ogrd h7 (fun g9 h7 => ?_);(conv=>whnf);refine get_o h7 (fun x10 _ h7 => ?_);(conv=>whnf);refine pw_cond ?_;(conv=>whnf);refine pbr_oite h7 (fun g11 h7 => ?_) (fun g11 h7 => ?_)
       · (conv=>whnf);refine pwa ?_;(conv=>whnf);refine pbr_ogrd h7 (fun g12 h7 => ?_);(conv=>whnf);refine pbr_ogrd h7 (fun g13 h7 => ?_);(conv=>whnf);refine pbr_ogrd h7 (fun g14 h7 => ?_);(conv=>whnf);refine app_o (l := e5.1) (m := ([(⟨⟨(a0.data.toList.drop e5.2.1.toNat).take (e5.2.2.toNat - e5.2.1.toNat)⟩⟩ : ByteArray)] : List ByteArray)) (f := eS) h7 (by rfl) (by rfl) (by rfl) (fun h7 => ?_);(conv=>whnf);refine pw_ops ?_;refine po_all ?_;(conv=>whnf);refine pw_ops ?_;refine po_all ?_;(conv=>whnf);cases h7;refine ⟨_, rfl, ?_⟩;refine Recast.trunc (nl rfl) ?_ ?_
         · repeat (first | exact .nil | refine .cons rfl (by first | exact OBnd.rwc (nl rfl) rfl | exact OBnd.tail (nl rfl) | trivial) ?_)
         · repeat (first | exact .nil | refine .cons rfl (by first | exact Bnd.ptr (nl rfl) | exact Bnd.vt (nl rfl) | exact Bnd.cl) ?_)
       · (conv=>whnf);refine pw_skip ?_;(conv=>whnf);refine pw_ops ?_;refine po_all ?_;(conv=>whnf);cases h7;refine ⟨_, rfl, ?_⟩;exact .sub' (nl rfl) (.cons rfl (.cons rfl (.cons rfl (.cons rfl (.cons rfl .nil)))))
     · (conv=>whnf);refine pw_exit ?_;(conv=>whnf);cases h7;refine ⟨_, rfl, ?_⟩; rintro rfl;(conv=>whnf);exact ⟨(.cons rfl (.cons rfl (.cons rfl .nil))), rfl⟩
 · refine pwa ?_;(conv=>whnf);refine pbr_ogrd H (fun g16 H => ?_);(conv=>whnf);refine pbr_ogrd H (fun g17 H => ?_);(conv=>whnf);refine app_o (l := r1.1) (m := ([(⟨⟨a0.data.toList.drop r1.2.toNat⟩⟩ : ByteArray)] : List ByteArray)) (f := eS) H (by rfl) (by rfl) (by rfl) (fun H => ?_);(conv=>whnf);refine pw_ret ?_;(conv=>whnf);cases H; show ∃ D, Fz _ D 0 (VT 1 _ 0) _;exact ⟨fun _ => false, .vtc⟩
noncomputable def f387 [LO]  (a0 : ByteArray) (a1 : Int) : Option (Int × Bool) :=
 obnd (
 obnd (
 oite ((ilt (0 : Int) (a0.size : Int))) (
 obnd (a0.data.toList[(0 : Int).toNat]?) fun (x10 : UInt8) =>
 some (ieq (x10.toNat : Int) (45 : Int))
 ) (
 some false)
 ) fun (r5 : Bool) =>
 oite r5 (
 some (1 : Int)
 ) (
 some (0 : Int))
 ) fun (r1 : Int) =>
 obnd (
 obnd (
 oite ((ieq (a0.size : Int) r1)) (
 some true
 ) (
 some (ilt a1 (IntKind.i64.wrap ((a0.size : Int) - r1))))
 ) fun (r16 : Bool) =>
 oite r16 (
 some true
 ) (
 ogrd ((ile 0 r1)) (
 obnd (a0.data.toList[r1.toNat]?) fun (x21 : UInt8) =>
 obnd (
 oite ((ieq (x21.toNat : Int) (48 : Int))) (
 some (ilt (1 : Int) (a0.size : Int))
 ) (
 some false)
 ) fun (r22 : Bool) =>
 some r22))
 ) fun (r12 : Bool) =>
 oite r12 (
 some ((0 : Int), false)
 ) (
 obndS (
 oloop (τ := Int × Int) (ρ := (Int) ⊕ (Int × Bool)) (fun e30 =>
 oite ((ilt e30.2 (a0.size : Int))) (
 obnd (
 ogrd ((ile 0 e30.2)) (
 obnd (a0.data.toList[e30.2.toNat]?) fun (x39 : UInt8) =>
 oite ((ilt (x39.toNat : Int) (48 : Int))) (
 some true
 ) (
 obnd (a0.data.toList[e30.2.toNat]?) fun (x41 : UInt8) =>
 some (ilt (57 : Int) (x41.toNat : Int))))
 ) fun (r34 : Bool) =>
 oite r34 (
 some (.inr (.inr (((0 : Int), false))))
 ) (
 ogrd ((ile 0 e30.2)) (
 obnd (a0.data.toList[e30.2.toNat]?) fun (x45 : UInt8) =>
 some (.inl (((IntKind.i64.wrap ((IntKind.i64.wrap ((10 : Int) * e30.1)) + (IntKind.i64.wrap (IntKind.u8.wrap ((x45.toNat : Int) - (48 : Int)))))), (IntKind.i64.wrap (e30.2 + (1 : Int))))))))
 ) (
 some (.inr (.inl e30.1)))
 ) ((0 : Int), r1)
 ) fun (r47 : Int) =>
 oite ((ieq r1 (1 : Int))) (
 some ((IntKind.i64.wrap (0 - r47)), true)
 ) (
 some (r47, true)))
theorem c387 [LO]  {a0 : ByteArray} {a1 : Int} {x : Int × Bool} (H : f387 a0 a1 = some x) : ICalls E 387 [(.string a0), (.int .i64 a1)] AHeap.none fun v _ => v = (.tuple ⟨[(.int .i64 x.1), (.bool x.2)]⟩) := by
 refine icalls_fn (pfnw ?_); unfold f387 at H;(conv=>whnf);refine pwa ?_;(conv=>whnf);refine pwa ?_;(conv=>whnf);obtain ⟨r1, h2, H⟩ := obnd_some H;refine pw_join (ρ := Int) (fun e => ⟨[(0, (.string a0)), (1, (.int .i64 a1)), (6, (.int .i64 e))], ⟨0, [], false⟩⟩) r1 ?_ ?_
 · obtain ⟨r5, h6, h2⟩ := obnd_some h2;refine pw_join (ρ := Bool) (fun e => ⟨[(0, (.string a0)), (1, (.int .i64 a1)), (6, (.int .i64 0)), (16, (.bool e))], ⟨0, [], false⟩⟩) r5 ?_ ?_
   · refine pw_ops ?_;refine po_all ?_;(conv=>whnf);refine pbr_oite h6 (fun g9 h6 => ?_) (fun g9 h6 => ?_)
     · (conv=>whnf);refine pbr_t g9 ?_;(conv=>whnf);refine get_o h6 (fun x10 _ h6 => ?_);(conv=>whnf);refine pbr_t g9 ?_;(conv=>whnf);refine pbr_t g9 ?_;(conv=>whnf);cases h6;exact ⟨by (repeat refine .cons rfl ?_);exact .nil,rfl⟩
     · (conv=>whnf);(iterate 3 refine pbr_f g9 ?_;(conv=>whnf));cases h6;exact ⟨by (repeat refine .cons rfl ?_);exact .nil,rfl⟩
   · refine pw_cond ?_;(conv=>whnf);refine pbr_oite h2 (fun g11 h2 => ?_) (fun g11 h2 => ?_)
     · (conv=>whnf);refine pw_ops ?_;refine po_all ?_;(conv=>whnf);cases h2;exact ⟨(.cons rfl (.cons rfl (.cons rfl .nil))), rfl⟩
     · (conv=>whnf);refine pw_skip ?_;(conv=>whnf);cases h2;exact ⟨(.cons rfl (.cons rfl (.cons rfl .nil))), rfl⟩
 · refine pw_seq ?_;obtain ⟨r12, h13, H⟩ := obnd_some H;refine pw_join (ρ := Bool) (fun e => ⟨[(0, (.string a0)), (6, (.int .i64 r1)), (39, (.bool e))], ⟨0, [], false⟩⟩) r12 ?_ ?_
   · refine pw_ops ?_;refine po_ops 5 ?_;(conv=>whnf);obtain ⟨r16, h17, h13⟩ := obnd_some h13;refine po_seg (τ := Bool) 7 (fun e => ⟨[(0, (.string a0)), (6, (.int .i64 r1)), (28, (.bool e))], ⟨0, [], false⟩⟩) r16 ?_ ?_
     · refine po_all ?_;(conv=>whnf);refine pbr_oite h17 (fun g18 h17 => ?_) (fun g18 h17 => ?_)
       · (conv=>whnf);(iterate 6 refine pbr_t g18 ?_;(conv=>whnf));cases h17;exact ⟨(.cons rfl (.cons rfl (.cons rfl .nil))), rfl⟩
       · (conv=>whnf);(iterate 6 refine pbr_f g18 ?_;(conv=>whnf));cases h17;exact ⟨(.cons rfl (.cons rfl (.cons rfl .nil))), rfl⟩
     · refine po_ops 6 ?_;(conv=>whnf);refine pbr_oite h13 (fun g19 h13 => ?_) (fun g19 h13 => ?_)
       · (conv=>whnf);(iterate 4 refine pbr_t g19 ?_;(conv=>whnf));refine po_ops 4 ?_;(conv=>whnf);refine pbr_t g19 ?_;(conv=>whnf);refine po_all ?_;(conv=>whnf);refine pbr_t g19 ?_;(conv=>whnf);cases h13;exact ⟨(.cons rfl (.cons rfl (.cons rfl .nil))), rfl⟩
       · (conv=>whnf);refine pbr_f g19 ?_;(conv=>whnf);refine pbr_f g19 ?_;(conv=>whnf);refine pbr_ogrd h13 (fun g20 h13 => ?_);(conv=>whnf);refine get_o h13 (fun x21 _ h13 => ?_);(conv=>whnf);refine pbr_f g19 ?_;(conv=>whnf);refine pbr_f g19 ?_;(conv=>whnf);obtain ⟨r22, h23, h13⟩ := obnd_some h13;refine po_seg (τ := Bool) 4 (fun e => ⟨[(0, (.string a0)), (6, (.int .i64 r1)), (29, (.bool r16)), (38, (.bool e))], ⟨0, [], false⟩⟩) r22 ?_ ?_
         · refine po_all ?_;(conv=>whnf);refine pbr_oite h23 (fun g24 h23 => ?_) (fun g24 h23 => ?_)
           · (conv=>whnf);refine pbr_t g24 ?_;(conv=>whnf);refine pbr_t g24 ?_;(conv=>whnf);refine pbr_f g19 ?_;(conv=>whnf);refine pbr_t g24 ?_;(conv=>whnf);cases h23;exact ⟨by (repeat refine .cons rfl ?_);exact .nil,rfl⟩
           · (conv=>whnf);refine pbr_f g24 ?_;(conv=>whnf);refine pbr_f g24 ?_;(conv=>whnf);refine pbr_f g19 ?_;(conv=>whnf);refine pbr_f g24 ?_;(conv=>whnf);cases h23;exact ⟨by (repeat refine .cons rfl ?_);exact .nil,rfl⟩
         · refine po_all ?_;(conv=>whnf);refine pbr_f g19 ?_;(conv=>whnf);cases h13;exact ⟨(.cons rfl (.cons rfl (.cons rfl .nil))), rfl⟩
   · refine pw_cond ?_;(conv=>whnf);refine pbr_oite H (fun g25 H => ?_) (fun g25 H => ?_)
     · (conv=>whnf);refine pwa ?_;(conv=>whnf);refine pw_ret ?_;(conv=>whnf);cases H; rfl
     · (conv=>whnf);refine pw_skip ?_;(conv=>whnf);refine pwa ?_;(conv=>whnf);obtain ⟨r26, h27, h28, h29⟩ := obndS_some H;refine pw_joinS (ρ := Int) (fun e => ⟨[(6, (.int .i64 r1)), (7, (.int .i64 e))], ⟨0, [], false⟩⟩) r26 ?_ ?_
       · refine pwa ?_;(conv=>whnf);refine pw_block ?_;refine pw_loop (τ := Int × Int) (fun e => ⟨[(0, (.string a0)), (6, (.int .i64 r1)), (7, (.int .i64 e.1)), (8, (.int .i64 e.2))], ⟨0, [], false⟩⟩) h27 ?_ (fun _ => nl rfl) ?_
         · exact .sub' (nl rfl) (.cons rfl (.cons rfl (.cons rfl (.cons rfl .nil))))
         · intro e30 x31 h32;refine pw_seq ?_;refine pwa ?_;(conv=>whnf);refine pw_cond ?_;(conv=>whnf);refine pbr_oite h32 (fun g33 h32 => ?_) (fun g33 h32 => ?_)
           · (conv=>whnf);refine pw_skip ?_;(conv=>whnf);refine pw_seq ?_;refine pw_block ?_;refine pw_seq ?_;obtain ⟨r34, h35, h32⟩ := obnd_some h32;refine pw_join (ρ := Bool) (fun e => ⟨[(0, (.string a0)), (6, (.int .i64 r1)), (7, (.int .i64 e30.1)), (8, (.int .i64 e30.2)), (56, (.bool e))], ⟨0, [], false⟩⟩) r34 ?_ ?_
             · refine pw_ops ?_;refine po_all ?_;(conv=>whnf);refine pbr_ogrd h35 (fun g38 h35 => ?_);(conv=>whnf);refine get_o h35 (fun x39 _ h35 => ?_);(conv=>whnf);refine pbr_oite h35 (fun g40 h35 => ?_) (fun g40 h35 => ?_)
               · (conv=>whnf);(iterate 4 refine pbr_t g40 ?_;(conv=>whnf));cases h35;exact ⟨by (repeat refine .cons rfl ?_);exact .nil,rfl⟩
               · (conv=>whnf);refine pbr_f g40 ?_;(conv=>whnf);refine pbr_f g40 ?_;(conv=>whnf);refine pbr_t g38 ?_;(conv=>whnf);refine get_o h35 (fun x41 _ h35 => ?_);(conv=>whnf);refine pbr_f g40 ?_;(conv=>whnf);refine pbr_f g40 ?_;(conv=>whnf);cases h35;exact ⟨by (repeat refine .cons rfl ?_);exact .nil,rfl⟩
             · refine pw_cond ?_;(conv=>whnf);refine pbr_oite h32 (fun g42 h32 => ?_) (fun g42 h32 => ?_)
               · (conv=>whnf);refine pwa ?_;(conv=>whnf);refine pw_ret ?_;(conv=>whnf);cases h32;refine ⟨_, rfl, ?_⟩; rintro rfl;(conv=>whnf);obtain rfl := h29 _ rfl; rfl
               · (conv=>whnf);refine pw_skip ?_;(conv=>whnf);refine pw_ops ?_;refine po_all ?_;(conv=>whnf);refine pbr_ogrd h32 (fun g44 h32 => ?_);(conv=>whnf);refine get_o h32 (fun x45 _ h32 => ?_);(conv=>whnf);refine pw_ops ?_;refine po_all ?_;(conv=>whnf);cases h32;refine ⟨_, rfl, ?_⟩;exact .sub' (nl rfl) (.cons rfl (.cons rfl (.cons rfl (.cons rfl .nil))))
           · (conv=>whnf);refine pw_exit ?_;(conv=>whnf);cases h32;refine ⟨_, rfl, ?_⟩; rintro rfl;(conv=>whnf);exact ⟨_, rfl, ⟨(.cons rfl (.cons rfl .nil)), rfl⟩⟩
       · intro r47 hr; have H := h28 _ hr;refine pw_seq ?_;refine pwa ?_;(conv=>whnf);refine pw_cond ?_;(conv=>whnf);refine pbr_oite H (fun g48 H => ?_) (fun g48 H => ?_)
         · (conv=>whnf);refine pw_ops ?_;refine po_all ?_;(conv=>whnf);refine pwa ?_;(conv=>whnf);refine pw_ret ?_;(conv=>whnf);cases H; rfl
         · (conv=>whnf);refine pw_skip ?_;(conv=>whnf);refine pwa ?_;(conv=>whnf);refine pw_ret ?_;(conv=>whnf);cases H; rfl
noncomputable def f473 [LO]  (a0 : List ByteArray) (a1 : Int) (a2 : Int) : Option ((List Int) × Bool) :=
 oite ((!(ieq ((a0.map eS).length : Int) a1))) (
 some (([] : List Int), false)
 ) (
 obndS (
 oloop (τ := (List Int) × Int) (ρ := ((List Int)) ⊕ ((List Int) × Bool)) (fun e6 =>
 oite ((ilt e6.2 ((a0.map eS).length : Int))) (
 ogrd ((ile 0 e6.2)) (
 obnd (a0[e6.2.toNat]?) fun (x11 : ByteArray) =>
 obnd (f387 x11 (7 : Int)) fun (y12 : Int × Bool) =>
 obnd (
 oite (!y12.2) (
 some true
 ) (
 obnd (
 oite ((ilt y12.1 (0 : Int))) (
 some (ilt e6.2 a2)
 ) (
 some false)
 ) fun (r19 : Bool) =>
 some r19)
 ) fun (r14 : Bool) =>
 oite r14 (
 some (.inr (.inr ((([] : List Int), false))))
 ) (
 ogrd (fits 8 (e6.1.length + ([y12.1] : List Int).length)) (
 some (.inl (((e6.1 ++ ([y12.1] : List Int)), (IntKind.i64.wrap (e6.2 + (1 : Int)))))))))
 ) (
 some (.inr (.inl e6.1)))
 ) ((([] : List Int), (0 : Int)))
 ) fun (r25 : (List Int)) =>
 some (r25, true))
theorem c473 [LO]  {a0 : List ByteArray} {a1 : Int} {a2 : Int} {x : (List Int) × Bool} (H : f473 a0 a1 a2 = some x) : ICalls E 473 [(VS 1 (a0.map eS)), (.int .i64 a1), (.int .i64 a2)] AHeap.none fun v _ => v = (.tuple ⟨[(VS 1 (x.1.map eI)), (.bool x.2)]⟩) := by
 refine ICalls.frz ?_;refine icalls_fn (pfnw ?_); unfold f473 at H;(conv=>whnf);refine pwa ?_;(conv=>whnf);refine pw_seq ?_;refine pwa ?_;(conv=>whnf);refine pw_cond ?_;(conv=>whnf);refine pbr_oite H (fun g1 H => ?_) (fun g1 H => ?_)
 · (conv=>whnf);refine pwa ?_;(conv=>whnf);refine pw_ret ?_;(conv=>whnf);cases H; show ∃ D, Fz _ D 0 (.tuple ⟨[(.slice none 0 0), (.bool false)]⟩) _;exact ⟨fun _ => false, .tuplel (.cons (.nil _) (.cons .cl (.nil)))⟩
 · (conv=>whnf);refine pw_skip ?_;(conv=>whnf);refine pwa ?_;(conv=>whnf);obtain ⟨r2, h3, h4, h5⟩ := obndS_some H;refine pw_joinS (ρ := (List Int)) (fun e => ⟨[(8, (VT 1 (e.map eI) 0))], ⟨1, [(0, .tail (e.map eI).length 1)], false⟩⟩) r2 ?_ ?_
   · refine pwa ?_;(conv=>whnf);refine pw_block ?_;refine pw_loop (τ := (List Int) × Int) (fun e => ⟨[(0, (VS 1 (a0.map eS))), (2, (.int .i64 a2)), (8, (VT 1 (e.1.map eI) 0)), (9, (.int .i64 e.2))], ⟨1, [(0, .tail (e.1.map eI).length 1)], false⟩⟩) h3 ?_ (fun _ => nl rfl) ?_
     · exact (Recast.nilTs 1 (nl rfl) (.same rfl (.same rfl (.turn rfl (.same rfl .nil)))))
     · intro e6 x7 h8;refine pw_seq ?_;refine pwa ?_;(conv=>whnf);refine pw_cond ?_;(conv=>whnf);refine pbr_oite h8 (fun g9 h8 => ?_) (fun g9 h8 => ?_)
       · (conv=>whnf);refine pw_skip ?_;(conv=>whnf);refine pw_seq ?_;refine pw_block ?_;refine pwa ?_;(conv=>whnf);refine pbr_ogrd h8 (fun g10 h8 => ?_);(conv=>whnf);refine nth_o (l := a0) h8 (fun x11 _ h8 => ?_);(conv=>whnf);obtain ⟨y12, h13, h8⟩ := obnd_some h8;refine (c387 h13).go ?_;(conv=>whnf);refine pw_seq ?_;obtain ⟨r14, h15, h8⟩ := obnd_some h8;refine pw_join (ρ := Bool) (fun e => ⟨[(0, (VS 1 (a0.map eS))), (2, (.int .i64 a2)), (8, (VT 1 (e6.1.map eI) 0)), (9, (.int .i64 e6.2)), (10, (.int .i64 y12.1)), (40, (.bool e))], ⟨1, [(0, .tail (e6.1.map eI).length 1)], false⟩⟩) r14 ?_ ?_
         · refine pw_ops ?_;refine po_ops 6 ?_;(conv=>whnf);refine pbr_oite h15 (fun g18 h15 => ?_) (fun g18 h15 => ?_)
           · (conv=>whnf);refine pbr_t g18 ?_;(conv=>whnf);refine pbr_t g18 ?_;(conv=>whnf);refine po_ops 4 ?_;(conv=>whnf);refine pbr_t g18 ?_;(conv=>whnf);refine po_all ?_;(conv=>whnf);refine pbr_t g18 ?_;(conv=>whnf);cases h15;exact ⟨by (repeat refine .cons rfl ?_);exact .nil,rfl⟩
           · (conv=>whnf);refine pbr_f g18 ?_;(conv=>whnf);refine pbr_f g18 ?_;(conv=>whnf);obtain ⟨r19, h20, h15⟩ := obnd_some h15;refine po_seg (τ := Bool) 4 (fun e => ⟨[(0, (VS 1 (a0.map eS))), (2, (.int .i64 a2)), (8, (VT 1 (e6.1.map eI) 0)), (9, (.int .i64 e6.2)), (10, (.int .i64 y12.1)), (32, (.bool (!y12.2))), (33, (.int .i64 y12.1)), (34, (.bool (ilt y12.1 (0 : Int)))), (35, (.bool (ilt y12.1 (0 : Int)))), (39, (.bool e))], ⟨1, [(0, .tail (e6.1.map eI).length 1)], false⟩⟩) r19 ?_ ?_
             · refine po_all ?_;(conv=>whnf);refine pbr_oite h20 (fun g21 h20 => ?_) (fun g21 h20 => ?_)
               · (conv=>whnf);refine pbr_t g21 ?_;(conv=>whnf);refine pbr_t g21 ?_;(conv=>whnf);refine pbr_f g18 ?_;(conv=>whnf);refine pbr_t g21 ?_;(conv=>whnf);cases h20;exact ⟨by (repeat refine .cons rfl ?_);exact .nil,rfl⟩
               · (conv=>whnf);refine pbr_f g21 ?_;(conv=>whnf);refine pbr_f g21 ?_;(conv=>whnf);refine pbr_f g18 ?_;(conv=>whnf);refine pbr_f g21 ?_;(conv=>whnf);cases h20;exact ⟨by (repeat refine .cons rfl ?_);exact .nil,rfl⟩
             · refine po_all ?_;(conv=>whnf);refine pbr_f g18 ?_;(conv=>whnf);cases h15;exact ⟨by (repeat refine .cons rfl ?_);exact .nil,rfl⟩
         · refine pw_cond ?_;(conv=>whnf);refine pbr_oite h8 (fun g22 h8 => ?_) (fun g22 h8 => ?_)
           · (conv=>whnf);refine pwa ?_;(conv=>whnf);refine pw_ret ?_;(conv=>whnf);cases h8;refine ⟨_, rfl, ?_⟩; rintro rfl;(conv=>whnf);obtain rfl := h5 _ rfl; show ∃ D, Fz _ D 0 (.tuple ⟨[(.slice none 0 0), (.bool false)]⟩) _;exact ⟨fun _ => false, .tuplel (.cons (.nil _) (.cons .cl (.nil)))⟩
           · (conv=>whnf);refine pw_skip ?_;(conv=>whnf);refine pw_ops ?_;refine po_all ?_;(conv=>whnf);refine app_o (l := e6.1) (m := ([y12.1] : List Int)) (f := eI) h8 (by rfl) (by rfl) (by rfl) (fun h8 => ?_);(conv=>whnf);refine pw_ops ?_;refine po_all ?_;(conv=>whnf);cases h8;refine ⟨_, rfl, ?_⟩;refine Recast.trunc (nl rfl) ?_ ?_
             · repeat (first | exact .nil | refine .cons rfl (by first | exact OBnd.rwc (nl rfl) rfl | exact OBnd.tail (nl rfl) | trivial) ?_)
             · repeat (first | exact .nil | refine .cons rfl (by first | exact Bnd.ptr (nl rfl) | exact Bnd.vt (nl rfl) | exact Bnd.cl) ?_)
       · (conv=>whnf);refine pw_exit ?_;(conv=>whnf);cases h8;refine ⟨_, rfl, ?_⟩; rintro rfl;(conv=>whnf);exact ⟨_, rfl, ⟨(.cons rfl .nil), rfl⟩⟩
   · intro r25 hr; have H := h4 _ hr;refine pwa ?_;(conv=>whnf);refine pw_ret ?_;(conv=>whnf);cases H; show ∃ D, Fz _ D 0 (.tuple ⟨[(VT 1 _ 0), (.bool true)]⟩) _;exact ⟨fun _ => false, .tuplel (.cons .vtc (.cons .cl (.nil)))⟩
noncomputable def f15  (a0 : Int) (a1 : Int) (a2 : Int) : Option Bool :=
 obnd (
 oite ((ile a1 a0)) (
 some (ile a0 a2)
 ) (
 some false)
 ) fun (r1 : Bool) =>
 some r1
theorem c15  {a0 : Int} {a1 : Int} {a2 : Int} {x : Bool} (H : f15 a0 a1 a2 = some x) : ICalls E 15 [(.int .i64 a0), (.int .i64 a1), (.int .i64 a2)] AHeap.none fun v _ => v = (.bool x) := by
 refine icalls_fn (pfnw ?_); unfold f15 at H;(conv=>whnf);refine pwa ?_;(conv=>whnf);refine pw_so ?_;refine po_ops 4 ?_;(conv=>whnf);obtain ⟨r1, h2, H⟩ := obnd_some H;refine po_seg (τ := Bool) 4 (fun e => ⟨[(14, (.bool e))], ⟨0, [], false⟩⟩) r1 ?_ ?_
 · refine po_all ?_;(conv=>whnf);refine pbr_oite h2 (fun g3 h2 => ?_) (fun g3 h2 => ?_)
   · (conv=>whnf);(iterate 3 refine pbr_t g3 ?_;(conv=>whnf));cases h2;exact ⟨(.cons rfl .nil), rfl⟩
   · (conv=>whnf);(iterate 3 refine pbr_f g3 ?_;(conv=>whnf));cases h2;exact ⟨(.cons rfl .nil), rfl⟩
 · refine po_all ?_;(conv=>whnf);refine pw_ret ?_;(conv=>whnf);cases H; rfl
noncomputable def f91 [LO]  (a0 : ByteArray) : Option Bool :=
 obnd (
 oite ((ilt (a0.size : Int) (1 : Int))) (
 some true
 ) (
 some (ilt (12 : Int) (a0.size : Int)))
 ) fun (r1 : Bool) =>
 oite r1 (
 some false
 ) (
 obndS (
 oloop (τ := Int) (ρ := (Unit) ⊕ Bool) (fun e11 =>
 oite ((ilt e11 (a0.size : Int))) (
 ogrd ((ile 0 e11)) (
 obnd (a0.data.toList[e11.toNat]?) fun (x16 : UInt8) =>
 obnd (
 oite ((ile (97 : Int) (x16.toNat : Int))) (
 some (ile (x16.toNat : Int) (122 : Int))
 ) (
 some false)
 ) fun (r17 : Bool) =>
 obnd (
 oite r17 (
 some true
 ) (
 oite ((ile (65 : Int) (x16.toNat : Int))) (
 some (ile (x16.toNat : Int) (90 : Int))
 ) (
 some false))
 ) fun (r20 : Bool) =>
 obnd (
 oite (!r20) (
 obnd (
 oite ((ieq e11 (0 : Int))) (
 some true
 ) (
 oite ((!(ieq (x16.toNat : Int) (45 : Int)))) (
 oite ((ilt (x16.toNat : Int) (48 : Int))) (
 some true
 ) (
 some (ilt (57 : Int) (x16.toNat : Int)))
 ) (
 some false))
 ) fun (r29 : Bool) =>
 some r29
 ) (
 some false)
 ) fun (r24 : Bool) =>
 oite r24 (
 some (.inr (.inr (false)))
 ) (
 some (.inl (IntKind.i64.wrap (e11 + (1 : Int))))))
 ) (
 some (.inr (.inl ())))
 ) (0 : Int)
 ) fun (_ : Unit) =>
 some true)
theorem c91 [LO]  {a0 : ByteArray} {x : Bool} (H : f91 a0 = some x) : ICalls E 91 [(.string a0)] AHeap.none fun v _ => v = (.bool x) := by
 refine icalls_fn (pfnw ?_); unfold f91 at H;(conv=>whnf);refine pwa ?_;(conv=>whnf);refine pw_seq ?_;obtain ⟨r1, h2, H⟩ := obnd_some H;refine pw_join (ρ := Bool) (fun e => ⟨[(0, (.string a0)), (13, (.bool e))], ⟨0, [], false⟩⟩) r1 ?_ ?_
 · refine pw_ops ?_;refine po_all ?_;(conv=>whnf);refine pbr_oite h2 (fun g5 h2 => ?_) (fun g5 h2 => ?_)
   · (conv=>whnf);(iterate 3 refine pbr_t g5 ?_;(conv=>whnf));cases h2;exact ⟨(.cons rfl (.cons rfl .nil)), rfl⟩
   · (conv=>whnf);(iterate 3 refine pbr_f g5 ?_;(conv=>whnf));cases h2;exact ⟨(.cons rfl (.cons rfl .nil)), rfl⟩
 · refine pw_cond ?_;(conv=>whnf);refine pbr_oite H (fun g6 H => ?_) (fun g6 H => ?_)
   · (conv=>whnf);refine pwa ?_;(conv=>whnf);refine pw_ret ?_;(conv=>whnf);cases H; rfl
   · (conv=>whnf);refine pw_skip ?_;(conv=>whnf);obtain ⟨r7, h8, h9, h10⟩ := obndS_some H;refine pw_joinS (ρ := Unit) (fun e => ⟨[], ⟨0, [], false⟩⟩) r7 ?_ ?_
     · refine pwa ?_;(conv=>whnf);refine pw_block ?_;refine pw_loop (τ := Int) (fun e => ⟨[(0, (.string a0)), (3, (.int .i64 e))], ⟨0, [], false⟩⟩) h8 ?_ (fun _ => nl rfl) ?_
       · exact .sub' (nl rfl) (.cons rfl (.cons rfl .nil))
       · intro e11 x12 h13;refine pw_seq ?_;refine pwa ?_;(conv=>whnf);refine pw_cond ?_;(conv=>whnf);refine pbr_oite h13 (fun g14 h13 => ?_) (fun g14 h13 => ?_)
         · (conv=>whnf);refine pw_skip ?_;(conv=>whnf);refine pw_seq ?_;refine pw_block ?_;refine pwa ?_;(conv=>whnf);refine pbr_ogrd h13 (fun g15 h13 => ?_);(conv=>whnf);refine get_o h13 (fun x16 _ h13 => ?_);(conv=>whnf);refine pw_so ?_;refine po_ops 3 ?_;(conv=>whnf);obtain ⟨r17, h18, h13⟩ := obnd_some h13;refine po_seg (τ := Bool) 3 (fun e => ⟨[(0, (.string a0)), (3, (.int .i64 e11)), (4, (.int .u8 (x16.toNat : Int))), (28, (.bool e))], ⟨0, [], false⟩⟩) r17 ?_ ?_
           · refine po_all ?_;(conv=>whnf);refine pbr_oite h18 (fun g19 h18 => ?_) (fun g19 h18 => ?_)
             · (conv=>whnf);refine pbr_t g19 ?_;(conv=>whnf);refine pbr_t g19 ?_;(conv=>whnf);cases h18;exact ⟨by (repeat refine .cons rfl ?_);exact .nil,rfl⟩
             · (conv=>whnf);refine pbr_f g19 ?_;(conv=>whnf);refine pbr_f g19 ?_;(conv=>whnf);cases h18;exact ⟨by (repeat refine .cons rfl ?_);exact .nil,rfl⟩
           · refine po_ops 1 ?_;(conv=>whnf);obtain ⟨r20, h21, h13⟩ := obnd_some h13;refine po_seg (τ := Bool) 7 (fun e => ⟨[(0, (.string a0)), (3, (.int .i64 e11)), (4, (.int .u8 (x16.toNat : Int))), (36, (.bool e))], ⟨0, [], false⟩⟩) r20 ?_ ?_
             · refine po_all ?_;(conv=>whnf);refine pbr_oite h21 (fun g22 h21 => ?_) (fun g22 h21 => ?_)
               · (conv=>whnf);(iterate 4 refine pbr_t g22 ?_;(conv=>whnf));cases h21;exact ⟨by (repeat refine .cons rfl ?_);exact .nil,rfl⟩
               · (conv=>whnf);refine pbr_f g22 ?_;(conv=>whnf);refine pbr_f g22 ?_;(conv=>whnf);refine pbr_oite h21 (fun g23 h21 => ?_) (fun g23 h21 => ?_)
                 · (conv=>whnf);refine pbr_t g23 ?_;(conv=>whnf);refine pbr_f g22 ?_;(conv=>whnf);refine pbr_t g23 ?_;(conv=>whnf);refine pbr_f g22 ?_;(conv=>whnf);cases h21;exact ⟨by (repeat refine .cons rfl ?_);exact .nil,rfl⟩
                 · (conv=>whnf);refine pbr_f g23 ?_;(conv=>whnf);refine pbr_f g22 ?_;(conv=>whnf);refine pbr_f g23 ?_;(conv=>whnf);refine pbr_f g22 ?_;(conv=>whnf);cases h21;exact ⟨by (repeat refine .cons rfl ?_);exact .nil,rfl⟩
             · refine po_all ?_;(conv=>whnf);obtain ⟨r24, h25, h13⟩ := obnd_some h13;refine pw_join (ρ := Bool) (fun e => ⟨[(0, (.string a0)), (3, (.int .i64 e11)), (54, (.bool e))], ⟨0, [], false⟩⟩) r24 ?_ ?_
               · refine pw_ops ?_;refine po_ops 6 ?_;(conv=>whnf);refine pbr_oite h25 (fun g28 h25 => ?_) (fun g28 h25 => ?_)
                 · (conv=>whnf);refine pbr_t g28 ?_;(conv=>whnf);refine pbr_t g28 ?_;(conv=>whnf);obtain ⟨r29, h30, h25⟩ := obnd_some h25;refine po_seg (τ := Bool) 11 (fun e => ⟨[(0, (.string a0)), (3, (.int .i64 e11)), (39, (.bool (!r20))), (40, (.int .i64 e11)), (41, (.bool (ieq e11 (0 : Int)))), (42, (.bool (ieq e11 (0 : Int)))), (53, (.bool e))], ⟨0, [], false⟩⟩) r29 ?_ ?_
                   · refine po_all ?_;(conv=>whnf);refine pbr_oite h30 (fun g31 h30 => ?_) (fun g31 h30 => ?_)
                     · (conv=>whnf);(iterate 3 refine pbr_t g31 ?_;(conv=>whnf));refine pbr_t g28 ?_;(conv=>whnf);refine pbr_t g31 ?_;(conv=>whnf);cases h30;exact ⟨by (repeat refine .cons rfl ?_);exact .nil,rfl⟩
                     · (conv=>whnf);refine pbr_f g31 ?_;(conv=>whnf);refine pbr_f g31 ?_;(conv=>whnf);refine pbr_oite h30 (fun g32 h30 => ?_) (fun g32 h30 => ?_)
                       · (conv=>whnf);refine pbr_t g32 ?_;(conv=>whnf);refine pbr_t g32 ?_;(conv=>whnf);refine pbr_oite h30 (fun g33 h30 => ?_) (fun g33 h30 => ?_)
                         · (conv=>whnf);refine pbr_t g33 ?_;(conv=>whnf);refine pbr_t g32 ?_;(conv=>whnf);refine pbr_t g33 ?_;(conv=>whnf);refine pbr_f g31 ?_;(conv=>whnf);refine pbr_t g32 ?_;(conv=>whnf);refine pbr_t g28 ?_;(conv=>whnf);refine pbr_f g31 ?_;(conv=>whnf);cases h30;exact ⟨by (repeat refine .cons rfl ?_);exact .nil,rfl⟩
                         · (conv=>whnf);refine pbr_f g33 ?_;(conv=>whnf);refine pbr_t g32 ?_;(conv=>whnf);refine pbr_f g33 ?_;(conv=>whnf);refine pbr_f g31 ?_;(conv=>whnf);refine pbr_t g32 ?_;(conv=>whnf);refine pbr_t g28 ?_;(conv=>whnf);refine pbr_f g31 ?_;(conv=>whnf);cases h30;exact ⟨by (repeat refine .cons rfl ?_);exact .nil,rfl⟩
                       · (conv=>whnf);(iterate 3 refine pbr_f g32 ?_;(conv=>whnf));refine pbr_f g31 ?_;(conv=>whnf);refine pbr_f g32 ?_;(conv=>whnf);refine pbr_t g28 ?_;(conv=>whnf);refine pbr_f g31 ?_;(conv=>whnf);cases h30;exact ⟨by (repeat refine .cons rfl ?_);exact .nil,rfl⟩
                   · refine po_all ?_;(conv=>whnf);refine pbr_t g28 ?_;(conv=>whnf);cases h25;exact ⟨(.cons rfl (.cons rfl (.cons rfl .nil))), rfl⟩
                 · (conv=>whnf);refine pbr_f g28 ?_;(conv=>whnf);refine pbr_f g28 ?_;(conv=>whnf);refine po_ops 11 ?_;(conv=>whnf);refine pbr_f g28 ?_;(conv=>whnf);refine po_all ?_;(conv=>whnf);refine pbr_f g28 ?_;(conv=>whnf);cases h25;exact ⟨(.cons rfl (.cons rfl (.cons rfl .nil))), rfl⟩
               · refine pw_cond ?_;(conv=>whnf);refine pbr_oite h13 (fun g34 h13 => ?_) (fun g34 h13 => ?_)
                 · (conv=>whnf);refine pwa ?_;(conv=>whnf);refine pw_ret ?_;(conv=>whnf);cases h13;refine ⟨_, rfl, ?_⟩; rintro rfl;(conv=>whnf);obtain rfl := h10 _ rfl; rfl
                 · (conv=>whnf);refine pw_skip ?_;(conv=>whnf);refine pw_ops ?_;refine po_all ?_;(conv=>whnf);cases h13;refine ⟨_, rfl, ?_⟩;exact .sub' (nl rfl) (.cons rfl (.cons rfl .nil))
         · (conv=>whnf);refine pw_exit ?_;(conv=>whnf);cases h13;refine ⟨_, rfl, ?_⟩; rintro rfl;(conv=>whnf);exact ⟨_, rfl, ⟨.nil, rfl⟩⟩
     · intro r37 hr; have H := h9 _ hr;refine pwa ?_;(conv=>whnf);refine pw_ret ?_;(conv=>whnf);cases H; rfl
noncomputable def f364 [LO]  (a0 : List ByteArray) (a1 : ByteArray) : Option Bool :=
 obndS (
 oloop (τ := Int) (ρ := (Unit) ⊕ Bool) (fun e5 =>
 oite ((ilt e5 ((a0.map eS).length : Int))) (
 ogrd ((ile 0 e5)) (
 obnd (a0[e5.toNat]?) fun (x10 : ByteArray) =>
 oite ((x10.toList == a1.toList)) (
 some (.inr (.inr (true)))
 ) (
 some (.inl (IntKind.i64.wrap (e5 + (1 : Int))))))
 ) (
 some (.inr (.inl ())))
 ) (0 : Int)
 ) fun (_ : Unit) =>
 some false
theorem c364 [LO]  {a0 : List ByteArray} {a1 : ByteArray} {x : Bool} (H : f364 a0 a1 = some x) : ICalls E 364 [(VS 1 (a0.map eS)), (.string a1)] AHeap.none fun v _ => v = (.bool x) := by
 refine icalls_fn (pfnw ?_); unfold f364 at H;(conv=>whnf);refine pwa ?_;(conv=>whnf);obtain ⟨r1, h2, h3, h4⟩ := obndS_some H;refine pw_joinS (ρ := Unit) (fun e => ⟨[], ⟨0, [], false⟩⟩) r1 ?_ ?_
 · refine pwa ?_;(conv=>whnf);refine pw_block ?_;refine pw_loop (τ := Int) (fun e => ⟨[(0, (VS 1 (a0.map eS))), (1, (.string a1)), (5, (.int .i64 e))], ⟨0, [], false⟩⟩) h2 ?_ (fun _ => nl rfl) ?_
   · exact .sub' (nl rfl) (.cons rfl (.cons rfl (.cons rfl .nil)))
   · intro e5 x6 h7;refine pw_seq ?_;refine pwa ?_;(conv=>whnf);refine pw_cond ?_;(conv=>whnf);refine pbr_oite h7 (fun g8 h7 => ?_) (fun g8 h7 => ?_)
     · (conv=>whnf);refine pw_skip ?_;(conv=>whnf);refine pw_seq ?_;refine pw_block ?_;refine pwa ?_;(conv=>whnf);refine pbr_ogrd h7 (fun g9 h7 => ?_);(conv=>whnf);refine nth_o (l := a0) h7 (fun x10 _ h7 => ?_);(conv=>whnf);refine pw_cond ?_;(conv=>whnf);refine pbr_oite h7 (fun g11 h7 => ?_) (fun g11 h7 => ?_)
       · (conv=>whnf);refine pwa ?_;(conv=>whnf);refine pw_ret ?_;(conv=>whnf);cases h7;refine ⟨_, rfl, ?_⟩; rintro rfl;(conv=>whnf);obtain rfl := h4 _ rfl; rfl
       · (conv=>whnf);refine pw_skip ?_;(conv=>whnf);refine pw_ops ?_;refine po_all ?_;(conv=>whnf);cases h7;refine ⟨_, rfl, ?_⟩;exact .sub' (nl rfl) (.cons rfl (.cons rfl (.cons rfl .nil)))
     · (conv=>whnf);refine pw_exit ?_;(conv=>whnf);cases h7;refine ⟨_, rfl, ?_⟩; rintro rfl;(conv=>whnf);exact ⟨_, rfl, ⟨.nil, rfl⟩⟩
 · intro r14 hr; have H := h3 _ hr;refine pwa ?_;(conv=>whnf);refine pw_ret ?_;(conv=>whnf);cases H; rfl
noncomputable def f354 [LO]  (a0 : ByteArray) (a1 : Int) (a2 : Int) (a3 : Int) (a4 : List ByteArray) : Option Int :=
 obnd (f91 a0) fun (y1 : Bool) =>
 oite (!y1) (
 some (4 : Int)
 ) (
 obnd (f364 a4 a0) fun (y4 : Bool) =>
 oite y4 (
 some (5 : Int)
 ) (
 obnd (
 obnd (f15 a1 (-10000 : Int) (10000 : Int)) fun (y11 : Bool) =>
 obnd (
 oite (!y11) (
 some true
 ) (
 obnd (f15 a2 (-10000 : Int) (10000 : Int)) fun (y16 : Bool) =>
 some (!y16))
 ) fun (r13 : Bool) =>
 oite r13 (
 some true
 ) (
 obnd (f15 a3 (0 : Int) (10000 : Int)) fun (y19 : Bool) =>
 some (!y19))
 ) fun (r7 : Bool) =>
 oite r7 (
 some (2 : Int)
 ) (
 some (0 : Int))))
theorem c354 [LO]  {a0 : ByteArray} {a1 : Int} {a2 : Int} {a3 : Int} {a4 : List ByteArray} {x : Int} (H : f354 a0 a1 a2 a3 a4 = some x) : ICalls E 354 [(.agg ⟨[(.string a0), (.int .i64 a1), (.int .i64 a2), (.int .i64 a3)]⟩), (VS 1 (a4.map eS))] AHeap.none fun v _ => v = (.int .i64 x) := by
 refine icalls_fn (pfnw ?_); unfold f354 at H;(conv=>whnf);refine pwa ?_;(conv=>whnf);refine pw_seq ?_;refine pwa ?_;(conv=>whnf);obtain ⟨y1, h2, H⟩ := obnd_some H;refine (c91 h2).go ?_;(conv=>whnf);refine pw_cond ?_;(conv=>whnf);refine pbr_oite H (fun g3 H => ?_) (fun g3 H => ?_)
 · (conv=>whnf);refine pwa ?_;(conv=>whnf);refine pw_ret ?_;(conv=>whnf);cases H; rfl
 · (conv=>whnf);refine pw_skip ?_;(conv=>whnf);refine pw_seq ?_;refine pwa ?_;(conv=>whnf);obtain ⟨y4, h5, H⟩ := obnd_some H;refine (c364 h5).go ?_;(conv=>whnf);refine pw_cond ?_;(conv=>whnf);refine pbr_oite H (fun g6 H => ?_) (fun g6 H => ?_)
   · (conv=>whnf);refine pwa ?_;(conv=>whnf);refine pw_ret ?_;(conv=>whnf);cases H; rfl
   · (conv=>whnf);refine pw_skip ?_;(conv=>whnf);refine pw_seq ?_;obtain ⟨r7, h8, H⟩ := obnd_some H;refine pw_join (ρ := Bool) (fun e => ⟨[(28, (.bool e))], ⟨1, [(0, .rw [(.string a0), (.int .i64 a1), (.int .i64 a2), (.int .i64 a3)])], false⟩⟩) r7 ?_ ?_
     · refine pw_ops ?_;refine po_ops 5 ?_;(conv=>whnf);obtain ⟨y11, h12, h8⟩ := obnd_some h8;refine (c15 h12).go ?_;(conv=>whnf);obtain ⟨r13, h14, h8⟩ := obnd_some h8;refine po_seg (τ := Bool) 5 (fun e => ⟨[(2, (.pointer (some ⟨0, 0, none⟩))), (22, (.bool e))], ⟨1, [(0, .rw [(.string a0), (.int .i64 a1), (.int .i64 a2), (.int .i64 a3)])], false⟩⟩) r13 ?_ ?_
       · refine po_all ?_;(conv=>whnf);refine pbr_oite h14 (fun g15 h14 => ?_) (fun g15 h14 => ?_)
         · (conv=>whnf);(iterate 4 refine pbr_t g15 ?_;(conv=>whnf));cases h14;exact ⟨(.cons rfl (.cons rfl .nil)), rfl⟩
         · (conv=>whnf);refine pbr_f g15 ?_;(conv=>whnf);refine pbr_f g15 ?_;(conv=>whnf);obtain ⟨y16, h17, h14⟩ := obnd_some h14;refine (c15 h17).go ?_;(conv=>whnf);refine pbr_f g15 ?_;(conv=>whnf);refine pbr_f g15 ?_;(conv=>whnf);cases h14;exact ⟨(.cons rfl (.cons rfl .nil)), rfl⟩
       · refine po_all ?_;(conv=>whnf);refine pbr_oite h8 (fun g18 h8 => ?_) (fun g18 h8 => ?_)
         · (conv=>whnf);(iterate 4 refine pbr_t g18 ?_;(conv=>whnf));cases h8;exact ⟨(.cons rfl .nil), rfl⟩
         · (conv=>whnf);refine pbr_f g18 ?_;(conv=>whnf);refine pbr_f g18 ?_;(conv=>whnf);obtain ⟨y19, h20, h8⟩ := obnd_some h8;refine (c15 h20).go ?_;(conv=>whnf);refine pbr_f g18 ?_;(conv=>whnf);refine pbr_f g18 ?_;(conv=>whnf);cases h8;exact ⟨(.cons rfl .nil), rfl⟩
     · refine pw_cond ?_;(conv=>whnf);refine pbr_oite H (fun g21 H => ?_) (fun g21 H => ?_)
       · (conv=>whnf);refine pwa ?_;(conv=>whnf);refine pw_ret ?_;(conv=>whnf);cases H; rfl
       · (conv=>whnf);refine pw_skip ?_;(conv=>whnf);refine pwa ?_;(conv=>whnf);refine pw_ret ?_;(conv=>whnf);cases H; rfl
noncomputable def f325 [LO]  (a0 : Int) (a1 : Int) (a2 : List (ByteArray × Int × Int × Int)) : Option (Int × Int) :=
 obnd (
 obnd (f15 a0 (0 : Int) (1000000 : Int)) fun (y5 : Bool) =>
 oite (!y5) (
 some true
 ) (
 obnd (f15 a1 (0 : Int) (1000000 : Int)) fun (y8 : Bool) =>
 some (!y8))
 ) fun (r1 : Bool) =>
 oite r1 (
 some ((0 : Int), (2 : Int))
 ) (
 oite ((ilt a1 a0)) (
 some ((0 : Int), (9 : Int))
 ) (
 oite ((ile (40 : Int) (IntKind.i64.wrap (a1 - a0)))) (
 some ((0 : Int), (8 : Int))
 ) (
 oite ((ieq ((a2.map e_SIII).length : Int) (0 : Int))) (
 some ((0 : Int), (10 : Int))
 ) (
 oite ((ilt (5 : Int) ((a2.map e_SIII).length : Int))) (
 some ((0 : Int), (8 : Int))
 ) (
 obndS (
 oloop (τ := (List ByteArray) × Int) (ρ := (Unit) ⊕ (Int × Int)) (fun e19 =>
 oite ((ilt e19.2 ((a2.map e_SIII).length : Int))) (
 ogrd ((ile 0 e19.2)) (
 obnd (a2[e19.2.toNat]?) fun (x24 : ByteArray × Int × Int × Int) =>
 obnd (f354 x24.1 x24.2.1 x24.2.2.1 x24.2.2.2 e19.1) fun (y25 : Int) =>
 oite ((!(ieq y25 (0 : Int)))) (
 some (.inr (.inr ((e19.2, y25))))
 ) (
 obnd (a2[e19.2.toNat]?) fun (x29 : ByteArray × Int × Int × Int) =>
 ogrd (fits 16 (e19.1.length + ([x29.1] : List ByteArray).length)) (
 some (.inl (((e19.1 ++ ([x29.1] : List ByteArray)), (IntKind.i64.wrap (e19.2 + (1 : Int)))))))))
 ) (
 some (.inr (.inl ())))
 ) ((([] : List ByteArray), (0 : Int)))
 ) fun (_ : Unit) =>
 some ((0 : Int), (0 : Int)))))))
theorem c325 [LO]  {a0 : Int} {a1 : Int} {a2 : List (ByteArray × Int × Int × Int)} {x : Int × Int} (H : f325 a0 a1 a2 = some x) : ICalls E 325 [(.agg ⟨[(.int .i64 a0), (.int .i64 a1), (VS 4 (a2.map e_SIII))]⟩)] AHeap.none fun v _ => v = (.tuple ⟨[(.int .i64 x.1), (.int .i64 x.2)]⟩) := by
 refine icalls_fn (pfnw ?_); unfold f325 at H;(conv=>whnf);refine pwa ?_;(conv=>whnf);refine pw_seq ?_;obtain ⟨r1, h2, H⟩ := obnd_some H;refine pw_join (ρ := Bool) (fun e => ⟨[(1, (.pointer (some ⟨0, 0, none⟩))), (16, (.bool e))], ⟨1, [(0, .rw [(.int .i64 a0), (.int .i64 a1), (VS 4 (a2.map e_SIII))])], false⟩⟩) r1 ?_ ?_
 · refine pw_ops ?_;refine po_all ?_;(conv=>whnf);obtain ⟨y5, h6, h2⟩ := obnd_some h2;refine (c15 h6).go ?_;(conv=>whnf);refine pbr_oite h2 (fun g7 h2 => ?_) (fun g7 h2 => ?_)
   · (conv=>whnf);(iterate 4 refine pbr_t g7 ?_;(conv=>whnf));cases h2;exact ⟨(.cons rfl (.cons rfl .nil)), rfl⟩
   · (conv=>whnf);refine pbr_f g7 ?_;(conv=>whnf);refine pbr_f g7 ?_;(conv=>whnf);obtain ⟨y8, h9, h2⟩ := obnd_some h2;refine (c15 h9).go ?_;(conv=>whnf);refine pbr_f g7 ?_;(conv=>whnf);refine pbr_f g7 ?_;(conv=>whnf);cases h2;exact ⟨(.cons rfl (.cons rfl .nil)), rfl⟩
 · refine pw_cond ?_;(conv=>whnf);refine pbr_oite H (fun g10 H => ?_) (fun g10 H => ?_)
   · (conv=>whnf);refine pwa ?_;(conv=>whnf);refine pw_ret ?_;(conv=>whnf);cases H; rfl
   · (conv=>whnf);refine pw_skip ?_;(conv=>whnf);refine pw_seq ?_;refine pwa ?_;(conv=>whnf);refine pw_cond ?_;(conv=>whnf);refine pbr_oite H (fun g11 H => ?_) (fun g11 H => ?_)
     · (conv=>whnf);refine pwa ?_;(conv=>whnf);refine pw_ret ?_;(conv=>whnf);cases H; rfl
     · (conv=>whnf);refine pw_skip ?_;(conv=>whnf);refine pw_seq ?_;refine pwa ?_;(conv=>whnf);refine pw_cond ?_;(conv=>whnf);refine pbr_oite H (fun g12 H => ?_) (fun g12 H => ?_)
       · (conv=>whnf);refine pwa ?_;(conv=>whnf);refine pw_ret ?_;(conv=>whnf);cases H; rfl
       · (conv=>whnf);refine pw_skip ?_;(conv=>whnf);refine pw_seq ?_;refine pwa ?_;(conv=>whnf);refine pw_cond ?_;(conv=>whnf);refine pbr_oite H (fun g13 H => ?_) (fun g13 H => ?_)
         · (conv=>whnf);refine pwa ?_;(conv=>whnf);refine pw_ret ?_;(conv=>whnf);cases H; rfl
         · (conv=>whnf);refine pw_skip ?_;(conv=>whnf);refine pw_seq ?_;refine pwa ?_;(conv=>whnf);refine pw_cond ?_;(conv=>whnf);refine pbr_oite H (fun g14 H => ?_) (fun g14 H => ?_)
           · (conv=>whnf);refine pwa ?_;(conv=>whnf);refine pw_ret ?_;(conv=>whnf);cases H; rfl
           · (conv=>whnf);refine pw_skip ?_;(conv=>whnf);refine pwa ?_;(conv=>whnf);obtain ⟨r15, h16, h17, h18⟩ := obndS_some H;refine pw_joinSR (ρ := Unit) (fun e => ⟨[], ⟨1, [(0, .rw [(.int .i64 a0), (.int .i64 a1), (VS 4 (a2.map e_SIII))])], false⟩⟩) r15 ?_ ?_
             · refine pwa ?_;(conv=>whnf);refine pw_block ?_;refine pw_loop (τ := (List ByteArray) × Int) (fun e => ⟨[(1, (.pointer (some ⟨0, 0, none⟩))), (4, (VT 1 (e.1.map eS) 1)), (5, (.int .i64 e.2))], ⟨2, [(1, .tail (e.1.map eS).length 1), (0, .rw [(.int .i64 a0), (.int .i64 a1), (VS 4 (a2.map e_SIII))])], false⟩⟩) h16 ?_ (fun _ => nl rfl) ?_
               · exact (Recast.nilTs 1 (nl rfl) (.same rfl (.turn rfl (.same rfl .nil))))
               · intro e19 x20 h21;refine pw_seq ?_;refine pwa ?_;(conv=>whnf);refine pw_cond ?_;(conv=>whnf);refine pbr_oite h21 (fun g22 h21 => ?_) (fun g22 h21 => ?_)
                 · (conv=>whnf);refine pw_skip ?_;(conv=>whnf);refine pw_seq ?_;refine pw_block ?_;refine pw_seq ?_;refine pwa ?_;(conv=>whnf);refine pbr_ogrd h21 (fun g23 h21 => ?_);(conv=>whnf);refine nth_o (l := a2) h21 (fun x24 _ h21 => ?_);(conv=>whnf);obtain ⟨y25, h26, h21⟩ := obnd_some h21;refine ICalls.goW (c354 h26) (.cons (.refl _) (.cons (.vt _ _ _) .nil)) ?_;(conv=>whnf);refine pwa ?_;(conv=>whnf);refine pw_cond ?_;(conv=>whnf);refine pbr_oite h21 (fun g27 h21 => ?_) (fun g27 h21 => ?_)
                   · (conv=>whnf);refine pwa ?_;(conv=>whnf);refine pw_ret ?_;(conv=>whnf);cases h21;refine ⟨_, rfl, ?_⟩; rintro rfl;(conv=>whnf);obtain rfl := h18 _ rfl; rfl
                   · (conv=>whnf);refine pw_skip ?_;(conv=>whnf);refine pw_ops ?_;refine po_all ?_;(conv=>whnf);refine pbr_t g23 ?_;(conv=>whnf);refine nth_o (l := a2) h21 (fun x29 _ h21 => ?_);(conv=>whnf);refine app_o (l := e19.1) (m := ([x29.1] : List ByteArray)) (f := eS) h21 (by rfl) (by rfl) (by rfl) (fun h21 => ?_);(conv=>whnf);refine pw_ops ?_;refine po_all ?_;(conv=>whnf);cases h21;refine ⟨_, rfl, ?_⟩;refine Recast.trunc (nl rfl) ?_ ?_
                     · repeat (first | exact .nil | refine .cons rfl (by first | exact OBnd.rwc (nl rfl) rfl | exact OBnd.tail (nl rfl) | trivial) ?_)
                     · repeat (first | exact .nil | refine .cons rfl (by first | exact Bnd.ptr (nl rfl) | exact Bnd.vt (nl rfl) | exact Bnd.cl) ?_)
                 · (conv=>whnf);refine pw_exit ?_;(conv=>whnf);cases h21;refine ⟨_, rfl, ?_⟩; rintro rfl;(conv=>whnf);refine ⟨_, rfl, ?_⟩;exact Recast.fz (fun _ => false) (nl rfl) (.cons (.same rfl rfl (OBnd.rwl (nl rfl) rfl (.cons .cl (.cons .cl (.cons .cl .nil))))) .nil) .nil
             · intro r31 hr; have H := h17 _ hr;refine pwa ?_;(conv=>whnf);refine pw_ret ?_;(conv=>whnf);cases H; rfl
noncomputable def f347 [LO]  (a0 : Int) (a1 : Int) (a2 : List (ByteArray × Int × Int × Int)) : Option Int :=
 obnd (f325 a0 a1 a2) fun (y1 : Int × Int) =>
 some y1.2
theorem c347 [LO]  {a0 : Int} {a1 : Int} {a2 : List (ByteArray × Int × Int × Int)} {x : Int} (H : f347 a0 a1 a2 = some x) : ICalls E 347 [(.agg ⟨[(.int .i64 a0), (.int .i64 a1), (VS 4 (a2.map e_SIII))]⟩)] AHeap.none fun v _ => v = (.int .i64 x) := by
 refine icalls_fn (pfnw ?_); unfold f347 at H;(conv=>whnf);refine pwa ?_;(conv=>whnf);refine pwa ?_;(conv=>whnf);obtain ⟨y1, h2, H⟩ := obnd_some H;refine (c325 h2).go ?_;(conv=>whnf);refine pwa ?_;(conv=>whnf);refine pw_ret ?_;(conv=>whnf);cases H; rfl
noncomputable def f464 [LO]  (a0 : ByteArray) : Option (Int × Int × (List (ByteArray × Int × Int × Int)) × Int) :=
 oite ((ilt (60000 : Int) (a0.size : Int))) (
 some ((0 : Int), (0 : Int), ([] : List (ByteArray × Int × Int × Int)), (8 : Int))
 ) (
 obnd (f386 a0 (59 : Int)) fun (y2 : (List ByteArray)) =>
 obnd (y2[(0 : Int).toNat]?) fun (x4 : ByteArray) =>
 obnd (f386 x4 (32 : Int)) fun (y5 : (List ByteArray)) =>
 obnd (f473 y5 (2 : Int) (2 : Int)) fun (y7 : (List Int) × Bool) =>
 oite (!y7.2) (
 some ((0 : Int), (0 : Int), ([] : List (ByteArray × Int × Int × Int)), (7 : Int))
 ) (
 obnd (y7.1[(0 : Int).toNat]?) fun (x10 : Int) =>
 obnd (y7.1[(1 : Int).toNat]?) fun (x11 : Int) =>
 obndS (
 oloop (τ := Int × (List (ByteArray × Int × Int × Int))) (ρ := ((List (ByteArray × Int × Int × Int))) ⊕ (Int × Int × (List (ByteArray × Int × Int × Int)) × Int)) (fun e16 =>
 oite ((ilt e16.1 ((y2.map eS).length : Int))) (
 ogrd ((ile 0 e16.1)) (
 obnd (y2[e16.1.toNat]?) fun (x21 : ByteArray) =>
 obnd (f386 x21 (32 : Int)) fun (y22 : (List ByteArray)) =>
 obnd (oslL y22 (1 : Int)) fun (m24 : List ByteArray) =>
 obnd (f473 m24 (3 : Int) (0 : Int)) fun (y27 : (List Int) × Bool) =>
 obnd (
 oite (!y27.2) (
 some true
 ) (
 obnd (y22[(0 : Int).toNat]?) fun (x34 : ByteArray) =>
 some (x34.toList == (⟨#[]⟩ : ByteArray).toList))
 ) fun (r29 : Bool) =>
 oite r29 (
 some (.inr (.inr (((0 : Int), (0 : Int), ([] : List (ByteArray × Int × Int × Int)), (7 : Int)))))
 ) (
 obnd (y22[(0 : Int).toNat]?) fun (x37 : ByteArray) =>
 obnd (y27.1[(0 : Int).toNat]?) fun (x38 : Int) =>
 obnd (y27.1[(1 : Int).toNat]?) fun (x39 : Int) =>
 obnd (y27.1[(2 : Int).toNat]?) fun (x40 : Int) =>
 ogrd (fits 40 (e16.2.length + ([(x37, x38, x39, x40)] : List (ByteArray × Int × Int × Int)).length)) (
 some (.inl (((IntKind.i64.wrap (e16.1 + (1 : Int))), (e16.2 ++ ([(x37, x38, x39, x40)] : List (ByteArray × Int × Int × Int)))))))))
 ) (
 some (.inr (.inl e16.2)))
 ) (((1 : Int), ([] : List (ByteArray × Int × Int × Int))))
 ) fun (r42 : (List (ByteArray × Int × Int × Int))) =>
 obnd (f347 x10 x11 r42) fun (y43 : Int) =>
 oite ((!(ieq y43 (0 : Int)))) (
 some ((0 : Int), (0 : Int), ([] : List (ByteArray × Int × Int × Int)), y43)
 ) (
 some (x10, x11, r42, (0 : Int)))))
theorem c464 [LO]  {a0 : ByteArray} {x : Int × Int × (List (ByteArray × Int × Int × Int)) × Int} (H : f464 a0 = some x) : ICalls E 464 [(.string a0)] AHeap.none fun v _ => v = (.tuple ⟨[(.agg ⟨[(.int .i64 x.1), (.int .i64 x.2.1), (VS 4 (x.2.2.1.map e_SIII))]⟩), (.int .i64 x.2.2.2)]⟩) := by
 refine ICalls.frz ?_;refine icalls_fn (pfnw ?_); unfold f464 at H;(conv=>whnf);refine pwa ?_;(conv=>whnf);refine pwa ?_;(conv=>whnf);refine pw_seq ?_;refine pwa ?_;(conv=>whnf);refine pw_cond ?_;(conv=>whnf);refine pbr_oite H (fun g1 H => ?_) (fun g1 H => ?_)
 · (conv=>whnf);refine pwa ?_;(conv=>whnf);refine pw_ret ?_;(conv=>whnf);cases H; show ∃ D, Fz _ D 0 (.tuple ⟨[(.agg ⟨[(.int .i64 0), (.int .i64 0), (.slice none 0 0)]⟩), (.int .i64 8)]⟩) _;exact ⟨fun _ => false, .tuplel (.cons (.aggl (.cons .cl (.cons .cl (.cons (.nil _) (.nil))))) (.cons .cl (.nil)))⟩
 · (conv=>whnf);refine pw_skip ?_;(conv=>whnf);refine pwa ?_;(conv=>whnf);obtain ⟨y2, h3, H⟩ := obnd_some H;refine (c386 h3).go ?_;(conv=>whnf);refine pwa ?_;(conv=>whnf);refine nth_o (l := y2) H (fun x4 _ H => ?_);(conv=>whnf);obtain ⟨y5, h6, H⟩ := obnd_some H;refine (c386 h6).go ?_;(conv=>whnf);obtain ⟨y7, h8, H⟩ := obnd_some H;refine (c473 h8).go ?_;(conv=>whnf);refine pw_seq ?_;refine pwa ?_;(conv=>whnf);refine pw_cond ?_;(conv=>whnf);refine pbr_oite H (fun g9 H => ?_) (fun g9 H => ?_)
   · (conv=>whnf);refine pwa ?_;(conv=>whnf);refine pw_ret ?_;(conv=>whnf);cases H; show ∃ D, Fz _ D 0 (.tuple ⟨[(.agg ⟨[(.int .i64 0), (.int .i64 0), (.slice none 0 0)]⟩), (.int .i64 7)]⟩) _;exact ⟨fun _ => false, .tuplel (.cons (.aggl (.cons .cl (.cons .cl (.cons (.nil _) (.nil))))) (.cons .cl (.nil)))⟩
   · (conv=>whnf);refine pw_skip ?_;(conv=>whnf);refine pw_sd ?_;(conv=>whnf);refine nth_o (l := y7.1) H (fun x10 _ H => ?_);(conv=>whnf);refine nth_o (l := y7.1) H (fun x11 _ H => ?_);(conv=>whnf);refine ⟨?_, trivial⟩;(conv=>whnf);refine ⟨by trivial,?_⟩;(conv=>whnf);refine ⟨?_, trivial⟩;(conv=>whnf);refine ⟨by trivial,?_⟩;(conv=>whnf);obtain ⟨r12, h13, h14, h15⟩ := obndS_some H;refine pw_joinS (ρ := (List (ByteArray × Int × Int × Int))) (fun e => ⟨[(2, (.pointer (some ⟨0, 0, none⟩))), (4, (.pointer (some ⟨1, 0, none⟩))), (8, (.pointer (some ⟨2, 0, none⟩)))], ⟨4, [(3, .tail (e.map e_SIII).length 4), (2, .rw [(.int .i64 x10), (.int .i64 x11), (VT 4 (e.map e_SIII) 3)]), (1, .rw [(.int .i64 0), (.int .i64 0), (.slice none 0 0)]), (0, .rw [(.int .i64 0), (.int .i64 0), (.slice none 0 0)])], false⟩⟩) r12 ?_ ?_
     · refine pwa ?_;(conv=>whnf);refine pw_block ?_;refine pw_loop (τ := Int × (List (ByteArray × Int × Int × Int))) (fun e => ⟨[(2, (.pointer (some ⟨0, 0, none⟩))), (4, (.pointer (some ⟨1, 0, none⟩))), (5, (VS 1 (y2.map eS))), (8, (.pointer (some ⟨2, 0, none⟩))), (9, (.int .i64 e.1))], ⟨4, [(3, .tail (e.2.map e_SIII).length 4), (2, .rw [(.int .i64 x10), (.int .i64 x11), (VT 4 (e.2.map e_SIII) 3)]), (1, .rw [(.int .i64 0), (.int .i64 0), (.slice none 0 0)]), (0, .rw [(.int .i64 0), (.int .i64 0), (.slice none 0 0)])], false⟩⟩) h13 ?_ (fun _ => nl rfl) ?_
       · exact ((Recast.sub' (nl rfl) (.cons rfl (.cons rfl (.cons rfl (.cons rfl (.cons rfl .nil))))) : Recast _ _ ⟨[(2, (.pointer (some ⟨0, 0, none⟩))), (4, (.pointer (some ⟨1, 0, none⟩))), (5, (VS 1 (y2.map eS))), (8, (.pointer (some ⟨2, 0, none⟩))), (9, (.int .i64 1))], ⟨3, [(2, .rw [(.int .i64 x10), (.int .i64 x11), (.slice none 0 0)]), (1, .rw [(.int .i64 0), (.int .i64 0), (.slice none 0 0)]), (0, .rw [(.int .i64 0), (.int .i64 0), (.slice none 0 0)])], false⟩⟩).trans (Recast.nilM 4 2 (nl rfl) rfl (nl rfl) rfl (.same (.same (.turn .nil))) rfl))
       · intro e16 x17 h18;refine pw_seq ?_;refine pwa ?_;(conv=>whnf);refine pw_cond ?_;(conv=>whnf);refine pbr_oite h18 (fun g19 h18 => ?_) (fun g19 h18 => ?_)
         · (conv=>whnf);refine pw_skip ?_;(conv=>whnf);refine pw_seq ?_;refine pw_block ?_;refine pwa ?_;(conv=>whnf);refine pbr_ogrd h18 (fun g20 h18 => ?_);(conv=>whnf);refine nth_o (l := y2) h18 (fun x21 _ h18 => ?_);(conv=>whnf);obtain ⟨y22, h23, h18⟩ := obnd_some h18;refine (c386 h23).go ?_;(conv=>whnf);refine pwa ?_;(conv=>whnf);refine oslL_o (f := eS) h18 (fun m24 _ h18 h25 h26 => ?_);refine pbr_t (ile_t (by simpa only [List.length_map] using h25.2)) ?_; rw [h26];(conv=>whnf);obtain ⟨y27, h28, h18⟩ := obnd_some h18;refine (c473 h28).go ?_;(conv=>whnf);refine pw_seq ?_;obtain ⟨r29, h30, h18⟩ := obnd_some h18
           refine pw_join (ρ := Bool) (fun e => ⟨[(2, (.pointer (some ⟨0, 0, none⟩))), (4, (.pointer (some ⟨1, 0, none⟩))), (5, (VS 1 (y2.map eS))), (8, (.pointer (some ⟨2, 0, none⟩))), (9, (.int .i64 e16.1)), (10, (VS 1 (y22.map eS))), (11, (VS 1 (y27.1.map eI))), (63, (.bool e))], ⟨4, [(3, .tail (e16.2.map e_SIII).length 4), (2, .rw [(.int .i64 x10), (.int .i64 x11), (VT 4 (e16.2.map e_SIII) 3)]), (1, .rw [(.int .i64 0), (.int .i64 0), (.slice none 0 0)]), (0, .rw [(.int .i64 0), (.int .i64 0), (.slice none 0 0)])], false⟩⟩) r29 ?_ ?_
           · refine pw_ops ?_;refine po_all ?_;(conv=>whnf);refine pbr_oite h30 (fun g33 h30 => ?_) (fun g33 h30 => ?_)
             · (conv=>whnf);(iterate 4 refine pbr_t g33 ?_;(conv=>whnf));cases h30;exact ⟨by (repeat refine .cons rfl ?_);exact .nil,rfl⟩
             · (conv=>whnf);refine pbr_f g33 ?_;(conv=>whnf);refine nth_o (l := y22) h30 (fun x34 _ h30 => ?_);(conv=>whnf);(iterate 3 refine pbr_f g33 ?_;(conv=>whnf));cases h30;exact ⟨by (repeat refine .cons rfl ?_);exact .nil,rfl⟩
           · refine pw_cond ?_;(conv=>whnf);refine pbr_oite h18 (fun g35 h18 => ?_) (fun g35 h18 => ?_)
             · (conv=>whnf);refine pwa ?_;(conv=>whnf);refine pw_ret ?_;(conv=>whnf);cases h18;refine ⟨_, rfl, ?_⟩; rintro rfl;(conv=>whnf);obtain rfl := h15 _ rfl; show ∃ D, Fz _ D 0 (.tuple ⟨[(.agg ⟨[(.int .i64 0), (.int .i64 0), (.slice none 0 0)]⟩), (.int .i64 7)]⟩) _;exact ⟨fun _ => false, .tuplel (.cons (.aggl (.cons .cl (.cons .cl (.cons (.nil _) (.nil))))) (.cons .cl (.nil)))⟩
             · (conv=>whnf);refine pw_skip ?_;(conv=>whnf);refine pw_draw ?_;(conv=>whnf);refine nth_o (l := y22) h18 (fun x37 _ h18 => ?_);(conv=>whnf);refine nth_o (l := y27.1) h18 (fun x38 _ h18 => ?_);(conv=>whnf);refine nth_o (l := y27.1) h18 (fun x39 _ h18 => ?_);(conv=>whnf);refine nth_o (l := y27.1) h18 (fun x40 _ h18 => ?_);(conv=>whnf);refine ⟨?_, trivial⟩;(conv=>whnf);refine ⟨by trivial,?_⟩;(conv=>whnf);refine ⟨?_, trivial⟩;(conv=>whnf);refine app_o (l := e16.2) (m := ([(x37, x38, x39, x40)] : List (ByteArray × Int × Int × Int))) (f := e_SIII) h18 (by rfl) (by rfl) (by rfl) (fun h18 => ?_)
               (conv=>whnf);refine ⟨by trivial,?_⟩;(conv=>whnf);refine ⟨?_, trivial⟩;(conv=>whnf);refine ⟨by trivial,?_⟩;(conv=>whnf);refine pw_ops ?_;refine po_all ?_;(conv=>whnf);cases h18;refine ⟨_, rfl, ?_⟩;exact Recast.fz (fun _ => false) (nl rfl) (.cons (.same rfl rfl (OBnd.tail (nl rfl))) (.cons (.same rfl rfl (OBnd.rwl (nl rfl) rfl (.cons .cl (.cons .cl (.cons (.vt (nl rfl)) .nil))))) (.cons (.same rfl rfl (OBnd.rwl (nl rfl) rfl (.cons .cl (.cons .cl (.cons .cl .nil))))) (.cons (.same rfl rfl (OBnd.rwl (nl rfl) rfl (.cons .cl (.cons .cl (.cons .cl .nil))))) .nil)))) (.cons rfl (.same _ (.ptr (nl rfl))) (.cons rfl (.same _ (.ptr (nl rfl))) (.cons rfl (.same _ .cl) (.cons rfl (.same _ (.ptr (nl rfl))) (.cons rfl (.same _ .cl) .nil)))))
         · (conv=>whnf);refine pw_exit ?_;(conv=>whnf);cases h18;refine ⟨_, rfl, ?_⟩; rintro rfl;(conv=>whnf);exact ⟨_, rfl, ⟨(.cons rfl (.cons rfl (.cons rfl .nil))), rfl⟩⟩
     · intro r42 hr; have H := h14 _ hr;refine pw_seq ?_;refine pwa ?_;(conv=>whnf);obtain ⟨y43, h44, H⟩ := obnd_some H;refine ICalls.goW (c347 h44) (.cons (.aggl (.cons (.refl _) (.cons (.refl _) (.cons (.vt _ _ _) .nil)))) .nil) ?_;(conv=>whnf);refine pwa ?_;(conv=>whnf);refine pw_cond ?_;(conv=>whnf);refine pbr_oite H (fun g45 H => ?_) (fun g45 H => ?_)
       · (conv=>whnf);refine pwa ?_;(conv=>whnf);refine pw_ret ?_;(conv=>whnf);cases H; show ∃ D, Fz _ D 0 (.tuple ⟨[(.agg ⟨[(.int .i64 0), (.int .i64 0), (.slice none 0 0)]⟩), (.int .i64 y43)]⟩) _;exact ⟨fun _ => false, .tuplel (.cons (.aggl (.cons .cl (.cons .cl (.cons (.nil _) (.nil))))) (.cons .cl (.nil)))⟩
       · (conv=>whnf);refine pw_skip ?_;(conv=>whnf);refine pwa ?_;(conv=>whnf);refine pw_ret ?_;(conv=>whnf);cases H; show ∃ D, Fz _ D 0 (.tuple ⟨[(.agg ⟨[(.int .i64 x10), (.int .i64 x11), (VT 4 _ 3)]⟩), (.int .i64 0)]⟩) _;exact ⟨fun _ => false, .tuplel (.cons (.aggl (.cons .cl (.cons .cl (.cons .vtc (.nil))))) (.cons .cl (.nil)))⟩
noncomputable def f465 [LO]  (a0 : ByteArray) : Option (Int × Int × Int × (List (Int × Int × Int)) × Int) :=
 oite ((ilt (60000 : Int) (a0.size : Int))) (
 some ((0 : Int), (0 : Int), (0 : Int), ([] : List (Int × Int × Int)), (8 : Int))
 ) (
 obnd (f386 a0 (59 : Int)) fun (y2 : (List ByteArray)) =>
 obnd (y2[(0 : Int).toNat]?) fun (x4 : ByteArray) =>
 obnd (f386 x4 (32 : Int)) fun (y5 : (List ByteArray)) =>
 obnd (f473 y5 (3 : Int) (2 : Int)) fun (y7 : (List Int) × Bool) =>
 oite (!y7.2) (
 some ((0 : Int), (0 : Int), (0 : Int), ([] : List (Int × Int × Int)), (7 : Int))
 ) (
 obnd (y7.1[(0 : Int).toNat]?) fun (x10 : Int) =>
 obnd (y7.1[(1 : Int).toNat]?) fun (x11 : Int) =>
 obnd (y7.1[(2 : Int).toNat]?) fun (x12 : Int) =>
 obndS (
 oloop (τ := Int × (List (Int × Int × Int))) (ρ := ((List (Int × Int × Int))) ⊕ (Int × Int × Int × (List (Int × Int × Int)) × Int)) (fun e17 =>
 oite ((ilt e17.1 ((y2.map eS).length : Int))) (
 ogrd ((ile 0 e17.1)) (
 obnd (y2[e17.1.toNat]?) fun (x22 : ByteArray) =>
 obnd (f386 x22 (32 : Int)) fun (y23 : (List ByteArray)) =>
 obnd (f473 y23 (3 : Int) (0 : Int)) fun (y25 : (List Int) × Bool) =>
 oite (!y25.2) (
 some (.inr (.inr (((0 : Int), (0 : Int), (0 : Int), ([] : List (Int × Int × Int)), (7 : Int)))))
 ) (
 obnd (y25.1[(0 : Int).toNat]?) fun (x29 : Int) =>
 obnd (y25.1[(1 : Int).toNat]?) fun (x30 : Int) =>
 obnd (y25.1[(2 : Int).toNat]?) fun (x31 : Int) =>
 ogrd (fits 24 (e17.2.length + ([(x29, x30, x31)] : List (Int × Int × Int)).length)) (
 some (.inl (((IntKind.i64.wrap (e17.1 + (1 : Int))), (e17.2 ++ ([(x29, x30, x31)] : List (Int × Int × Int)))))))))
 ) (
 some (.inr (.inl e17.2)))
 ) (((1 : Int), ([] : List (Int × Int × Int))))
 ) fun (r33 : (List (Int × Int × Int))) =>
 some (x10, x11, x12, r33, (0 : Int))))
theorem c465 [LO]  {a0 : ByteArray} {x : Int × Int × Int × (List (Int × Int × Int)) × Int} (H : f465 a0 = some x) : ICalls E 465 [(.string a0)] AHeap.none fun v _ => v = (.tuple ⟨[(.agg ⟨[(.int .i64 x.1), (.int .i64 x.2.1), (.int .i64 x.2.2.1), (VS 3 (x.2.2.2.1.map e_III))]⟩), (.int .i64 x.2.2.2.2)]⟩) := by
 refine ICalls.frz ?_;refine icalls_fn (pfnw ?_); unfold f465 at H;(conv=>whnf);refine pwa ?_;(conv=>whnf);refine pwa ?_;(conv=>whnf);refine pw_seq ?_;refine pwa ?_;(conv=>whnf);refine pw_cond ?_;(conv=>whnf);refine pbr_oite H (fun g1 H => ?_) (fun g1 H => ?_)
 · (conv=>whnf);refine pwa ?_;(conv=>whnf);refine pw_ret ?_;(conv=>whnf);cases H; show ∃ D, Fz _ D 0 (.tuple ⟨[(.agg ⟨[(.int .i64 0), (.int .i64 0), (.int .i64 0), (.slice none 0 0)]⟩), (.int .i64 8)]⟩) _;exact ⟨fun _ => false, .tuplel (.cons (.aggl (.cons .cl (.cons .cl (.cons .cl (.cons (.nil _) (.nil)))))) (.cons .cl (.nil)))⟩
 · (conv=>whnf);refine pw_skip ?_;(conv=>whnf);refine pwa ?_;(conv=>whnf);obtain ⟨y2, h3, H⟩ := obnd_some H;refine (c386 h3).go ?_;(conv=>whnf);refine pwa ?_;(conv=>whnf);refine nth_o (l := y2) H (fun x4 _ H => ?_);(conv=>whnf);obtain ⟨y5, h6, H⟩ := obnd_some H;refine (c386 h6).go ?_;(conv=>whnf);obtain ⟨y7, h8, H⟩ := obnd_some H;refine (c473 h8).go ?_;(conv=>whnf);refine pw_seq ?_;refine pwa ?_;(conv=>whnf);refine pw_cond ?_;(conv=>whnf);refine pbr_oite H (fun g9 H => ?_) (fun g9 H => ?_)
   · (conv=>whnf);refine pwa ?_;(conv=>whnf);refine pw_ret ?_;(conv=>whnf);cases H; show ∃ D, Fz _ D 0 (.tuple ⟨[(.agg ⟨[(.int .i64 0), (.int .i64 0), (.int .i64 0), (.slice none 0 0)]⟩), (.int .i64 7)]⟩) _;exact ⟨fun _ => false, .tuplel (.cons (.aggl (.cons .cl (.cons .cl (.cons .cl (.cons (.nil _) (.nil)))))) (.cons .cl (.nil)))⟩
   · (conv=>whnf);refine pw_skip ?_;(conv=>whnf);refine pw_sd ?_;(conv=>whnf);refine nth_o (l := y7.1) H (fun x10 _ H => ?_);(conv=>whnf);refine nth_o (l := y7.1) H (fun x11 _ H => ?_);(conv=>whnf);refine nth_o (l := y7.1) H (fun x12 _ H => ?_);(conv=>whnf);refine ⟨?_, trivial⟩;(conv=>whnf);refine ⟨by trivial,?_⟩;(conv=>whnf);refine ⟨?_, trivial⟩;(conv=>whnf);refine ⟨by trivial,?_⟩;(conv=>whnf);obtain ⟨r13, h14, h15, h16⟩ := obndS_some H;refine pw_joinS (ρ := (List (Int × Int × Int))) (fun e => ⟨[(2, (.pointer (some ⟨0, 0, none⟩))), (8, (.pointer (some ⟨2, 0, none⟩)))], ⟨4, [(3, .tail (e.map e_III).length 3), (2, .rw [(.int .i64 x10), (.int .i64 x11), (.int .i64 x12), (VT 3 (e.map e_III) 3)]), (1, .rw [(.int .i64 0), (.int .i64 0), (.int .i64 0), (.slice none 0 0)]), (0, .rw [(.int .i64 0), (.int .i64 0), (.int .i64 0), (.slice none 0 0)])], false⟩⟩) r13 ?_ ?_
     · refine pwa ?_;(conv=>whnf);refine pw_block ?_;refine pw_loop (τ := Int × (List (Int × Int × Int))) (fun e => ⟨[(2, (.pointer (some ⟨0, 0, none⟩))), (4, (.pointer (some ⟨1, 0, none⟩))), (5, (VS 1 (y2.map eS))), (8, (.pointer (some ⟨2, 0, none⟩))), (9, (.int .i64 e.1))], ⟨4, [(3, .tail (e.2.map e_III).length 3), (2, .rw [(.int .i64 x10), (.int .i64 x11), (.int .i64 x12), (VT 3 (e.2.map e_III) 3)]), (1, .rw [(.int .i64 0), (.int .i64 0), (.int .i64 0), (.slice none 0 0)]), (0, .rw [(.int .i64 0), (.int .i64 0), (.int .i64 0), (.slice none 0 0)])], false⟩⟩) h14 ?_ (fun _ => nl rfl) ?_
       · exact ((Recast.sub' (nl rfl) (.cons rfl (.cons rfl (.cons rfl (.cons rfl (.cons rfl .nil))))) : Recast _ _ ⟨[(2, (.pointer (some ⟨0, 0, none⟩))), (4, (.pointer (some ⟨1, 0, none⟩))), (5, (VS 1 (y2.map eS))), (8, (.pointer (some ⟨2, 0, none⟩))), (9, (.int .i64 1))], ⟨3, [(2, .rw [(.int .i64 x10), (.int .i64 x11), (.int .i64 x12), (.slice none 0 0)]), (1, .rw [(.int .i64 0), (.int .i64 0), (.int .i64 0), (.slice none 0 0)]), (0, .rw [(.int .i64 0), (.int .i64 0), (.int .i64 0), (.slice none 0 0)])], false⟩⟩).trans (Recast.nilM 3 2 (nl rfl) rfl (nl rfl) rfl (.same (.same (.same (.turn .nil)))) rfl))
       · intro e17 x18 h19;refine pw_seq ?_;refine pwa ?_;(conv=>whnf);refine pw_cond ?_;(conv=>whnf);refine pbr_oite h19 (fun g20 h19 => ?_) (fun g20 h19 => ?_)
         · (conv=>whnf);refine pw_skip ?_;(conv=>whnf);refine pw_seq ?_;refine pw_block ?_;refine pwa ?_;(conv=>whnf);refine pbr_ogrd h19 (fun g21 h19 => ?_);(conv=>whnf);refine nth_o (l := y2) h19 (fun x22 _ h19 => ?_);(conv=>whnf);obtain ⟨y23, h24, h19⟩ := obnd_some h19;refine (c386 h24).go ?_;(conv=>whnf);obtain ⟨y25, h26, h19⟩ := obnd_some h19;refine (c473 h26).go ?_;(conv=>whnf);refine pw_seq ?_;refine pwa ?_;(conv=>whnf);refine pw_cond ?_;(conv=>whnf);refine pbr_oite h19 (fun g27 h19 => ?_) (fun g27 h19 => ?_)
           · (conv=>whnf);refine pwa ?_;(conv=>whnf);refine pw_ret ?_;(conv=>whnf);cases h19;refine ⟨_, rfl, ?_⟩; rintro rfl;(conv=>whnf);obtain rfl := h16 _ rfl; show ∃ D, Fz _ D 0 (.tuple ⟨[(.agg ⟨[(.int .i64 0), (.int .i64 0), (.int .i64 0), (.slice none 0 0)]⟩), (.int .i64 7)]⟩) _;exact ⟨fun _ => false, .tuplel (.cons (.aggl (.cons .cl (.cons .cl (.cons .cl (.cons (.nil _) (.nil)))))) (.cons .cl (.nil)))⟩
           · (conv=>whnf);refine pw_skip ?_;(conv=>whnf);refine pw_draw ?_;(conv=>whnf);refine nth_o (l := y25.1) h19 (fun x29 _ h19 => ?_);(conv=>whnf);refine nth_o (l := y25.1) h19 (fun x30 _ h19 => ?_);(conv=>whnf);refine nth_o (l := y25.1) h19 (fun x31 _ h19 => ?_);(conv=>whnf);refine ⟨?_, trivial⟩;(conv=>whnf);refine ⟨by trivial,?_⟩;(conv=>whnf);refine ⟨?_, trivial⟩;(conv=>whnf);refine app_o (l := e17.2) (m := ([(x29, x30, x31)] : List (Int × Int × Int))) (f := e_III) h19 (by rfl) (by rfl) (by rfl) (fun h19 => ?_);(conv=>whnf);refine ⟨by trivial,?_⟩
             (conv=>whnf);refine ⟨?_, trivial⟩;(conv=>whnf);refine ⟨by trivial,?_⟩;(conv=>whnf);refine pw_ops ?_;refine po_all ?_;(conv=>whnf);cases h19;refine ⟨_, rfl, ?_⟩;exact Recast.fz (fun _ => false) (nl rfl) (.cons (.same rfl rfl (OBnd.tail (nl rfl))) (.cons (.same rfl rfl (OBnd.rwl (nl rfl) rfl (.cons .cl (.cons .cl (.cons .cl (.cons (.vt (nl rfl)) .nil)))))) (.cons (.same rfl rfl (OBnd.rwl (nl rfl) rfl (.cons .cl (.cons .cl (.cons .cl (.cons .cl .nil)))))) (.cons (.same rfl rfl (OBnd.rwl (nl rfl) rfl (.cons .cl (.cons .cl (.cons .cl (.cons .cl .nil)))))) .nil)))) (.cons rfl (.same _ (.ptr (nl rfl))) (.cons rfl (.same _ (.ptr (nl rfl))) (.cons rfl (.same _ .cl) (.cons rfl (.same _ (.ptr (nl rfl))) (.cons rfl (.same _ .cl) .nil)))))
         · (conv=>whnf);refine pw_exit ?_;(conv=>whnf);cases h19;refine ⟨_, rfl, ?_⟩; rintro rfl;(conv=>whnf);exact ⟨_, rfl, ⟨(.cons rfl (.cons rfl .nil)), rfl⟩⟩
     · intro r33 hr; have H := h15 _ hr;refine pwa ?_;(conv=>whnf);refine pw_ret ?_;(conv=>whnf);cases H; show ∃ D, Fz _ D 0 (.tuple ⟨[(.agg ⟨[(.int .i64 x10), (.int .i64 x11), (.int .i64 x12), (VT 3 _ 3)]⟩), (.int .i64 0)]⟩) _;exact ⟨fun _ => false, .tuplel (.cons (.aggl (.cons .cl (.cons .cl (.cons .cl (.cons .vtc (.nil)))))) (.cons .cl (.nil)))⟩
noncomputable def f466 [LO]  (a0 : Int) (a1 : Int) (a2 : List (ByteArray × Int × Int × Int)) : Option ByteArray :=
 obnd (f388 a0) fun (y1 : ByteArray) =>
 ogrd ((Nat.ble (y1.size + (⟨#[32]⟩ : ByteArray).size) 9223372036854775807)) (
 obnd (f388 a1) fun (y4 : ByteArray) =>
 ogrd ((Nat.ble ((y1 ++ (⟨#[32]⟩ : ByteArray)).size + y4.size) 9223372036854775807)) (
 obnd (
 oloop (τ := ByteArray × Int) (ρ := ByteArray) (fun e11 =>
 oite ((ilt e11.2 ((a2.map e_SIII).length : Int))) (
 ogrd ((ile 0 e11.2)) (
 obnd (a2[e11.2.toNat]?) fun (x16 : ByteArray × Int × Int × Int) =>
 ogrd ((Nat.ble (e11.1.size + (⟨#[59]⟩ : ByteArray).size) 9223372036854775807)) (
 ogrd ((Nat.ble ((e11.1 ++ (⟨#[59]⟩ : ByteArray)).size + x16.1.size) 9223372036854775807)) (
 ogrd ((Nat.ble (((e11.1 ++ (⟨#[59]⟩ : ByteArray)) ++ x16.1).size + (⟨#[32]⟩ : ByteArray).size) 9223372036854775807)) (
 obnd (f388 x16.2.1) fun (y20 : ByteArray) =>
 ogrd ((Nat.ble ((((e11.1 ++ (⟨#[59]⟩ : ByteArray)) ++ x16.1) ++ (⟨#[32]⟩ : ByteArray)).size + y20.size) 9223372036854775807)) (
 ogrd ((Nat.ble (((((e11.1 ++ (⟨#[59]⟩ : ByteArray)) ++ x16.1) ++ (⟨#[32]⟩ : ByteArray)) ++ y20).size + (⟨#[32]⟩ : ByteArray).size) 9223372036854775807)) (
 obnd (f388 x16.2.2.1) fun (y24 : ByteArray) =>
 ogrd ((Nat.ble ((((((e11.1 ++ (⟨#[59]⟩ : ByteArray)) ++ x16.1) ++ (⟨#[32]⟩ : ByteArray)) ++ y20) ++ (⟨#[32]⟩ : ByteArray)).size + y24.size) 9223372036854775807)) (
 ogrd ((Nat.ble (((((((e11.1 ++ (⟨#[59]⟩ : ByteArray)) ++ x16.1) ++ (⟨#[32]⟩ : ByteArray)) ++ y20) ++ (⟨#[32]⟩ : ByteArray)) ++ y24).size + (⟨#[32]⟩ : ByteArray).size) 9223372036854775807)) (
 obnd (f388 x16.2.2.2) fun (y28 : ByteArray) =>
 ogrd ((Nat.ble ((((((((e11.1 ++ (⟨#[59]⟩ : ByteArray)) ++ x16.1) ++ (⟨#[32]⟩ : ByteArray)) ++ y20) ++ (⟨#[32]⟩ : ByteArray)) ++ y24) ++ (⟨#[32]⟩ : ByteArray)).size + y28.size) 9223372036854775807)) (
 some (.inl ((((((((((e11.1 ++ (⟨#[59]⟩ : ByteArray)) ++ x16.1) ++ (⟨#[32]⟩ : ByteArray)) ++ y20) ++ (⟨#[32]⟩ : ByteArray)) ++ y24) ++ (⟨#[32]⟩ : ByteArray)) ++ y28), (IntKind.i64.wrap (e11.2 + (1 : Int)))))))))))))))
 ) (
 some (.inr (e11.1)))
 ) ((((y1 ++ (⟨#[32]⟩ : ByteArray)) ++ y4), (0 : Int)))
 ) fun (r7 : ByteArray) =>
 some r7))
theorem c466 [LO]  {a0 : Int} {a1 : Int} {a2 : List (ByteArray × Int × Int × Int)} {x : ByteArray} (H : f466 a0 a1 a2 = some x) : ICalls E 466 [(.agg ⟨[(.int .i64 a0), (.int .i64 a1), (VS 4 (a2.map e_SIII))]⟩)] AHeap.none fun v _ => v = (.string x) := by
 refine icalls_fn (pfnw ?_); unfold f466 at H;(conv=>whnf);refine pwa ?_;(conv=>whnf);refine pw_sd ?_;(conv=>whnf);refine ⟨?_, trivial⟩;(conv=>whnf);obtain ⟨y1, h2, H⟩ := obnd_some H;refine (c388 h2).go ?_;(conv=>whnf);refine ⟨by trivial,?_⟩;(conv=>whnf);refine pbr_ogrd H (fun g3 H => ?_);(conv=>whnf);refine ⟨?_, trivial⟩;(conv=>whnf);obtain ⟨y4, h5, H⟩ := obnd_some H;refine (c388 h5).go ?_;(conv=>whnf);refine ⟨by trivial,?_⟩;(conv=>whnf);refine pbr_ogrd H (fun g6 H => ?_);(conv=>whnf)
 obtain ⟨r7, h8, H⟩ := obnd_some H;refine pw_join (ρ := ByteArray) (fun e => ⟨[(3, (.string e))], ⟨1, [(0, .rw [(.int .i64 a0), (.int .i64 a1), (VS 4 (a2.map e_SIII))])], false⟩⟩) r7 ?_ ?_
 · refine pwa ?_;(conv=>whnf);refine pw_block ?_;refine pw_loop (τ := ByteArray × Int) (fun e => ⟨[(1, (.pointer (some ⟨0, 0, none⟩))), (3, (.string e.1)), (4, (.int .i64 e.2))], ⟨1, [(0, .rw [(.int .i64 a0), (.int .i64 a1), (VS 4 (a2.map e_SIII))])], false⟩⟩) h8 ?_ (fun _ => nl rfl) ?_
   · exact .sub' (nl rfl) (.cons rfl (.cons rfl (.cons rfl .nil)))
   · intro e11 x12 h13;refine pw_seq ?_;refine pwa ?_;(conv=>whnf);refine pw_cond ?_;(conv=>whnf);refine pbr_oite h13 (fun g14 h13 => ?_) (fun g14 h13 => ?_)
     · (conv=>whnf);refine pw_skip ?_;(conv=>whnf);refine pw_seq ?_;refine pw_block ?_;refine pwa ?_;(conv=>whnf);refine pbr_ogrd h13 (fun g15 h13 => ?_);(conv=>whnf);refine nth_o (l := a2) h13 (fun x16 _ h13 => ?_);(conv=>whnf);refine pw_draw ?_;(conv=>whnf);refine pbr_ogrd h13 (fun g17 h13 => ?_);(conv=>whnf);refine pbr_ogrd h13 (fun g18 h13 => ?_);(conv=>whnf);refine pbr_ogrd h13 (fun g19 h13 => ?_);(conv=>whnf);refine ⟨?_, trivial⟩;(conv=>whnf);obtain ⟨y20, h21, h13⟩ := obnd_some h13;refine (c388 h21).go ?_;(conv=>whnf);refine ⟨by trivial,?_⟩
       (conv=>whnf);refine pbr_ogrd h13 (fun g22 h13 => ?_);(conv=>whnf);refine pbr_ogrd h13 (fun g23 h13 => ?_);(conv=>whnf);refine ⟨?_, trivial⟩;(conv=>whnf);obtain ⟨y24, h25, h13⟩ := obnd_some h13;refine (c388 h25).go ?_;(conv=>whnf);refine ⟨by trivial,?_⟩;(conv=>whnf);refine pbr_ogrd h13 (fun g26 h13 => ?_);(conv=>whnf);refine pbr_ogrd h13 (fun g27 h13 => ?_);(conv=>whnf);refine ⟨?_, trivial⟩;(conv=>whnf);obtain ⟨y28, h29, h13⟩ := obnd_some h13;refine (c388 h29).go ?_;(conv=>whnf);refine ⟨by trivial,?_⟩
       (conv=>whnf);refine pbr_ogrd h13 (fun g30 h13 => ?_);(conv=>whnf);refine ⟨?_, trivial⟩;(conv=>whnf);refine ⟨by trivial,?_⟩;(conv=>whnf);refine pw_ops ?_;refine po_all ?_;(conv=>whnf);cases h13;refine ⟨_, rfl, ?_⟩;refine Recast.trunc (nl rfl) ?_ ?_
       · repeat (first | exact .nil | refine .cons rfl (by first | exact OBnd.rwc (nl rfl) rfl | exact OBnd.tail (nl rfl) | trivial) ?_)
       · repeat (first | exact .nil | refine .cons rfl (by first | exact Bnd.ptr (nl rfl) | exact Bnd.vt (nl rfl) | exact Bnd.cl) ?_)
     · (conv=>whnf);refine pw_exit ?_;(conv=>whnf);cases h13;refine ⟨_, rfl, ?_⟩; rintro rfl;(conv=>whnf);exact ⟨(.cons rfl .nil), rfl⟩
 · refine pwa ?_;(conv=>whnf);refine pw_ret ?_;(conv=>whnf);cases H; rfl
noncomputable def f467 [LO]  (a0 : Int) (a1 : Int) (a2 : Int) (a3 : List (Int × Int × Int)) : Option ByteArray :=
 obnd (f388 a0) fun (y1 : ByteArray) =>
 ogrd ((Nat.ble (y1.size + (⟨#[32]⟩ : ByteArray).size) 9223372036854775807)) (
 obnd (f388 a1) fun (y4 : ByteArray) =>
 ogrd ((Nat.ble ((y1 ++ (⟨#[32]⟩ : ByteArray)).size + y4.size) 9223372036854775807)) (
 ogrd ((Nat.ble (((y1 ++ (⟨#[32]⟩ : ByteArray)) ++ y4).size + (⟨#[32]⟩ : ByteArray).size) 9223372036854775807)) (
 obnd (f388 a2) fun (y8 : ByteArray) =>
 ogrd ((Nat.ble ((((y1 ++ (⟨#[32]⟩ : ByteArray)) ++ y4) ++ (⟨#[32]⟩ : ByteArray)).size + y8.size) 9223372036854775807)) (
 obnd (
 oloop (τ := ByteArray × Int) (ρ := ByteArray) (fun e15 =>
 oite ((ilt e15.2 ((a3.map e_III).length : Int))) (
 ogrd ((ile 0 e15.2)) (
 obnd (a3[e15.2.toNat]?) fun (x20 : Int × Int × Int) =>
 ogrd ((Nat.ble (e15.1.size + (⟨#[59]⟩ : ByteArray).size) 9223372036854775807)) (
 obnd (f388 x20.1) fun (y22 : ByteArray) =>
 ogrd ((Nat.ble ((e15.1 ++ (⟨#[59]⟩ : ByteArray)).size + y22.size) 9223372036854775807)) (
 ogrd ((Nat.ble (((e15.1 ++ (⟨#[59]⟩ : ByteArray)) ++ y22).size + (⟨#[32]⟩ : ByteArray).size) 9223372036854775807)) (
 obnd (f388 x20.2.1) fun (y26 : ByteArray) =>
 ogrd ((Nat.ble ((((e15.1 ++ (⟨#[59]⟩ : ByteArray)) ++ y22) ++ (⟨#[32]⟩ : ByteArray)).size + y26.size) 9223372036854775807)) (
 ogrd ((Nat.ble (((((e15.1 ++ (⟨#[59]⟩ : ByteArray)) ++ y22) ++ (⟨#[32]⟩ : ByteArray)) ++ y26).size + (⟨#[32]⟩ : ByteArray).size) 9223372036854775807)) (
 obnd (f388 x20.2.2) fun (y30 : ByteArray) =>
 ogrd ((Nat.ble ((((((e15.1 ++ (⟨#[59]⟩ : ByteArray)) ++ y22) ++ (⟨#[32]⟩ : ByteArray)) ++ y26) ++ (⟨#[32]⟩ : ByteArray)).size + y30.size) 9223372036854775807)) (
 some (.inl ((((((((e15.1 ++ (⟨#[59]⟩ : ByteArray)) ++ y22) ++ (⟨#[32]⟩ : ByteArray)) ++ y26) ++ (⟨#[32]⟩ : ByteArray)) ++ y30), (IntKind.i64.wrap (e15.2 + (1 : Int)))))))))))))
 ) (
 some (.inr (e15.1)))
 ) ((((((y1 ++ (⟨#[32]⟩ : ByteArray)) ++ y4) ++ (⟨#[32]⟩ : ByteArray)) ++ y8), (0 : Int)))
 ) fun (r11 : ByteArray) =>
 some r11))))
theorem c467 [LO]  {a0 : Int} {a1 : Int} {a2 : Int} {a3 : List (Int × Int × Int)} {x : ByteArray} (H : f467 a0 a1 a2 a3 = some x) : ICalls E 467 [(.agg ⟨[(.int .i64 a0), (.int .i64 a1), (.int .i64 a2), (VS 3 (a3.map e_III))]⟩)] AHeap.none fun v _ => v = (.string x) := by
 refine icalls_fn (pfnw ?_); unfold f467 at H;(conv=>whnf);refine pwa ?_;(conv=>whnf);refine pw_sd ?_;(conv=>whnf);refine ⟨?_, trivial⟩;(conv=>whnf);obtain ⟨y1, h2, H⟩ := obnd_some H;refine (c388 h2).go ?_;(conv=>whnf);refine ⟨by trivial,?_⟩;(conv=>whnf);refine pbr_ogrd H (fun g3 H => ?_);(conv=>whnf);refine ⟨?_, trivial⟩;(conv=>whnf);obtain ⟨y4, h5, H⟩ := obnd_some H;refine (c388 h5).go ?_;(conv=>whnf);refine ⟨by trivial,?_⟩;(conv=>whnf);refine pbr_ogrd H (fun g6 H => ?_);(conv=>whnf)
 refine pbr_ogrd H (fun g7 H => ?_);(conv=>whnf);refine ⟨?_, trivial⟩;(conv=>whnf);obtain ⟨y8, h9, H⟩ := obnd_some H;refine (c388 h9).go ?_;(conv=>whnf);refine ⟨by trivial,?_⟩;(conv=>whnf);refine pbr_ogrd H (fun g10 H => ?_);(conv=>whnf);obtain ⟨r11, h12, H⟩ := obnd_some H;refine pw_join (ρ := ByteArray) (fun e => ⟨[(3, (.string e))], ⟨1, [(0, .rw [(.int .i64 a0), (.int .i64 a1), (.int .i64 a2), (VS 3 (a3.map e_III))])], false⟩⟩) r11 ?_ ?_
 · refine pwa ?_;(conv=>whnf);refine pw_block ?_;refine pw_loop (τ := ByteArray × Int) (fun e => ⟨[(1, (.pointer (some ⟨0, 0, none⟩))), (3, (.string e.1)), (4, (.int .i64 e.2))], ⟨1, [(0, .rw [(.int .i64 a0), (.int .i64 a1), (.int .i64 a2), (VS 3 (a3.map e_III))])], false⟩⟩) h12 ?_ (fun _ => nl rfl) ?_
   · exact .sub' (nl rfl) (.cons rfl (.cons rfl (.cons rfl .nil)))
   · intro e15 x16 h17;refine pw_seq ?_;refine pwa ?_;(conv=>whnf);refine pw_cond ?_;(conv=>whnf);refine pbr_oite h17 (fun g18 h17 => ?_) (fun g18 h17 => ?_)
     · (conv=>whnf);refine pw_skip ?_;(conv=>whnf);refine pw_seq ?_;refine pw_block ?_;refine pwa ?_;(conv=>whnf);refine pbr_ogrd h17 (fun g19 h17 => ?_);(conv=>whnf);refine nth_o (l := a3) h17 (fun x20 _ h17 => ?_);(conv=>whnf);refine pw_draw ?_;(conv=>whnf);refine pbr_ogrd h17 (fun g21 h17 => ?_);(conv=>whnf);refine ⟨?_, trivial⟩;(conv=>whnf);obtain ⟨y22, h23, h17⟩ := obnd_some h17;refine (c388 h23).go ?_;(conv=>whnf);refine ⟨by trivial,?_⟩;(conv=>whnf);refine pbr_ogrd h17 (fun g24 h17 => ?_);(conv=>whnf);refine pbr_ogrd h17 (fun g25 h17 => ?_)
       (conv=>whnf);refine ⟨?_, trivial⟩;(conv=>whnf);obtain ⟨y26, h27, h17⟩ := obnd_some h17;refine (c388 h27).go ?_;(conv=>whnf);refine ⟨by trivial,?_⟩;(conv=>whnf);refine pbr_ogrd h17 (fun g28 h17 => ?_);(conv=>whnf);refine pbr_ogrd h17 (fun g29 h17 => ?_);(conv=>whnf);refine ⟨?_, trivial⟩;(conv=>whnf);obtain ⟨y30, h31, h17⟩ := obnd_some h17;refine (c388 h31).go ?_;(conv=>whnf);refine ⟨by trivial,?_⟩;(conv=>whnf);refine pbr_ogrd h17 (fun g32 h17 => ?_);(conv=>whnf);refine ⟨?_, trivial⟩;(conv=>whnf);refine ⟨by trivial,?_⟩
       (conv=>whnf);refine pw_ops ?_;refine po_all ?_;(conv=>whnf);cases h17;refine ⟨_, rfl, ?_⟩;refine Recast.trunc (nl rfl) ?_ ?_
       · repeat (first | exact .nil | refine .cons rfl (by first | exact OBnd.rwc (nl rfl) rfl | exact OBnd.tail (nl rfl) | trivial) ?_)
       · repeat (first | exact .nil | refine .cons rfl (by first | exact Bnd.ptr (nl rfl) | exact Bnd.vt (nl rfl) | exact Bnd.cl) ?_)
     · (conv=>whnf);refine pw_exit ?_;(conv=>whnf);cases h17;refine ⟨_, rfl, ?_⟩; rintro rfl;(conv=>whnf);exact ⟨(.cons rfl .nil), rfl⟩
 · refine pwa ?_;(conv=>whnf);refine pw_ret ?_;(conv=>whnf);cases H; rfl
noncomputable def f468 [LO]  (a0 : Int) (a1 : Int) (a2 : List (ByteArray × Int × Int × Int)) (a3 : Int) (a4 : Int) (a5 : List (ByteArray × Int × Int × Int)) : Option Bool :=
 obnd (
 obnd (
 oite ((!(ieq a0 a3))) (
 some true
 ) (
 some (!(ieq a1 a4)))
 ) fun (r5 : Bool) =>
 oite r5 (
 some true
 ) (
 some (!(ieq ((a2.map e_SIII).length : Int) ((a5.map e_SIII).length : Int))))
 ) fun (r1 : Bool) =>
 oite r1 (
 some false
 ) (
 obndS (
 oloop (τ := Int) (ρ := (Unit) ⊕ Bool) (fun e14 =>
 oite ((ilt e14 ((a2.map e_SIII).length : Int))) (
 ogrd ((ile 0 e14)) (
 obnd (a2[e14.toNat]?) fun (x19 : ByteArray × Int × Int × Int) =>
 obnd (a5[e14.toNat]?) fun (x20 : ByteArray × Int × Int × Int) =>
 oite ((!((x19.1 == x20.1) && ((ieq x19.2.1 x20.2.1) && ((ieq x19.2.2.1 x20.2.2.1) && ((ieq x19.2.2.2 x20.2.2.2) && true)))))) (
 some (.inr (.inr (false)))
 ) (
 some (.inl (IntKind.i64.wrap (e14 + (1 : Int))))))
 ) (
 some (.inr (.inl ())))
 ) (0 : Int)
 ) fun (_ : Unit) =>
 some true)
theorem c468 [LO]  {a0 : Int} {a1 : Int} {a2 : List (ByteArray × Int × Int × Int)} {a3 : Int} {a4 : Int} {a5 : List (ByteArray × Int × Int × Int)} {x : Bool} (H : f468 a0 a1 a2 a3 a4 a5 = some x) : ICalls E 468 [(.agg ⟨[(.int .i64 a0), (.int .i64 a1), (VS 4 (a2.map e_SIII))]⟩), (.agg ⟨[(.int .i64 a3), (.int .i64 a4), (VS 4 (a5.map e_SIII))]⟩)] AHeap.none fun v _ => v = (.bool x) := by
 refine icalls_fn (pfnw ?_); unfold f468 at H;(conv=>whnf);refine pwa ?_;(conv=>whnf);refine pw_seq ?_;obtain ⟨r1, h2, H⟩ := obnd_some H;refine pw_join (ρ := Bool) (fun e => ⟨[(2, (.pointer (some ⟨0, 0, none⟩))), (3, (.pointer (some ⟨1, 0, none⟩))), (26, (.bool e))], ⟨2, [(1, .rw [(.int .i64 a3), (.int .i64 a4), (VS 4 (a5.map e_SIII))]), (0, .rw [(.int .i64 a0), (.int .i64 a1), (VS 4 (a2.map e_SIII))])], false⟩⟩) r1 ?_ ?_
 · refine pw_ops ?_;refine po_ops 6 ?_;(conv=>whnf);obtain ⟨r5, h6, h2⟩ := obnd_some h2;refine po_seg (τ := Bool) 6 (fun e => ⟨[(2, (.pointer (some ⟨0, 0, none⟩))), (3, (.pointer (some ⟨1, 0, none⟩))), (17, (.bool e))], ⟨2, [(1, .rw [(.int .i64 a3), (.int .i64 a4), (VS 4 (a5.map e_SIII))]), (0, .rw [(.int .i64 a0), (.int .i64 a1), (VS 4 (a2.map e_SIII))])], false⟩⟩) r5 ?_ ?_
   · refine po_all ?_;(conv=>whnf);refine pbr_oite h6 (fun g7 h6 => ?_) (fun g7 h6 => ?_)
     · (conv=>whnf);(iterate 5 refine pbr_t g7 ?_;(conv=>whnf));cases h6;exact ⟨(.cons rfl (.cons rfl (.cons rfl .nil))), rfl⟩
     · (conv=>whnf);(iterate 5 refine pbr_f g7 ?_;(conv=>whnf));cases h6;exact ⟨(.cons rfl (.cons rfl (.cons rfl .nil))), rfl⟩
   · refine po_all ?_;(conv=>whnf);refine pbr_oite h2 (fun g8 h2 => ?_) (fun g8 h2 => ?_)
     · (conv=>whnf);(iterate 7 refine pbr_t g8 ?_;(conv=>whnf));cases h2;exact ⟨(.cons rfl (.cons rfl (.cons rfl .nil))), rfl⟩
     · (conv=>whnf);(iterate 7 refine pbr_f g8 ?_;(conv=>whnf));cases h2;exact ⟨(.cons rfl (.cons rfl (.cons rfl .nil))), rfl⟩
 · refine pw_cond ?_;(conv=>whnf);refine pbr_oite H (fun g9 H => ?_) (fun g9 H => ?_)
   · (conv=>whnf);refine pwa ?_;(conv=>whnf);refine pw_ret ?_;(conv=>whnf);cases H; rfl
   · (conv=>whnf);refine pw_skip ?_;(conv=>whnf);obtain ⟨r10, h11, h12, h13⟩ := obndS_some H;refine pw_joinS (ρ := Unit) (fun e => ⟨[], ⟨2, [(1, .rw [(.int .i64 a3), (.int .i64 a4), (VS 4 (a5.map e_SIII))]), (0, .rw [(.int .i64 a0), (.int .i64 a1), (VS 4 (a2.map e_SIII))])], false⟩⟩) r10 ?_ ?_
     · refine pwa ?_;(conv=>whnf);refine pw_block ?_;refine pw_loop (τ := Int) (fun e => ⟨[(2, (.pointer (some ⟨0, 0, none⟩))), (3, (.pointer (some ⟨1, 0, none⟩))), (5, (.int .i64 e))], ⟨2, [(1, .rw [(.int .i64 a3), (.int .i64 a4), (VS 4 (a5.map e_SIII))]), (0, .rw [(.int .i64 a0), (.int .i64 a1), (VS 4 (a2.map e_SIII))])], false⟩⟩) h11 ?_ (fun _ => nl rfl) ?_
       · exact .sub' (nl rfl) (.cons rfl (.cons rfl (.cons rfl .nil)))
       · intro e14 x15 h16;refine pw_seq ?_;refine pwa ?_;(conv=>whnf);refine pw_cond ?_;(conv=>whnf);refine pbr_oite h16 (fun g17 h16 => ?_) (fun g17 h16 => ?_)
         · (conv=>whnf);refine pw_skip ?_;(conv=>whnf);refine pw_seq ?_;refine pw_block ?_;refine pw_sd ?_;(conv=>whnf);refine pbr_ogrd h16 (fun g18 h16 => ?_);(conv=>whnf);refine nth_o (l := a2) h16 (fun x19 _ h16 => ?_);(conv=>whnf);refine pbr_t g18 ?_;(conv=>whnf);refine nth_o (l := a5) h16 (fun x20 _ h16 => ?_);(conv=>whnf);refine pw_cond ?_;(conv=>whnf);refine pbr_oite h16 (fun g21 h16 => ?_) (fun g21 h16 => ?_)
           · (conv=>whnf);refine pwa ?_;(conv=>whnf);refine pw_ret ?_;(conv=>whnf);cases h16;refine ⟨_, rfl, ?_⟩; rintro rfl;(conv=>whnf);obtain rfl := h13 _ rfl; rfl
           · (conv=>whnf);refine pw_skip ?_;(conv=>whnf);refine pw_ops ?_;refine po_all ?_;(conv=>whnf);cases h16;refine ⟨_, rfl, ?_⟩;exact .sub' (nl rfl) (.cons rfl (.cons rfl (.cons rfl .nil)))
         · (conv=>whnf);refine pw_exit ?_;(conv=>whnf);cases h16;refine ⟨_, rfl, ?_⟩; rintro rfl;(conv=>whnf);exact ⟨_, rfl, ⟨.nil, rfl⟩⟩
     · intro r24 hr; have H := h12 _ hr;refine pwa ?_;(conv=>whnf);refine pw_ret ?_;(conv=>whnf);cases H; rfl
noncomputable def f469 [LO]  (a0 : Int) (a1 : Int) (a2 : Int) (a3 : List (Int × Int × Int)) (a4 : Int) (a5 : Int) (a6 : Int) (a7 : List (Int × Int × Int)) : Option Bool :=
 obnd (
 obnd (
 oite ((!(ieq a0 a4))) (
 some true
 ) (
 some (!(ieq a1 a5)))
 ) fun (r5 : Bool) =>
 obnd (
 oite r5 (
 some true
 ) (
 some (!(ieq a2 a6)))
 ) fun (r8 : Bool) =>
 oite r8 (
 some true
 ) (
 some (!(ieq ((a3.map e_III).length : Int) ((a7.map e_III).length : Int))))
 ) fun (r1 : Bool) =>
 oite r1 (
 some false
 ) (
 obndS (
 oloop (τ := Int) (ρ := (Unit) ⊕ Bool) (fun e17 =>
 oite ((ilt e17 ((a3.map e_III).length : Int))) (
 ogrd ((ile 0 e17)) (
 obnd (a3[e17.toNat]?) fun (x22 : Int × Int × Int) =>
 obnd (a7[e17.toNat]?) fun (x23 : Int × Int × Int) =>
 oite ((!((ieq x22.1 x23.1) && ((ieq x22.2.1 x23.2.1) && ((ieq x22.2.2 x23.2.2) && true))))) (
 some (.inr (.inr (false)))
 ) (
 some (.inl (IntKind.i64.wrap (e17 + (1 : Int))))))
 ) (
 some (.inr (.inl ())))
 ) (0 : Int)
 ) fun (_ : Unit) =>
 some true)
theorem c469 [LO]  {a0 : Int} {a1 : Int} {a2 : Int} {a3 : List (Int × Int × Int)} {a4 : Int} {a5 : Int} {a6 : Int} {a7 : List (Int × Int × Int)} {x : Bool} (H : f469 a0 a1 a2 a3 a4 a5 a6 a7 = some x) : ICalls E 469 [(.agg ⟨[(.int .i64 a0), (.int .i64 a1), (.int .i64 a2), (VS 3 (a3.map e_III))]⟩), (.agg ⟨[(.int .i64 a4), (.int .i64 a5), (.int .i64 a6), (VS 3 (a7.map e_III))]⟩)] AHeap.none fun v _ => v = (.bool x) := by
 refine icalls_fn (pfnw ?_); unfold f469 at H;(conv=>whnf);refine pwa ?_;(conv=>whnf);refine pw_seq ?_;obtain ⟨r1, h2, H⟩ := obnd_some H;refine pw_join (ρ := Bool) (fun e => ⟨[(2, (.pointer (some ⟨0, 0, none⟩))), (3, (.pointer (some ⟨1, 0, none⟩))), (33, (.bool e))], ⟨2, [(1, .rw [(.int .i64 a4), (.int .i64 a5), (.int .i64 a6), (VS 3 (a7.map e_III))]), (0, .rw [(.int .i64 a0), (.int .i64 a1), (.int .i64 a2), (VS 3 (a3.map e_III))])], false⟩⟩) r1 ?_ ?_
 · refine pw_ops ?_;refine po_ops 6 ?_;(conv=>whnf);obtain ⟨r5, h6, h2⟩ := obnd_some h2;refine po_seg (τ := Bool) 6 (fun e => ⟨[(2, (.pointer (some ⟨0, 0, none⟩))), (3, (.pointer (some ⟨1, 0, none⟩))), (17, (.bool e))], ⟨2, [(1, .rw [(.int .i64 a4), (.int .i64 a5), (.int .i64 a6), (VS 3 (a7.map e_III))]), (0, .rw [(.int .i64 a0), (.int .i64 a1), (.int .i64 a2), (VS 3 (a3.map e_III))])], false⟩⟩) r5 ?_ ?_
   · refine po_all ?_;(conv=>whnf);refine pbr_oite h6 (fun g7 h6 => ?_) (fun g7 h6 => ?_)
     · (conv=>whnf);(iterate 5 refine pbr_t g7 ?_;(conv=>whnf));cases h6;exact ⟨(.cons rfl (.cons rfl (.cons rfl .nil))), rfl⟩
     · (conv=>whnf);(iterate 5 refine pbr_f g7 ?_;(conv=>whnf));cases h6;exact ⟨(.cons rfl (.cons rfl (.cons rfl .nil))), rfl⟩
   · refine po_ops 1 ?_;(conv=>whnf);obtain ⟨r8, h9, h2⟩ := obnd_some h2;refine po_seg (τ := Bool) 6 (fun e => ⟨[(2, (.pointer (some ⟨0, 0, none⟩))), (3, (.pointer (some ⟨1, 0, none⟩))), (24, (.bool e))], ⟨2, [(1, .rw [(.int .i64 a4), (.int .i64 a5), (.int .i64 a6), (VS 3 (a7.map e_III))]), (0, .rw [(.int .i64 a0), (.int .i64 a1), (.int .i64 a2), (VS 3 (a3.map e_III))])], false⟩⟩) r8 ?_ ?_
     · refine po_all ?_;(conv=>whnf);refine pbr_oite h9 (fun g10 h9 => ?_) (fun g10 h9 => ?_)
       · (conv=>whnf);(iterate 5 refine pbr_t g10 ?_;(conv=>whnf));cases h9;exact ⟨(.cons rfl (.cons rfl (.cons rfl .nil))), rfl⟩
       · (conv=>whnf);(iterate 5 refine pbr_f g10 ?_;(conv=>whnf));cases h9;exact ⟨(.cons rfl (.cons rfl (.cons rfl .nil))), rfl⟩
     · refine po_all ?_;(conv=>whnf);refine pbr_oite h2 (fun g11 h2 => ?_) (fun g11 h2 => ?_)
       · (conv=>whnf);(iterate 7 refine pbr_t g11 ?_;(conv=>whnf));cases h2;exact ⟨(.cons rfl (.cons rfl (.cons rfl .nil))), rfl⟩
       · (conv=>whnf);(iterate 7 refine pbr_f g11 ?_;(conv=>whnf));cases h2;exact ⟨(.cons rfl (.cons rfl (.cons rfl .nil))), rfl⟩
 · refine pw_cond ?_;(conv=>whnf);refine pbr_oite H (fun g12 H => ?_) (fun g12 H => ?_)
   · (conv=>whnf);refine pwa ?_;(conv=>whnf);refine pw_ret ?_;(conv=>whnf);cases H; rfl
   · (conv=>whnf);refine pw_skip ?_;(conv=>whnf);obtain ⟨r13, h14, h15, h16⟩ := obndS_some H;refine pw_joinS (ρ := Unit) (fun e => ⟨[], ⟨2, [(1, .rw [(.int .i64 a4), (.int .i64 a5), (.int .i64 a6), (VS 3 (a7.map e_III))]), (0, .rw [(.int .i64 a0), (.int .i64 a1), (.int .i64 a2), (VS 3 (a3.map e_III))])], false⟩⟩) r13 ?_ ?_
     · refine pwa ?_;(conv=>whnf);refine pw_block ?_;refine pw_loop (τ := Int) (fun e => ⟨[(2, (.pointer (some ⟨0, 0, none⟩))), (3, (.pointer (some ⟨1, 0, none⟩))), (5, (.int .i64 e))], ⟨2, [(1, .rw [(.int .i64 a4), (.int .i64 a5), (.int .i64 a6), (VS 3 (a7.map e_III))]), (0, .rw [(.int .i64 a0), (.int .i64 a1), (.int .i64 a2), (VS 3 (a3.map e_III))])], false⟩⟩) h14 ?_ (fun _ => nl rfl) ?_
       · exact .sub' (nl rfl) (.cons rfl (.cons rfl (.cons rfl .nil)))
       · intro e17 x18 h19;refine pw_seq ?_;refine pwa ?_;(conv=>whnf);refine pw_cond ?_;(conv=>whnf);refine pbr_oite h19 (fun g20 h19 => ?_) (fun g20 h19 => ?_)
         · (conv=>whnf);refine pw_skip ?_;(conv=>whnf);refine pw_seq ?_;refine pw_block ?_;refine pw_sd ?_;(conv=>whnf);refine pbr_ogrd h19 (fun g21 h19 => ?_);(conv=>whnf);refine nth_o (l := a3) h19 (fun x22 _ h19 => ?_);(conv=>whnf);refine pbr_t g21 ?_;(conv=>whnf);refine nth_o (l := a7) h19 (fun x23 _ h19 => ?_);(conv=>whnf);refine pw_cond ?_;(conv=>whnf);refine pbr_oite h19 (fun g24 h19 => ?_) (fun g24 h19 => ?_)
           · (conv=>whnf);refine pwa ?_;(conv=>whnf);refine pw_ret ?_;(conv=>whnf);cases h19;refine ⟨_, rfl, ?_⟩; rintro rfl;(conv=>whnf);obtain rfl := h16 _ rfl; rfl
           · (conv=>whnf);refine pw_skip ?_;(conv=>whnf);refine pw_ops ?_;refine po_all ?_;(conv=>whnf);cases h19;refine ⟨_, rfl, ?_⟩;exact .sub' (nl rfl) (.cons rfl (.cons rfl (.cons rfl .nil)))
         · (conv=>whnf);refine pw_exit ?_;(conv=>whnf);cases h19;refine ⟨_, rfl, ?_⟩; rintro rfl;(conv=>whnf);exact ⟨_, rfl, ⟨.nil, rfl⟩⟩
     · intro r27 hr; have H := h15 _ hr;refine pwa ?_;(conv=>whnf);refine pw_ret ?_;(conv=>whnf);cases H; rfl
noncomputable def f355  (a0 : Int) : Option Bool :=
 obnd (f15 a0 (-10000 : Int) (10000 : Int)) fun (y1 : Bool) =>
 some y1
theorem c355  {a0 : Int} {x : Bool} (H : f355 a0 = some x) : ICalls E 355 [(.int .i64 a0)] AHeap.none fun v _ => v = (.bool x) := by
 refine icalls_fn (pfnw ?_); unfold f355 at H;(conv=>whnf);refine pwa ?_;(conv=>whnf);refine pwa ?_;(conv=>whnf);obtain ⟨y1, h2, H⟩ := obnd_some H;refine (c15 h2).go ?_;(conv=>whnf);refine pw_ret ?_;(conv=>whnf);cases H; rfl
noncomputable def f326 [LO]  (a0 : Int) (a1 : Int) (a2 : List (ByteArray × Int × Int × Int)) (a3 : Int) (a4 : Int) (a5 : Int) (a6 : List (Int × Int × Int)) : Option (Int × Int) :=
 obnd (f347 a0 a1 a2) fun (y1 : Int) =>
 oite ((!(ieq y1 (0 : Int)))) (
 some ((0 : Int), y1)
 ) (
 obnd (f15 a3 a0 a1) fun (y4 : Bool) =>
 oite (!y4) (
 some ((0 : Int), (2 : Int))
 ) (
 obnd (f15 a4 (0 : Int) ((IntKind.i64.wrap (((a2.map e_SIII).length : Int) - (1 : Int))))) fun (y7 : Bool) =>
 oite (!y7) (
 some ((0 : Int), (6 : Int))
 ) (
 obnd (f355 a5) fun (y10 : Bool) =>
 oite (!y10) (
 some ((0 : Int), (2 : Int))
 ) (
 oite ((ieq ((a6.map e_III).length : Int) (0 : Int))) (
 some ((0 : Int), (10 : Int))
 ) (
 oite ((ilt (10 : Int) ((a6.map e_III).length : Int))) (
 some ((0 : Int), (8 : Int))
 ) (
 obndS (
 oloop (τ := Int) (ρ := (Unit) ⊕ (Int × Int)) (fun e19 =>
 oite ((ilt e19 ((a6.map e_III).length : Int))) (
 ogrd ((ile 0 e19)) (
 obnd (a6[e19.toNat]?) fun (x24 : Int × Int × Int) =>
 obnd (
 obnd (f355 x24.1) fun (y29 : Bool) =>
 obnd (
 oite (!y29) (
 some true
 ) (
 obnd (f355 x24.2.1) fun (y34 : Bool) =>
 some (!y34))
 ) fun (r31 : Bool) =>
 oite r31 (
 some true
 ) (
 obnd (f355 x24.2.2) fun (y37 : Bool) =>
 some (!y37))
 ) fun (r25 : Bool) =>
 oite r25 (
 some (.inr (.inr ((e19, (2 : Int)))))
 ) (
 oite ((ilt x24.1 x24.2.1)) (
 some (.inr (.inr ((e19, (9 : Int)))))
 ) (
 some (.inl (IntKind.i64.wrap (e19 + (1 : Int)))))))
 ) (
 some (.inr (.inl ())))
 ) (0 : Int)
 ) fun (_ : Unit) =>
 some ((0 : Int), (0 : Int))))))))
theorem c326 [LO]  {a0 : Int} {a1 : Int} {a2 : List (ByteArray × Int × Int × Int)} {a3 : Int} {a4 : Int} {a5 : Int} {a6 : List (Int × Int × Int)} {x : Int × Int} (H : f326 a0 a1 a2 a3 a4 a5 a6 = some x) : ICalls E 326 [(.agg ⟨[(.int .i64 a0), (.int .i64 a1), (VS 4 (a2.map e_SIII))]⟩), (.agg ⟨[(.int .i64 a3), (.int .i64 a4), (.int .i64 a5), (VS 3 (a6.map e_III))]⟩)] AHeap.none fun v _ => v = (.tuple ⟨[(.int .i64 x.1), (.int .i64 x.2)]⟩) := by
 refine icalls_fn (pfnw ?_); unfold f326 at H;(conv=>whnf);refine pwa ?_;(conv=>whnf);refine pw_seq ?_;refine pwa ?_;(conv=>whnf);obtain ⟨y1, h2, H⟩ := obnd_some H;refine (c347 h2).go ?_;(conv=>whnf);refine pwa ?_;(conv=>whnf);refine pw_cond ?_;(conv=>whnf);refine pbr_oite H (fun g3 H => ?_) (fun g3 H => ?_)
 · (conv=>whnf);refine pwa ?_;(conv=>whnf);refine pw_ret ?_;(conv=>whnf);cases H; rfl
 · (conv=>whnf);refine pw_skip ?_;(conv=>whnf);refine pw_seq ?_;refine pwa ?_;(conv=>whnf);obtain ⟨y4, h5, H⟩ := obnd_some H;refine (c15 h5).go ?_;(conv=>whnf);refine pw_cond ?_;(conv=>whnf);refine pbr_oite H (fun g6 H => ?_) (fun g6 H => ?_)
   · (conv=>whnf);refine pwa ?_;(conv=>whnf);refine pw_ret ?_;(conv=>whnf);cases H; rfl
   · (conv=>whnf);refine pw_skip ?_;(conv=>whnf);refine pw_seq ?_;refine pwa ?_;(conv=>whnf);obtain ⟨y7, h8, H⟩ := obnd_some H;refine (c15 h8).go ?_;(conv=>whnf);refine pw_cond ?_;(conv=>whnf);refine pbr_oite H (fun g9 H => ?_) (fun g9 H => ?_)
     · (conv=>whnf);refine pwa ?_;(conv=>whnf);refine pw_ret ?_;(conv=>whnf);cases H; rfl
     · (conv=>whnf);refine pw_skip ?_;(conv=>whnf);refine pw_seq ?_;refine pwa ?_;(conv=>whnf);obtain ⟨y10, h11, H⟩ := obnd_some H;refine (c355 h11).go ?_;(conv=>whnf);refine pw_cond ?_;(conv=>whnf);refine pbr_oite H (fun g12 H => ?_) (fun g12 H => ?_)
       · (conv=>whnf);refine pwa ?_;(conv=>whnf);refine pw_ret ?_;(conv=>whnf);cases H; rfl
       · (conv=>whnf);refine pw_skip ?_;(conv=>whnf);refine pw_seq ?_;refine pwa ?_;(conv=>whnf);refine pw_cond ?_;(conv=>whnf);refine pbr_oite H (fun g13 H => ?_) (fun g13 H => ?_)
         · (conv=>whnf);refine pwa ?_;(conv=>whnf);refine pw_ret ?_;(conv=>whnf);cases H; rfl
         · (conv=>whnf);refine pw_skip ?_;(conv=>whnf);refine pw_seq ?_;refine pwa ?_;(conv=>whnf);refine pw_cond ?_;(conv=>whnf);refine pbr_oite H (fun g14 H => ?_) (fun g14 H => ?_)
           · (conv=>whnf);refine pwa ?_;(conv=>whnf);refine pw_ret ?_;(conv=>whnf);cases H; rfl
           · (conv=>whnf);refine pw_skip ?_;(conv=>whnf);obtain ⟨r15, h16, h17, h18⟩ := obndS_some H;refine pw_joinS (ρ := Unit) (fun e => ⟨[], ⟨2, [(1, .rw [(.int .i64 a3), (.int .i64 a4), (.int .i64 a5), (VS 3 (a6.map e_III))]), (0, .rw [(.int .i64 a0), (.int .i64 a1), (VS 4 (a2.map e_SIII))])], false⟩⟩) r15 ?_ ?_
             · refine pwa ?_;(conv=>whnf);refine pw_block ?_;refine pw_loop (τ := Int) (fun e => ⟨[(3, (.pointer (some ⟨1, 0, none⟩))), (7, (.int .i64 e))], ⟨2, [(1, .rw [(.int .i64 a3), (.int .i64 a4), (.int .i64 a5), (VS 3 (a6.map e_III))]), (0, .rw [(.int .i64 a0), (.int .i64 a1), (VS 4 (a2.map e_SIII))])], false⟩⟩) h16 ?_ (fun _ => nl rfl) ?_
               · exact .sub' (nl rfl) (.cons rfl (.cons rfl .nil))
               · intro e19 x20 h21;refine pw_seq ?_;refine pwa ?_;(conv=>whnf);refine pw_cond ?_;(conv=>whnf);refine pbr_oite h21 (fun g22 h21 => ?_) (fun g22 h21 => ?_)
                 · (conv=>whnf);refine pw_skip ?_;(conv=>whnf);refine pw_seq ?_;refine pw_block ?_;refine pwa ?_;(conv=>whnf);refine pbr_ogrd h21 (fun g23 h21 => ?_);(conv=>whnf);refine nth_o (l := a6) h21 (fun x24 _ h21 => ?_);(conv=>whnf);refine pw_seq ?_;obtain ⟨r25, h26, h21⟩ := obnd_some h21;refine pw_join (ρ := Bool) (fun e => ⟨[(3, (.pointer (some ⟨1, 0, none⟩))), (7, (.int .i64 e19)), (8, (.pointer (some ⟨2, 0, none⟩))), (69, (.bool e))], ⟨3, [(2, .rw [(.int .i64 x24.1), (.int .i64 x24.2.1), (.int .i64 x24.2.2)]), (1, .rw [(.int .i64 a3), (.int .i64 a4), (.int .i64 a5), (VS 3 (a6.map e_III))]), (0, .rw [(.int .i64 a0), (.int .i64 a1), (VS 4 (a2.map e_SIII))])], false⟩⟩) r25 ?_ ?_
                   · refine pw_ops ?_;refine po_ops 5 ?_;(conv=>whnf);obtain ⟨y29, h30, h26⟩ := obnd_some h26;refine (c355 h30).go ?_;(conv=>whnf);obtain ⟨r31, h32, h26⟩ := obnd_some h26;refine po_seg (τ := Bool) 5 (fun e => ⟨[(3, (.pointer (some ⟨1, 0, none⟩))), (7, (.int .i64 e19)), (8, (.pointer (some ⟨2, 0, none⟩))), (63, (.bool e))], ⟨3, [(2, .rw [(.int .i64 x24.1), (.int .i64 x24.2.1), (.int .i64 x24.2.2)]), (1, .rw [(.int .i64 a3), (.int .i64 a4), (.int .i64 a5), (VS 3 (a6.map e_III))]), (0, .rw [(.int .i64 a0), (.int .i64 a1), (VS 4 (a2.map e_SIII))])], false⟩⟩) r31 ?_ ?_
                     · refine po_all ?_;(conv=>whnf);refine pbr_oite h32 (fun g33 h32 => ?_) (fun g33 h32 => ?_)
                       · (conv=>whnf);(iterate 4 refine pbr_t g33 ?_;(conv=>whnf));cases h32;exact ⟨by (repeat refine .cons rfl ?_);exact .nil,rfl⟩
                       · (conv=>whnf);refine pbr_f g33 ?_;(conv=>whnf);refine pbr_f g33 ?_;(conv=>whnf);obtain ⟨y34, h35, h32⟩ := obnd_some h32;refine (c355 h35).go ?_;(conv=>whnf);refine pbr_f g33 ?_;(conv=>whnf);refine pbr_f g33 ?_;(conv=>whnf);cases h32;exact ⟨by (repeat refine .cons rfl ?_);exact .nil,rfl⟩
                     · refine po_all ?_;(conv=>whnf);refine pbr_oite h26 (fun g36 h26 => ?_) (fun g36 h26 => ?_)
                       · (conv=>whnf);(iterate 4 refine pbr_t g36 ?_;(conv=>whnf));cases h26;exact ⟨by (repeat refine .cons rfl ?_);exact .nil,rfl⟩
                       · (conv=>whnf);refine pbr_f g36 ?_;(conv=>whnf);refine pbr_f g36 ?_;(conv=>whnf);obtain ⟨y37, h38, h26⟩ := obnd_some h26;refine (c355 h38).go ?_;(conv=>whnf);refine pbr_f g36 ?_;(conv=>whnf);refine pbr_f g36 ?_;(conv=>whnf);cases h26;exact ⟨by (repeat refine .cons rfl ?_);exact .nil,rfl⟩
                   · refine pw_cond ?_;(conv=>whnf);refine pbr_oite h21 (fun g39 h21 => ?_) (fun g39 h21 => ?_)
                     · (conv=>whnf);refine pwa ?_;(conv=>whnf);refine pw_ret ?_;(conv=>whnf);cases h21;refine ⟨_, rfl, ?_⟩; rintro rfl;(conv=>whnf);obtain rfl := h18 _ rfl; rfl
                     · (conv=>whnf);refine pw_skip ?_;(conv=>whnf);refine pwa ?_;(conv=>whnf);refine pw_cond ?_;(conv=>whnf);refine pbr_oite h21 (fun g41 h21 => ?_) (fun g41 h21 => ?_)
                       · (conv=>whnf);refine pwa ?_;(conv=>whnf);refine pw_ret ?_;(conv=>whnf);cases h21;refine ⟨_, rfl, ?_⟩; rintro rfl;(conv=>whnf);obtain rfl := h18 _ rfl; rfl
                       · (conv=>whnf);refine pw_skip ?_;(conv=>whnf);refine pw_ops ?_;refine po_all ?_;(conv=>whnf);cases h21;refine ⟨_, rfl, ?_⟩;refine Recast.trunc (nl rfl) ?_ ?_
                         · repeat (first | exact .nil | refine .cons rfl (by first | exact OBnd.rwc (nl rfl) rfl | exact OBnd.tail (nl rfl) | trivial) ?_)
                         · repeat (first | exact .nil | refine .cons rfl (by first | exact Bnd.ptr (nl rfl) | exact Bnd.vt (nl rfl) | exact Bnd.cl) ?_)
                 · (conv=>whnf);refine pw_exit ?_;(conv=>whnf);cases h21;refine ⟨_, rfl, ?_⟩; rintro rfl;(conv=>whnf);exact ⟨_, rfl, ⟨.nil, rfl⟩⟩
             · intro r44 hr; have H := h17 _ hr;refine pwa ?_;(conv=>whnf);refine pw_ret ?_;(conv=>whnf);cases H; rfl
noncomputable def f311 [LO]  (a0 : Int) (a1 : Int) (a2 : List (ByteArray × Int × Int × Int)) (a3 : Int) (a4 : Int) (a5 : Int) (a6 : List (Int × Int × Int)) : Option Int :=
 obnd (f326 a0 a1 a2 a3 a4 a5 a6) fun (y1 : Int × Int) =>
 some y1.2
theorem c311 [LO]  {a0 : Int} {a1 : Int} {a2 : List (ByteArray × Int × Int × Int)} {a3 : Int} {a4 : Int} {a5 : Int} {a6 : List (Int × Int × Int)} {x : Int} (H : f311 a0 a1 a2 a3 a4 a5 a6 = some x) : ICalls E 311 [(.agg ⟨[(.int .i64 a0), (.int .i64 a1), (VS 4 (a2.map e_SIII))]⟩), (.agg ⟨[(.int .i64 a3), (.int .i64 a4), (.int .i64 a5), (VS 3 (a6.map e_III))]⟩)] AHeap.none fun v _ => v = (.int .i64 x) := by
 refine icalls_fn (pfnw ?_); unfold f311 at H;(conv=>whnf);refine pwa ?_;(conv=>whnf);refine pwa ?_;(conv=>whnf);obtain ⟨y1, h2, H⟩ := obnd_some H;refine (c326 h2).go ?_;(conv=>whnf);refine pwa ?_;(conv=>whnf);refine pw_ret ?_;(conv=>whnf);cases H; rfl
end Go.Proofs.YtolapannkcdeeaaGreatDoor.AM
