/- Computations of functions, and that the functions do them (printed by tools/lift.py). Conditions: none. -/
import Derived.Test.YtgfglinlmnbjbaaGreatAmRun
import Derived.Test.YtgfglinlmnbjbaaGreatAmMan
namespace Go.Proofs.YtgfglinlmnbjbaaGreat.AM
set_option linter.unusedSimpArgs false
set_option linter.unusedVariables false
set_option maxHeartbeats 1000000
open Go Go.RowKit
attribute [local irreducible] ICallV ICalls Recast rng
abbrev e_III (x : Int × Int × Int) : Value := .agg ⟨[(.int .i64 x.1), (.int .i64 x.2.1), (.int .i64 x.2.2)]⟩
instance {x : Int × Int × Int} : Cl (e_III x) := inferInstanceAs (Cl (.agg ⟨[(.int .i64 x.1), (.int .i64 x.2.1), (.int .i64 x.2.2)]⟩))
noncomputable def f178  (a0 : List (Int × Int × Int)) : Option Bool :=
 some (ile ((a0.map e_III).length : Int) (14 : Int))
theorem c178  {a0 : List (Int × Int × Int)} {x : Bool} (H : f178 a0 = some x) : ICalls E 178 [(VS 3 (a0.map e_III))] AHeap.none fun v _ => v = (.bool x) := by
 refine icalls_fn (pfnw ?_);unfold f178 at H;refine R ?_;cases H;rfl
noncomputable def f53  (a0 : List (Int × Int × Int)) : Option ((List (Int × Int × Int))) :=
 ogrd (fits 24 (([] : List (Int × Int × Int)).length + a0.length)) (
 some (([] : List (Int × Int × Int)) ++ a0))
theorem c53  {a0 : List (Int × Int × Int)} {x : (List (Int × Int × Int))} (H : f53 a0 = some x) : ICalls E 53 [(VS 3 (a0.map e_III))] AHeap.none fun v _ => v = (VS 3 (x.map e_III)) := by
 refine ICalls.frz ?_;refine icalls_fn (pfnw ?_);unfold f53 at H;refine R ?_;refine app_o (l := ([] : List (Int × Int × Int))) (m := a0) (f := e_III) H (by rfl) (by rfl) (by rfl) (fun H => ?_);refine R ?_;cases H;show ∃ D, Fz _ D 0 (VT 3 _ 0) _;exact ⟨fun _ => false, .vtc⟩
noncomputable def f64  (a0 : Bool) (a1 : Int) : Option Int :=
 oite a0 (
 some (0 : Int)
 ) (
 some a1)
theorem c64  {a0 : Bool} {a1 : Int} {x : Int} (H : f64 a0 a1 = some x) : ICalls E 64 [(.bool a0), (iV a1)] AHeap.none fun v _ => v = (iV x) := by
 refine icalls_fn (pfnw ?_);unfold f64 at H;refine R ?_;refine pw_seq ?_;refine R ?_;refine pbr_oite H (fun g1 H => ?_) (fun g1 H => ?_)
 · refine R ?_;cases H;rfl
 · refine R ?_;cases H;rfl
noncomputable def f63 [LO]  (a0 : List Int) : Option Int :=
 obndS (
 oloop (τ := Int) (ρ := (Unit) ⊕ Int) (fun e5 =>
 oite ((ilt e5 ((a0.map eI).length : Int))) (
 ogrd ((ile 0 e5)) (
 obnd (a0[e5.toNat]?) fun (x10 : Int) =>
 oite ((!(ieq x10 (0 : Int)))) (
 some (.inr (.inr (x10)))
 ) (
 some (.inl (IntKind.i64.wrap (e5 + (1 : Int))))))
 ) (
 some (.inr (.inl ())))
 ) (0 : Int)
 ) fun (_ : Unit) =>
 some (0 : Int)
theorem c63 [LO]  {a0 : List Int} {x : Int} (H : f63 a0 = some x) : ICalls E 63 [(VS 1 (a0.map eI))] AHeap.none fun v _ => v = (iV x) := by
 refine icalls_fn (pfnw ?_);unfold f63 at H;refine R ?_;obtain ⟨r1, h2, h3, h4⟩ := obndS_some H;refine pw_joinS (ρ := Unit) (fun e => ⟨[], ⟨0, [], false⟩⟩) r1 ?_ ?_
 · refine R ?_;refine pw_loop (τ := Int) (fun e => ⟨[(5, (VS 1 (a0.map eI))), (6, (iV ((a0.map eI).length : Int))), (7, (iV e))], ⟨0, [], false⟩⟩) h2 ?_ (fun _ => nl rfl) ?_
   · exact sb
   · intro e5 x6 h7;refine R ?_;refine pw_seq ?_;refine R ?_;refine pbr_oite h7 (fun g8 h7 => ?_) (fun g8 h7 => ?_)
     · refine R ?_;refine pw_seq ?_;refine R ?_;refine pbr_ogrd h7 (fun g9 h7 => ?_);refine R ?_;refine nth_o (l := a0) h7 (fun x10 _ h7 => ?_);refine R ?_;refine pbr_oite h7 (fun g11 h7 => ?_) (fun g11 h7 => ?_)
       · refine R ?_;cases h7;refine ⟨_, rfl, ?_⟩;rintro rfl;refine R ?_;obtain rfl := h4 _ rfl;rfl
       · refine R ?_;cases h7;refine ⟨_, rfl, ?_⟩;exact sb
     · refine R ?_;cases h7;refine ⟨_, rfl, ?_⟩;rintro rfl;refine R ?_;exact ⟨_, rfl, cr⟩
 · intro r14 hr;have H := h3 _ hr;refine R ?_;cases H;rfl
noncomputable def f65  (a0 : Int) (a1 : Int) (a2 : Int) : Option Bool :=
 obnd (
 oite ((ile a1 a0)) (
 some (ile a0 a2)
 ) (
 some false)
 ) fun (r1 : Bool) =>
 some r1
theorem c65  {a0 : Int} {a1 : Int} {a2 : Int} {x : Bool} (H : f65 a0 a1 a2 = some x) : ICalls E 65 [(iV a0), (iV a1), (iV a2)] AHeap.none fun v _ => v = (.bool x) := by
 refine icalls_fn (pfnw ?_); unfold f65 at H;(conv=>whnf);refine pwa ?_;(conv=>whnf);refine pw_so ?_;refine po_ops 4 ?_;(conv=>whnf);obtain ⟨r1, h2, H⟩ := obnd_some H;refine po_seg (τ := Bool) 4 (fun e => ⟨[(14, (.bool e))], ⟨0, [], false⟩⟩) r1 ?_ ?_
 · refine R ?_;refine pbr_oite h2 (fun g3 h2 => ?_) (fun g3 h2 => ?_)
   · refine R ?_;cases h2;exact cr
   · refine R ?_;cases h2;exact cr
 · refine R ?_;cases H;rfl
noncomputable def f78  (a0 : Int) (a1 : Int) : Option Bool :=
 obnd (f65 a0 (IntKind.i64.wrap (0 - a1)) a1) fun (y1 : Bool) =>
 some y1
theorem c78  {a0 : Int} {a1 : Int} {x : Bool} (H : f78 a0 a1 = some x) : ICalls E 78 [(iV a0), (iV a1)] AHeap.none fun v _ => v = (.bool x) := by
 refine icalls_fn (pfnw ?_);unfold f78 at H;refine R ?_;obtain ⟨y1, h2, H⟩ := obnd_some H;refine (c65 h2).go ?_;refine R ?_;cases H;rfl
noncomputable def f33  (a0 : Int) (a1 : Int) (a2 : Int) : Option Int :=
 obnd (f65 a0 (0 : Int) (36000 : Int)) fun (y1 : Bool) =>
 obnd (
 oite y1 (
 obnd (f78 a1 (50 : Int)) fun (y6 : Bool) =>
 some y6
 ) (
 some false)
 ) fun (r3 : Bool) =>
 obnd (
 oite r3 (
 obnd (f78 a2 (2000 : Int)) fun (y11 : Bool) =>
 some y11
 ) (
 some false)
 ) fun (r8 : Bool) =>
 obnd (f64 r8 (2 : Int)) fun (y13 : Int) =>
 some y13
theorem c33  {a0 : Int} {a1 : Int} {a2 : Int} {x : Int} (H : f33 a0 a1 a2 = some x) : ICalls E 33 [(.agg ⟨[(iV a0), (iV a1), (iV a2)]⟩)] AHeap.none fun v _ => v = (iV x) := by
 refine icalls_fn (pfnw ?_); unfold f33 at H;(conv=>whnf);refine pwa ?_;(conv=>whnf);refine pw_so ?_;refine po_ops 4 ?_;(conv=>whnf);obtain ⟨y1, h2, H⟩ := obnd_some H;refine (c65 h2).go ?_;(conv=>whnf);obtain ⟨r3, h4, H⟩ := obnd_some H;refine po_seg (τ := Bool) 4 (fun e => ⟨[(1, (pV 0 0)), (10, (.bool e))], ⟨1, [(0, .rw [(iV a0), (iV a1), (iV a2)])], false⟩⟩) r3 ?_ ?_
 · refine R ?_;refine pbr_oite h4 (fun g5 h4 => ?_) (fun g5 h4 => ?_)
   · refine R ?_;obtain ⟨y6, h7, h4⟩ := obnd_some h4;refine (c78 h7).go ?_;refine R ?_;cases h4;exact cr
   · refine R ?_;cases h4;exact cr
 · refine po_ops 1 ?_;(conv=>whnf);obtain ⟨r8, h9, H⟩ := obnd_some H;refine po_seg (τ := Bool) 4 (fun e => ⟨[(15, (.bool e))], ⟨1, [(0, .rw [(iV a0), (iV a1), (iV a2)])], false⟩⟩) r8 ?_ ?_
   · refine R ?_;refine pbr_oite h9 (fun g10 h9 => ?_) (fun g10 h9 => ?_)
     · refine R ?_;obtain ⟨y11, h12, h9⟩ := obnd_some h9;refine (c78 h12).go ?_;refine R ?_;cases h9;exact cr
     · refine R ?_;cases h9;exact cr
   · refine R ?_;obtain ⟨y13, h14, H⟩ := obnd_some H;refine (c64 h14).go ?_;refine R ?_;cases H;rfl
noncomputable def f93 [LO]  (a0 : List (Int × Int × Int)) : Option Int :=
 obnd (f64 ((ilt (0 : Int) ((a0.map e_III).length : Int))) (10 : Int)) fun (y1 : Int) =>
 obnd (f64 ((ile ((a0.map e_III).length : Int) (12 : Int))) (8 : Int)) fun (y3 : Int) =>
 obnd (f63 ([y1, y3] : List Int)) fun (y5 : Int) =>
 obnd (
 oloop (τ := Int × Int) (ρ := Int) (fun e11 =>
 oite ((ilt e11.2 ((a0.map e_III).length : Int))) (
 oite ((ieq e11.1 (0 : Int))) (
 ogrd ((ile 0 e11.2)) (
 obnd (a0[e11.2.toNat]?) fun (x17 : Int × Int × Int) =>
 obnd (f33 x17.1 x17.2.1 x17.2.2) fun (y18 : Int) =>
 some (.inl (y18, (IntKind.i64.wrap (e11.2 + (1 : Int))))))
 ) (
 some (.inr (e11.1)))
 ) (
 some (.inr (e11.1)))
 ) (y5, (0 : Int))
 ) fun (r7 : Int) =>
 some r7
theorem c93 [LO]  {a0 : List (Int × Int × Int)} {x : Int} (H : f93 a0 = some x) : ICalls E 93 [(VS 3 (a0.map e_III))] AHeap.none fun v _ => v = (iV x) := by
 refine icalls_fn (pfnw ?_);unfold f93 at H;refine R ?_;obtain ⟨y1, h2, H⟩ := obnd_some H;refine (c64 h2).go ?_;refine R ?_;obtain ⟨y3, h4, H⟩ := obnd_some H;refine (c64 h4).go ?_;refine R ?_;obtain ⟨y5, h6, H⟩ := obnd_some H;refine ICalls.goW (c63 h6) (.cons (.vt _ _ _) .nil) ?_;refine R ?_;obtain ⟨r7, h8, H⟩ := obnd_some H;refine pw_join (ρ := Int) (fun e => ⟨[(3, (iV e))], ⟨1, [(0, .tail 2 1)], false⟩⟩) r7 ?_ ?_
 · refine R ?_;refine pw_loop (τ := Int × Int) (fun e => ⟨[(0, (VS 3 (a0.map e_III))), (3, (iV e.1)), (4, (iV e.2))], ⟨1, [(0, .tail 2 1)], false⟩⟩) h8 ?_ (fun _ => nl rfl) ?_
   · exact sb
   · intro e11 x12 h13;refine pw_seq ?_;refine R ?_;refine pbr_oite h13 (fun g14 h13 => ?_) (fun g14 h13 => ?_)
     · refine R ?_;refine pbr_oite h13 (fun g15 h13 => ?_) (fun g15 h13 => ?_)
       · refine R ?_;refine pw_seq ?_;refine R ?_;refine pbr_ogrd h13 (fun g16 h13 => ?_);refine R ?_;refine nth_o (l := a0) h13 (fun x17 _ h13 => ?_);refine R ?_;obtain ⟨y18, h19, h13⟩ := obnd_some h13;refine (c33 h19).go ?_;refine R ?_;cases h13;refine ⟨_, rfl, ?_⟩;exact sb
       · refine R ?_;cases h13;refine ⟨_, rfl, ?_⟩;rintro rfl;refine R ?_;exact cr
     · refine R ?_;cases h13;refine ⟨_, rfl, ?_⟩;rintro rfl;refine R ?_;exact cr
 · refine R ?_;cases H;rfl
noncomputable def f94  (a0 : Int) : Option Int :=
 obnd (f65 a0 (1 : Int) (31 : Int)) fun (y1 : Bool) =>
 obnd (f64 y1 (2 : Int)) fun (y3 : Int) =>
 some y3
theorem c94  {a0 : Int} {x : Int} (H : f94 a0 = some x) : ICalls E 94 [(iV a0)] AHeap.none fun v _ => v = (iV x) := by
 refine icalls_fn (pfnw ?_);unfold f94 at H;refine R ?_;obtain ⟨y1, h2, H⟩ := obnd_some H;refine (c65 h2).go ?_;refine R ?_;obtain ⟨y3, h4, H⟩ := obnd_some H;refine (c64 h4).go ?_;refine R ?_;cases H;rfl
noncomputable def f114  (a0 : Int) (a1 : Int) : Option Bool :=
 ogrd (!((ilt a1 0))) (
 some (ieq (IntKind.i64.wrap (BitVec.ofInt (IntKind.bits .i64) (a0.fdiv (2 ^ (min a1.toNat (IntKind.bits .i64)))) &&& BitVec.ofInt (IntKind.bits .i64) (1 : Int)).toNat) (1 : Int)))
theorem c114  {a0 : Int} {a1 : Int} {x : Bool} (H : f114 a0 a1 = some x) : ICalls E 114 [(iV a0), (iV a1)] AHeap.none fun v _ => v = (.bool x) := by
 refine icalls_fn (pfnw ?_);unfold f114 at H;refine R ?_;refine pbr_ogrdn H (fun g1 H => ?_);refine R ?_;cases H;rfl
noncomputable def f95 [LO]  (a0 : Int) : Option ((List Int)) :=
 obnd (
 oloop (τ := (List Int) × Int) (ρ := (List Int)) (fun e5 =>
 oite ((ilt e5.2 (5 : Int))) (
 obnd (f114 a0 e5.2) fun (y9 : Bool) =>
 oite y9 (
 ogrd (fits 8 (e5.1.length + ([e5.2] : List Int).length)) (
 some (.inl (((e5.1 ++ ([e5.2] : List Int)), (IntKind.i64.wrap (e5.2 + (1 : Int)))))))
 ) (
 some (.inl (e5.1, (IntKind.i64.wrap (e5.2 + (1 : Int))))))
 ) (
 some (.inr (e5.1)))
 ) ((([] : List Int), (0 : Int)))
 ) fun (r1 : (List Int)) =>
 some r1
theorem c95 [LO]  {a0 : Int} {x : (List Int)} (H : f95 a0 = some x) : ICalls E 95 [(iV a0)] AHeap.none fun v _ => v = (VS 1 (x.map eI)) := by
 refine ICalls.frz ?_;refine icalls_fn (pfnw ?_);unfold f95 at H;refine R ?_;obtain ⟨r1, h2, H⟩ := obnd_some H;refine pw_join (ρ := (List Int)) (fun e => ⟨[(3, (VT 1 (e.map eI) 0))], ⟨1, [(0, .tail (e.map eI).length 1)], false⟩⟩) r1 ?_ ?_
 · refine R ?_;refine pw_loop (τ := (List Int) × Int) (fun e => ⟨[(0, (iV a0)), (3, (VT 1 (e.1.map eI) 0)), (5, (iV e.2))], ⟨1, [(0, .tail (e.1.map eI).length 1)], false⟩⟩) h2 ?_ (fun _ => nl rfl) ?_
   · exact (Recast.nilTs 1 (nl rfl) (.same rfl (.turn rfl (.same rfl .nil))))
   · intro e5 x6 h7;refine R ?_;refine pw_seq ?_;refine R ?_;refine pbr_oite h7 (fun g8 h7 => ?_) (fun g8 h7 => ?_)
     · refine R ?_;refine pw_seq ?_;refine R ?_;obtain ⟨y9, h10, h7⟩ := obnd_some h7;refine (c114 h10).go ?_;refine R ?_;refine pbr_oite h7 (fun g11 h7 => ?_) (fun g11 h7 => ?_)
       · refine R ?_;refine app_o (l := e5.1) (m := ([e5.2] : List Int)) (f := eI) h7 (by rfl) (by rfl) (by rfl) (fun h7 => ?_);refine R ?_;cases h7;refine ⟨_, rfl, ?_⟩;refine Recast.trunc (nl rfl) ?_ ?_
         · repeat (first | exact .nil | refine .cons rfl (by first | exact OBnd.rwc (nl rfl) rfl | exact OBnd.tail (nl rfl) | trivial) ?_)
         · repeat (first | exact .nil | refine .cons rfl (by first | exact Bnd.ptr (nl rfl) | exact Bnd.vt (nl rfl) | exact Bnd.cl) ?_)
       · refine R ?_;cases h7;refine ⟨_, rfl, ?_⟩;exact sb
     · refine R ?_;cases h7;refine ⟨_, rfl, ?_⟩;rintro rfl;refine R ?_;exact cr
 · refine R ?_;cases H;show ∃ D, Fz _ D 0 (VT 1 _ 0) _;exact ⟨fun _ => false, .vtc⟩
noncomputable def f77  (a0 : Int) (a1 : Int) (_ : Int) : Option (Int × Int × Int × Int × Int) :=
 ogrd ((ile 0 (IntKind.i64.wrap ((IntKind.i64.wrap ((a0.tmod (360 : Int)) * (4 : Int))).tdiv (360 : Int))))) (
 ogrd ((ilt (IntKind.i64.wrap ((IntKind.i64.wrap ((a0.tmod (360 : Int)) * (4 : Int))).tdiv (360 : Int))) 4)) (
 obnd (([((1 : Int), (0 : Int)), ((0 : Int), (1 : Int)), ((-1 : Int), (0 : Int)), ((0 : Int), (-1 : Int))] : List (Int × Int))[(IntKind.i64.wrap ((IntKind.i64.wrap ((a0.tmod (360 : Int)) * (4 : Int))).tdiv (360 : Int))).toNat]?) fun (x3 : Int × Int) =>
 some ((1 : Int), a1, x3.1, x3.2, (IntKind.i64.wrap (a0.tdiv (360 : Int))))))
theorem c77  {a0 : Int} {a1 : Int} {a2 : Int} {x : Int × Int × Int × Int × Int} (H : f77 a0 a1 a2 = some x) : ICalls E 77 [(.agg ⟨[(iV a0), (iV a1), (iV a2)]⟩)] AHeap.none fun v _ => v = (.agg ⟨[(iV x.1), (iV x.2.1), (iV x.2.2.1), (iV x.2.2.2.1), (iV x.2.2.2.2)]⟩) := by
 refine icalls_fn (pfnw ?_);unfold f77 at H;refine R ?_;refine pbr_ogrd H (fun g1 H => ?_);refine R ?_;refine pbr_ogrd H (fun g2 H => ?_);refine R ?_;refine agg_o (l := ([((1 : Int), (0 : Int)), ((0 : Int), (1 : Int)), ((-1 : Int), (0 : Int)), ((0 : Int), (-1 : Int))] : List (Int × Int))) (f := (fun x => [(iV x.1), (iV x.2)])) H rfl (fun _ => rfl) (fun x3 _ H => ?_);refine R ?_;cases H;rfl
noncomputable def f100  (a0 : Int) : Option Int :=
 some (imax a0 (IntKind.i64.wrap (0 - a0)))
theorem c100  {a0 : Int} {x : Int} (H : f100 a0 = some x) : ICalls E 100 [(iV a0)] AHeap.none fun v _ => v = (iV x) := by
 refine icalls_fn (pfnw ?_);unfold f100 at H;refine R ?_;cases H;rfl
noncomputable def f97 [LO]  (a0 : Int) (a1 : Int) (a2 : Int) (a3 : Int) (a4 : Int) (a5 : Int) : Option Int :=
 obnd (
 obnd (
 oloop (τ := Int × Int) (ρ := Int) (fun e9 =>
 oite ((!(ieq e9.2 (0 : Int)))) (
 ogrd (!((ieq e9.2 0))) (
 some (.inl (e9.2, (e9.1.tmod e9.2))))
 ) (
 some (.inr (e9.1)))
 ) (a0, a1)
 ) fun (r5 : Int) =>
 obnd (
 oloop (τ := Int × Int) (ρ := Int) (fun e19 =>
 oite ((!(ieq e19.2 (0 : Int)))) (
 ogrd (!((ieq e19.2 0))) (
 some (.inl (e19.2, (e19.1.tmod e19.2))))
 ) (
 some (.inr (e19.1)))
 ) (r5, a2)
 ) fun (r15 : Int) =>
 obnd (
 oloop (τ := Int × Int) (ρ := Int) (fun e29 =>
 oite ((!(ieq e29.2 (0 : Int)))) (
 ogrd (!((ieq e29.2 0))) (
 some (.inl (e29.2, (e29.1.tmod e29.2))))
 ) (
 some (.inr (e29.1)))
 ) (r15, a3)
 ) fun (r25 : Int) =>
 obnd (
 oloop (τ := Int × Int) (ρ := Int) (fun e39 =>
 oite ((!(ieq e39.2 (0 : Int)))) (
 ogrd (!((ieq e39.2 0))) (
 some (.inl (e39.2, (e39.1.tmod e39.2))))
 ) (
 some (.inr (e39.1)))
 ) (r25, a4)
 ) fun (r35 : Int) =>
 obnd (
 oloop (τ := Int × Int) (ρ := Int) (fun e49 =>
 oite ((!(ieq e49.2 (0 : Int)))) (
 ogrd (!((ieq e49.2 0))) (
 some (.inl (e49.2, (e49.1.tmod e49.2))))
 ) (
 some (.inr (e49.1)))
 ) (r35, a5)
 ) fun (r45 : Int) =>
 some r45
 ) fun (r1 : Int) =>
 obnd (f100 r1) fun (y55 : Int) =>
 some y55
theorem c97 [LO]  {a0 : Int} {a1 : Int} {a2 : Int} {a3 : Int} {a4 : Int} {a5 : Int} {x : Int} (H : f97 a0 a1 a2 a3 a4 a5 = some x) : ICalls E 97 [(.agg ⟨[(iV a0), (iV a1), (iV a2), (iV a3), (iV a4), (iV a5)]⟩)] AHeap.none fun v _ => v = (iV x) := by
 refine icalls_fn (pfnw ?_);unfold f97 at H;refine R ?_;obtain ⟨r1, h2, H⟩ := obnd_some H;refine pw_join (ρ := Int) (fun e => ⟨[(3, (iV e))], ⟨1, [(0, .rw [(iV a0), (iV a1), (iV a2), (iV a3), (iV a4), (iV a5)])], false⟩⟩) r1 ?_ ?_
 · refine R ?_;refine pw_unroll 6 ?_;refine R ?_;refine pw_seq ?_;refine R ?_;obtain ⟨r5, h6, h2⟩ := obnd_some h2;refine pw_join (ρ := Int) (fun e => ⟨[(3, (iV e)), (9, (.agg ⟨[(iV a1), (iV a2), (iV a3), (iV a4), (iV a5)]⟩)), (10, (iV 0))], ⟨1, [(0, .rw [(iV a0), (iV a1), (iV a2), (iV a3), (iV a4), (iV a5)])], false⟩⟩) r5 ?_ ?_
   · refine R ?_;refine pw_loop (τ := Int × Int) (fun e => ⟨[(3, (iV e.1)), (5, (iV e.2)), (9, (.agg ⟨[(iV a1), (iV a2), (iV a3), (iV a4), (iV a5)]⟩)), (10, (iV 0))], ⟨1, [(0, .rw [(iV a0), (iV a1), (iV a2), (iV a3), (iV a4), (iV a5)])], false⟩⟩) h6 ?_ (fun _ => nl rfl) ?_
     · exact sb
     · intro e9 x10 h11;refine pw_seq ?_;refine R ?_;refine pbr_oite h11 (fun g12 h11 => ?_) (fun g12 h11 => ?_)
       · refine R ?_;refine pbr_ogrdn h11 (fun g13 h11 => ?_);refine R ?_;refine aR ?_;refine R ?_;refine aR ?_;refine R ?_;cases h11;refine ⟨_, rfl, ?_⟩;exact sb
       · refine R ?_;cases h11;refine ⟨_, rfl, ?_⟩;rintro rfl;refine R ?_;exact cr
   · refine R ?_;refine ⟨_, .refl, nl rfl, ?_⟩;refine R ?_;refine pw_seq ?_;refine R ?_;obtain ⟨r15, h16, h2⟩ := obnd_some h2;refine pw_join (ρ := Int) (fun e => ⟨[(3, (iV e)), (9, (.agg ⟨[(iV a1), (iV a2), (iV a3), (iV a4), (iV a5)]⟩)), (10, (iV 1))], ⟨1, [(0, .rw [(iV a0), (iV a1), (iV a2), (iV a3), (iV a4), (iV a5)])], false⟩⟩) r15 ?_ ?_
     · refine R ?_;refine pw_loop (τ := Int × Int) (fun e => ⟨[(3, (iV e.1)), (5, (iV e.2)), (9, (.agg ⟨[(iV a1), (iV a2), (iV a3), (iV a4), (iV a5)]⟩)), (10, (iV 1))], ⟨1, [(0, .rw [(iV a0), (iV a1), (iV a2), (iV a3), (iV a4), (iV a5)])], false⟩⟩) h16 ?_ (fun _ => nl rfl) ?_
       · exact sb
       · intro e19 x20 h21;refine pw_seq ?_;refine R ?_;refine pbr_oite h21 (fun g22 h21 => ?_) (fun g22 h21 => ?_)
         · refine R ?_;refine pbr_ogrdn h21 (fun g23 h21 => ?_);refine R ?_;refine aR ?_;refine R ?_;refine aR ?_;refine R ?_;cases h21;refine ⟨_, rfl, ?_⟩;exact sb
         · refine R ?_;cases h21;refine ⟨_, rfl, ?_⟩;rintro rfl;refine R ?_;exact cr
     · refine R ?_;refine ⟨_, .refl, nl rfl, ?_⟩;refine R ?_;refine pw_seq ?_;refine R ?_;obtain ⟨r25, h26, h2⟩ := obnd_some h2;refine pw_join (ρ := Int) (fun e => ⟨[(3, (iV e)), (9, (.agg ⟨[(iV a1), (iV a2), (iV a3), (iV a4), (iV a5)]⟩)), (10, (iV 2))], ⟨1, [(0, .rw [(iV a0), (iV a1), (iV a2), (iV a3), (iV a4), (iV a5)])], false⟩⟩) r25 ?_ ?_
       · refine R ?_;refine pw_loop (τ := Int × Int) (fun e => ⟨[(3, (iV e.1)), (5, (iV e.2)), (9, (.agg ⟨[(iV a1), (iV a2), (iV a3), (iV a4), (iV a5)]⟩)), (10, (iV 2))], ⟨1, [(0, .rw [(iV a0), (iV a1), (iV a2), (iV a3), (iV a4), (iV a5)])], false⟩⟩) h26 ?_ (fun _ => nl rfl) ?_
         · exact sb
         · intro e29 x30 h31;refine pw_seq ?_;refine R ?_;refine pbr_oite h31 (fun g32 h31 => ?_) (fun g32 h31 => ?_)
           · refine R ?_;refine pbr_ogrdn h31 (fun g33 h31 => ?_);refine R ?_;refine aR ?_;refine R ?_;refine aR ?_;refine R ?_;cases h31;refine ⟨_, rfl, ?_⟩;exact sb
           · refine R ?_;cases h31;refine ⟨_, rfl, ?_⟩;rintro rfl;refine R ?_;exact cr
       · refine R ?_;refine ⟨_, .refl, nl rfl, ?_⟩;refine R ?_;refine pw_seq ?_;refine R ?_;obtain ⟨r35, h36, h2⟩ := obnd_some h2;refine pw_join (ρ := Int) (fun e => ⟨[(3, (iV e)), (9, (.agg ⟨[(iV a1), (iV a2), (iV a3), (iV a4), (iV a5)]⟩)), (10, (iV 3))], ⟨1, [(0, .rw [(iV a0), (iV a1), (iV a2), (iV a3), (iV a4), (iV a5)])], false⟩⟩) r35 ?_ ?_
         · refine R ?_;refine pw_loop (τ := Int × Int) (fun e => ⟨[(3, (iV e.1)), (5, (iV e.2)), (9, (.agg ⟨[(iV a1), (iV a2), (iV a3), (iV a4), (iV a5)]⟩)), (10, (iV 3))], ⟨1, [(0, .rw [(iV a0), (iV a1), (iV a2), (iV a3), (iV a4), (iV a5)])], false⟩⟩) h36 ?_ (fun _ => nl rfl) ?_
           · exact sb
           · intro e39 x40 h41;refine pw_seq ?_;refine R ?_;refine pbr_oite h41 (fun g42 h41 => ?_) (fun g42 h41 => ?_)
             · refine R ?_;refine pbr_ogrdn h41 (fun g43 h41 => ?_);refine R ?_;refine aR ?_;refine R ?_;refine aR ?_;refine R ?_;cases h41;refine ⟨_, rfl, ?_⟩;exact sb
             · refine R ?_;cases h41;refine ⟨_, rfl, ?_⟩;rintro rfl;refine R ?_;exact cr
         · refine R ?_;refine ⟨_, .refl, nl rfl, ?_⟩;refine R ?_;refine pw_seq ?_;refine R ?_;obtain ⟨r45, h46, h2⟩ := obnd_some h2;refine pw_join (ρ := Int) (fun e => ⟨[(3, (iV e)), (9, (.agg ⟨[(iV a1), (iV a2), (iV a3), (iV a4), (iV a5)]⟩)), (10, (iV 4))], ⟨1, [(0, .rw [(iV a0), (iV a1), (iV a2), (iV a3), (iV a4), (iV a5)])], false⟩⟩) r45 ?_ ?_
           · refine R ?_;refine pw_loop (τ := Int × Int) (fun e => ⟨[(3, (iV e.1)), (5, (iV e.2)), (9, (.agg ⟨[(iV a1), (iV a2), (iV a3), (iV a4), (iV a5)]⟩)), (10, (iV 4))], ⟨1, [(0, .rw [(iV a0), (iV a1), (iV a2), (iV a3), (iV a4), (iV a5)])], false⟩⟩) h46 ?_ (fun _ => nl rfl) ?_
             · exact sb
             · intro e49 x50 h51;refine pw_seq ?_;refine R ?_;refine pbr_oite h51 (fun g52 h51 => ?_) (fun g52 h51 => ?_)
               · refine R ?_;refine pbr_ogrdn h51 (fun g53 h51 => ?_);refine R ?_;refine aR ?_;refine R ?_;refine aR ?_;refine R ?_;cases h51;refine ⟨_, rfl, ?_⟩;exact sb
               · refine R ?_;cases h51;refine ⟨_, rfl, ?_⟩;rintro rfl;refine R ?_;exact cr
           · refine R ?_;refine ⟨_, .refl, nl rfl, ?_⟩;refine R ?_;refine pw_seq ?_;refine R ?_;cases h2;exact cr
 · refine R ?_;obtain ⟨y55, h56, H⟩ := obnd_some H;refine (c100 h56).go ?_;refine R ?_;cases H;rfl
noncomputable def f70 [LO] (p0 : Int → Option Bool) (a0 : List Int) : Option Int :=
 obndS (
 oloop (τ := Int) (ρ := (Unit) ⊕ Int) (fun e5 =>
 oite ((ilt e5 ((a0.map eI).length : Int))) (
 ogrd ((ile 0 e5)) (
 obnd (a0[e5.toNat]?) fun (x10 : Int) =>
 obnd (p0 x10) fun (y11 : Bool) =>
 oite y11 (
 some (.inr (.inr (e5)))
 ) (
 some (.inl (IntKind.i64.wrap (e5 + (1 : Int))))))
 ) (
 some (.inr (.inl ())))
 ) (0 : Int)
 ) fun (_ : Unit) =>
 some (-1 : Int)
theorem c70 [LO] {p0 : Int → Option Bool} {a0 : List Int} {g0 : Value} [Cl g0] (hp0 : ∀ y0 y, p0 y0 = some y → ICallV E g0 [(iV y0)] AHeap.none fun v _ => v = (.bool y)) {x : Int} (H : f70 p0 a0 = some x) : ICalls E 70 [(VS 1 (a0.map eI)), g0] AHeap.none fun v _ => v = (iV x) := by
 refine icalls_fn (pfnw ?_);unfold f70 at H;refine R ?_;obtain ⟨r1, h2, h3, h4⟩ := obndS_some H;refine pw_joinS (ρ := Unit) (fun e => ⟨[], ⟨0, [], false⟩⟩) r1 ?_ ?_
 · refine R ?_;refine pw_loop (τ := Int) (fun e => ⟨[(0, (VS 1 (a0.map eI))), (1, g0), (7, (iV ((a0.map eI).length : Int))), (8, (iV e))], ⟨0, [], false⟩⟩) h2 ?_ (fun _ => nl rfl) ?_
   · exact sb
   · intro e5 x6 h7;refine R ?_;refine pw_seq ?_;refine R ?_;refine pbr_oite h7 (fun g8 h7 => ?_) (fun g8 h7 => ?_)
     · refine R ?_;refine pw_seq ?_;refine R ?_;refine pbr_ogrd h7 (fun g9 h7 => ?_);refine R ?_;refine nth_o (l := a0) h7 (fun x10 _ h7 => ?_);refine R ?_;obtain ⟨y11, h12, h7⟩ := obnd_some h7;refine ICallV.go (hp0 _ _ h12) ?_;refine R ?_;refine pbr_oite h7 (fun g13 h7 => ?_) (fun g13 h7 => ?_)
       · refine R ?_;cases h7;refine ⟨_, rfl, ?_⟩;rintro rfl;refine R ?_;obtain rfl := h4 _ rfl;rfl
       · refine R ?_;cases h7;refine ⟨_, rfl, ?_⟩;exact sb
     · refine R ?_;cases h7;refine ⟨_, rfl, ?_⟩;rintro rfl;refine R ?_;exact ⟨_, rfl, cr⟩
 · intro r16 hr;have H := h3 _ hr;refine R ?_;cases H;rfl
noncomputable def f80 [LO] (p0 : Int → Option Bool) (a0 : List Int) : Option Bool :=
 obnd (f70 p0 a0) fun (y1 : Int) =>
 some (ile (0 : Int) y1)
theorem c80 [LO] {p0 : Int → Option Bool} {a0 : List Int} {g0 : Value} [Cl g0] (hp0 : ∀ y0 y, p0 y0 = some y → ICallV E g0 [(iV y0)] AHeap.none fun v _ => v = (.bool y)) {x : Bool} (H : f80 p0 a0 = some x) : ICalls E 80 [(VS 1 (a0.map eI)), g0] AHeap.none fun v _ => v = (.bool x) := by
 refine icalls_fn (pfnw ?_);unfold f80 at H;refine R ?_;obtain ⟨y1, h2, H⟩ := obnd_some H;refine (c70 hp0 h2).go ?_;refine R ?_;cases H;rfl
noncomputable def f116  (a0 : Int) : Option Bool :=
 obnd (f78 a0 (1000000000000 : Int)) fun (y1 : Bool) =>
 some (!y1)
theorem c116  {a0 : Int} {x : Bool} (H : f116 a0 = some x) : ICalls E 116 [(iV a0)] AHeap.none fun v _ => v = (.bool x) := by
 refine icalls_fn (pfnw ?_);unfold f116 at H;refine R ?_;obtain ⟨y1, h2, H⟩ := obnd_some H;refine (c78 h2).go ?_;refine R ?_;cases H;rfl
noncomputable def f98 [LO]  (a0 : Int) (a1 : Int) (a2 : Int) (a3 : Int) (a4 : Int) (a5 : Int) : Option Int :=
 obnd (f80 (fun (z0 : Int) => f116 z0) ([a1, a2, a3, a4, a5] : List Int)) fun (y1 : Bool) =>
 obnd (f65 a0 (1 : Int) (1000000000000 : Int)) fun (y3 : Bool) =>
 obnd (
 oite y3 (
 some (!y1)
 ) (
 some false)
 ) fun (r5 : Bool) =>
 obnd (f64 r5 (2 : Int)) fun (y8 : Int) =>
 some y8
theorem c98 [LO]  {a0 : Int} {a1 : Int} {a2 : Int} {a3 : Int} {a4 : Int} {a5 : Int} {x : Int} (H : f98 a0 a1 a2 a3 a4 a5 = some x) : ICalls E 98 [(.agg ⟨[(iV a0), (iV a1), (iV a2), (iV a3), (iV a4), (iV a5)]⟩)] AHeap.none fun v _ => v = (iV x) := by
 refine icalls_fn (pfnw ?_); unfold f98 at H;(conv=>whnf);refine pwa ?_;(conv=>whnf);refine pwa ?_;(conv=>whnf);obtain ⟨y1, h2, H⟩ := obnd_some H;refine ICalls.goD (c80 (fun _ _ h => (c116 h).asV) h2) (.cons (.sl1 rfl rfl (nl rfl) rfl (by intro v hv; replace hv : v ∈ ([(iV a1), (iV a2), (iV a3), (iV a4), (iV a5)] : List Value) := hv; simp only [List.mem_cons, List.not_mem_nil, or_false] at hv; rcases hv with rfl | rfl | rfl | rfl | rfl <;> rfl)) (.cons .cl .nil)) rfl ?_;(conv=>whnf);refine pw_so ?_;refine po_ops 4 ?_
 (conv=>whnf);obtain ⟨y3, h4, H⟩ := obnd_some H;refine (c65 h4).go ?_;(conv=>whnf);obtain ⟨r5, h6, H⟩ := obnd_some H;refine po_seg (τ := Bool) 3 (fun e => ⟨[(13, (.bool e))], ⟨1, [(0, .rw [(iV a0), (iV a1), (iV a2), (iV a3), (iV a4), (iV a5)])], false⟩⟩) r5 ?_ ?_
 · refine R ?_;refine pbr_oite h6 (fun g7 h6 => ?_) (fun g7 h6 => ?_)
   · refine R ?_;cases h6;exact cr
   · refine R ?_;cases h6;exact cr
 · refine R ?_;obtain ⟨y8, h9, H⟩ := obnd_some H;refine (c64 h9).go ?_;refine R ?_;cases H;rfl
noncomputable def f55 [LO]  (a0 : List (Int × Int × Int)) (a1 : Int) : Option (Int × Int × Int × Int × Int × Int × Int) :=
 obnd (f93 a0) fun (y1 : Int) =>
 obnd (f94 a1) fun (y3 : Int) =>
 obnd (f63 ([y1, y3] : List Int)) fun (y5 : Int) =>
 oite ((!(ieq y5 (0 : Int)))) (
 some ((0 : Int), (0 : Int), (0 : Int), (0 : Int), (0 : Int), (0 : Int), y5)
 ) (
 obnd (f95 a1) fun (y8 : (List Int)) =>
 obnd (
 ogrd (mfits 24 ((y8.map eI).length : Int) ((y8.map eI).length : Int)) (
 ogrd (mfits 8 ((y8.map eI).length : Int) ((y8.map eI).length : Int)) (
 some ()))
 ) fun (_ : Unit) =>
 obnd (
 oloop (τ := Int × (List ((List Int))) × (List Int)) (ρ := (List ((List Int))) × (List Int)) (fun e20 =>
 oite ((ilt e20.1 ((y8.map eI).length : Int))) (
 obnd (
 ogrd ((ile 0 e20.1)) (
 obnd (y8[e20.1.toNat]?) fun (x29 : Int) =>
 ogrd (mfits 8 ((y8.map eI).length : Int) ((y8.map eI).length : Int)) (
 ogrd ((ilt e20.1 (((y8.map eI).length : Int).toNat : Int))) (
 ogrd (Nat.blt e20.1.toNat e20.2.1.length) (
 oloop (τ := Int × (List Int) × (List Int)) (ρ := (List Int) × (List Int)) (fun e33 =>
 oite ((ilt e33.1 ((a0.map e_III).length : Int))) (
 obnd (
 ogrd ((ile 0 e33.1)) (
 obnd (a0[e33.1.toNat]?) fun (x42 : Int × Int × Int) =>
 obnd (f77 x42.1 x42.2.1 x42.2.2) fun (y43 : Int × Int × Int × Int × Int) =>
 obnd (e33.2.1[e20.1.toNat]?) fun (x45 : Int) =>
 ogrd ((ile 0 x29)) (
 ogrd ((ilt x29 5)) (
 obnd (([y43.1, y43.2.1, y43.2.2.1, y43.2.2.2.1, y43.2.2.2.2] : List Int)[(0 + x29.toNat * 1)]?) fun (x50 : Int) =>
 ogrd (Nat.blt e20.1.toNat e33.2.1.length) (
 oloop (τ := Int × (List Int)) (ρ := Int × Int × Int × Int × Int × Int × Int × Int × (List Int) × (List Int)) (fun e52 =>
 oite ((ilt e52.1 ((y8.map eI).length : Int))) (
 ogrd ((ile 0 e52.1)) (
 obnd (y8[e52.1.toNat]?) fun (x57 : Int) =>
 ogrd ((ilt e52.1 (((y8.map eI).length : Int).toNat : Int))) (
 obnd (e52.2[e52.1.toNat]?) fun (x59 : Int) =>
 obnd (([y43.1, y43.2.1, y43.2.2.1, y43.2.2.2.1, y43.2.2.2.2] : List Int)[(0 + x29.toNat * 1)]?) fun (x62 : Int) =>
 ogrd ((ile 0 x57)) (
 ogrd ((ilt x57 5)) (
 obnd (([y43.1, y43.2.1, y43.2.2.1, y43.2.2.2.1, y43.2.2.2.2] : List Int)[(0 + x57.toNat * 1)]?) fun (x65 : Int) =>
 ogrd (Nat.blt e52.1.toNat e52.2.length) (
 some (.inl (((IntKind.i64.wrap (e52.1 + (1 : Int))), (e52.2.set e52.1.toNat (IntKind.i64.wrap (x59 + (IntKind.i64.wrap (x62 * x65)))))))))))))
 ) (
 some (.inr ((x42.1, x42.2.1, x42.2.2, y43.1, y43.2.1, y43.2.2.1, y43.2.2.2.1, y43.2.2.2.2, (e33.2.1.set e20.1.toNat (IntKind.i64.wrap (x45 + (IntKind.i64.wrap (x50 * x42.2.2))))), e52.2))))
 ) ((0 : Int), e33.2.2)))))
 ) fun (r37 : Int × Int × Int × Int × Int × Int × Int × Int × (List Int) × (List Int)) =>
 some (.inl ((IntKind.i64.wrap (e33.1 + (1 : Int))), r37.2.2.2.2.2.2.2.2.1, r37.2.2.2.2.2.2.2.2.2))
 ) (
 some (.inr ((e33.2.1, e33.2.2))))
 ) (((0 : Int), e20.2.2, (List.replicate ((y8.map eI).length : Int).toNat (0 : Int))))))))
 ) fun (r24 : (List Int) × (List Int)) =>
 ogrd (Nat.beq ((y8.map eI).length : Int).toNat r24.2.length) (
 some (.inl (((IntKind.i64.wrap (e20.1 + (1 : Int))), (e20.2.1.set e20.1.toNat r24.2), r24.1))))
 ) (
 some (.inr ((e20.2.1, e20.2.2))))
 ) (((0 : Int), (List.replicate ((y8.map eI).length : Int).toNat ([] : List Int)), (List.replicate ((y8.map eI).length : Int).toNat (0 : Int))))
 ) fun (r16 : (List ((List Int))) × (List Int)) =>
 ogrd (Nat.beq ((y8.map eI).length : Int).toNat r16.1.length) (
 obnd (f96 r16.1) fun (y72 : Int) =>
 oite ((ieq y72 (0 : Int))) (
 some ((0 : Int), (0 : Int), (0 : Int), (0 : Int), (0 : Int), (0 : Int), (12 : Int))
 ) (
 obnd (
 oloop (τ := Int × Int × Int × Int × Int × Int) (ρ := Int × Int × Int × Int × Int) (fun e79 =>
 oite ((ilt e79.1 ((y8.map eI).length : Int))) (
 ogrd ((ile 0 e79.1)) (
 obnd (y8[e79.1.toNat]?) fun (x84 : Int) =>
 ogrd (mfits 24 (((y8.map eI).length : Int).toNat : Int) (((y8.map eI).length : Int).toNat : Int)) (
 obnd (
 oloop (τ := Int × (List ((List Int)))) (ρ := (List ((List Int)))) (fun e90 =>
 oite ((ilt e90.1 (((y8.map eI).length : Int).toNat : Int))) (
 ogrd ((ile 0 e90.1)) (
 obnd (r16.1[e90.1.toNat]?) fun (x95 : (List Int)) =>
 obnd (f73 x95) fun (y98 : (List Int)) =>
 ogrd ((ilt e90.1 ((((y8.map eI).length : Int).toNat : Int).toNat : Int))) (
 ogrd (Nat.blt e90.1.toNat e90.2.length) (
 obnd (r16.2[e90.1.toNat]?) fun (x102 : Int) =>
 ogrd ((ilt e79.1 (y98.length : Int))) (
 ogrd (Nat.blt e79.1.toNat y98.length) (
 ogrd (Nat.beq y98.length (y98.set e79.1.toNat x102).length) (
 some (.inl (((IntKind.i64.wrap (e90.1 + (1 : Int))), (e90.2.set e90.1.toNat (y98.set e79.1.toNat x102)))))))))))
 ) (
 some (.inr (e90.2)))
 ) (((0 : Int), (List.replicate (((y8.map eI).length : Int).toNat : Int).toNat ([] : List Int))))
 ) fun (r86 : (List ((List Int)))) =>
 ogrd (Nat.beq (((y8.map eI).length : Int).toNat : Int).toNat r86.length) (
 obnd (f96 r86) fun (y110 : Int) =>
 ogrd ((ile 0 x84)) (
 ogrd ((ilt x84 5)) (
 some (.inl (((IntKind.i64.wrap (e79.1 + (1 : Int))), (sel x84.toNat 0 y110 e79.2.1), (sel x84.toNat 1 y110 e79.2.2.1), (sel x84.toNat 2 y110 e79.2.2.2.1), (sel x84.toNat 3 y110 e79.2.2.2.2.1), (sel x84.toNat 4 y110 e79.2.2.2.2.2)))))))))
 ) (
 some (.inr ((e79.2.1, e79.2.2.1, e79.2.2.2.1, e79.2.2.2.2.1, e79.2.2.2.2.2))))
 ) (((0 : Int), (0 : Int), (0 : Int), (0 : Int), (0 : Int), (0 : Int)))
 ) fun (r75 : Int × Int × Int × Int × Int) =>
 obnd (f97 y72 r75.1 r75.2.1 r75.2.2.1 r75.2.2.2.1 r75.2.2.2.2) fun (y115 : Int) =>
 ogrd (!((ieq y115 0))) (
 obnd (
 some ()
 ) fun (_ : Unit) =>
 obnd (f98 (IntKind.i64.wrap (y72.tdiv y115)) (IntKind.i64.wrap (r75.1.tdiv y115)) (IntKind.i64.wrap (r75.2.1.tdiv y115)) (IntKind.i64.wrap (r75.2.2.1.tdiv y115)) (IntKind.i64.wrap (r75.2.2.2.1.tdiv y115)) (IntKind.i64.wrap (r75.2.2.2.2.tdiv y115))) fun (y122 : Int) =>
 oite ((!(ieq y122 (0 : Int)))) (
 some ((0 : Int), (0 : Int), (0 : Int), (0 : Int), (0 : Int), (0 : Int), (8 : Int))
 ) (
 some ((IntKind.i64.wrap (y72.tdiv y115)), (IntKind.i64.wrap (r75.1.tdiv y115)), (IntKind.i64.wrap (r75.2.1.tdiv y115)), (IntKind.i64.wrap (r75.2.2.1.tdiv y115)), (IntKind.i64.wrap (r75.2.2.2.1.tdiv y115)), (IntKind.i64.wrap (r75.2.2.2.2.tdiv y115)), (0 : Int)))))))
theorem c55 [LO]  {a0 : List (Int × Int × Int)} {a1 : Int} {x : Int × Int × Int × Int × Int × Int × Int} (H : f55 a0 a1 = some x) : ICalls E 55 [(VS 3 (a0.map e_III)), (iV a1)] AHeap.none fun v _ => v = (.tuple ⟨[(.agg ⟨[(iV x.1), (iV x.2.1), (iV x.2.2.1), (iV x.2.2.2.1), (iV x.2.2.2.2.1), (iV x.2.2.2.2.2.1)]⟩), (iV x.2.2.2.2.2.2)]⟩) := by
  refine icalls_fn (pfnw ?_);unfold f55 at H;refine R ?_;refine pw_seq ?_;refine R ?_;obtain ⟨y1, h2, H⟩ := obnd_some H;refine (c93 h2).go ?_;refine R ?_;obtain ⟨y3, h4, H⟩ := obnd_some H;refine (c94 h4).go ?_;refine R ?_;obtain ⟨y5, h6, H⟩ := obnd_some H;refine ICalls.goW (c63 h6) (.cons (.vt _ _ _) .nil) ?_;refine R ?_;refine pbr_oite H (fun g7 H => ?_) (fun g7 H => ?_)
  · refine R ?_;cases H;rfl
  · (conv=>whnf);refine pw_skip ?_;(conv=>whnf);refine pwa ?_;(conv=>whnf);obtain ⟨y8, h9, H⟩ := obnd_some H;refine (c95 h9).go ?_;(conv=>whnf);obtain ⟨r10, h11, H⟩ := obnd_some H;refine pw_joinR (ρ := Unit) (fun e => ⟨[(0, (VS 3 (a0.map e_III))), (4, (pV 0 0)), (8, (VS 1 (y8.map eI))), (9, (.slice (some ⟨2, 0, none⟩) ((y8.map eI).length : Int).toNat 1)), (10, (.slice (some ⟨3, 0, none⟩) ((y8.map eI).length : Int).toNat 1))], ⟨4, [(3, .rw ((List.replicate ((y8.map eI).length : Int).toNat (0 : Int)).map eI)), (2, .rw ((List.replicate ((y8.map eI).length : Int).toNat ([] : List Int)).map e_L1I)), (1, .tail 2 1), (0, .rw [(iV 0), (iV 0), (iV 0), (iV 0), (iV 0), (iV 0)])], false⟩⟩) r10 ?_ ?_
    · refine R ?_;refine ⟨?_, ?_⟩
      · refine R ?_;obtain ⟨g14, h11⟩ := ogrd_some h11;refine mk_n g14 ?_;refine R ?_;refine aR ?_;refine R ?_;obtain ⟨g15, h11⟩ := ogrd_some h11;refine mk_o (f := eI) (x := (0 : Int)) rfl g15 ?_;refine R ?_;refine aR ?_;refine R ?_;cases h11;refine Recast.trans (Recast.nilrow (b := 2) (f := e_L1I) (x := ([] : List Int)) (l2 := [(3, .rw ((List.replicate ((y8.map eI).length : Int).toNat (0 : Int)).map eI)), (2, .rw ((List.replicate ((y8.map eI).length : Int).toNat ([] : List Int)).map e_L1I)), (1, .tail 2 1), (0, .rw [(iV 0), (iV 0), (iV 0), (iV 0), (iV 0), (iV 0)])]) rfl (nl rfl) rfl rfl) ?_
        exact rfz
      · obtain ⟨g14, h11⟩ := ogrd_some h11;obtain ⟨g15, h11⟩ := ogrd_some h11;refine R ?_;refine mk_o (f := eI) (x := (0 : Int)) rfl g15 ?_;refine R ?_;refine aR ?_;refine R ?_;refine mk_n g14 ?_;refine R ?_;refine aR ?_;refine R ?_;cases h11;refine Recast.trans (Recast.nilrow (b := 3) (f := e_L1I) (x := ([] : List Int)) (l2 := [(3, .rw ((List.replicate ((y8.map eI).length : Int).toNat ([] : List Int)).map e_L1I)), (2, .rw ((List.replicate ((y8.map eI).length : Int).toNat (0 : Int)).map eI)), (1, .tail 2 1), (0, .rw [(iV 0), (iV 0), (iV 0), (iV 0), (iV 0), (iV 0)])]) rfl (nl rfl) rfl rfl) ?_
        refine Recast.trans (s' := ⟨[(0, (VS 3 (a0.map e_III))), (4, (pV 0 0)), (8, (VS 1 (y8.map eI))), (9, (.slice (some ⟨3, 0, none⟩) ((y8.map eI).length : Int).toNat 1)), (10, (.slice (some ⟨4, 0, none⟩) ((y8.map eI).length : Int).toNat 1))], ⟨5, [(3, .rw ((List.replicate ((y8.map eI).length : Int).toNat ([] : List Int)).map e_L1I)), (4, .rw ((List.replicate ((y8.map eI).length : Int).toNat (0 : Int)).map eI)), (1, .tail 2 1), (0, .rw [(iV 0), (iV 0), (iV 0), (iV 0), (iV 0), (iV 0)])], false⟩⟩) (Recast.mv 2 4 (nl rfl) (nl rfl) (.cons (.rw (nn rfl) (nn rfl) (nl rfl) rfl (oneL_map fun _ => rfl) .cl) (.cons (.mv rfl (nl rfl) rfl (oneL_map fun _ => rfl) .cl) (.cons (.tail (nl rfl) rfl) (.cons (.rw (nn rfl) (nn rfl) (nl rfl) rfl rfl (.of (.cons .cl (.cons .cl (.cons .cl (.cons .cl (.cons .cl (.cons .cl .nil)))))))) .nil)))) (.cons rfl .cl (.cons rfl (.ptr (nn rfl) (nl rfl)) (.cons rfl .cl (.cons rfl (.slice (nn rfl) (nl rfl)) (.cons rfl (.slicem (nl rfl)) .nil)))))) ?_
        refine Recast.trans (s' := ⟨[(0, (VS 3 (a0.map e_III))), (4, (pV 0 0)), (8, (VS 1 (y8.map eI))), (9, (.slice (some ⟨5, 0, none⟩) ((y8.map eI).length : Int).toNat 1)), (10, (.slice (some ⟨4, 0, none⟩) ((y8.map eI).length : Int).toNat 1))], ⟨6, [(5, .rw ((List.replicate ((y8.map eI).length : Int).toNat ([] : List Int)).map e_L1I)), (4, .rw ((List.replicate ((y8.map eI).length : Int).toNat (0 : Int)).map eI)), (1, .tail 2 1), (0, .rw [(iV 0), (iV 0), (iV 0), (iV 0), (iV 0), (iV 0)])], false⟩⟩) (Recast.mv 3 5 (nl rfl) (nl rfl) (.cons (.mv rfl (nl rfl) rfl (oneL_map fun _ => rfl) .cl) (.cons (.rw (nn rfl) (nn rfl) (nl rfl) rfl (oneL_map fun _ => rfl) .cl) (.cons (.tail (nl rfl) rfl) (.cons (.rw (nn rfl) (nn rfl) (nl rfl) rfl rfl (.of (.cons .cl (.cons .cl (.cons .cl (.cons .cl (.cons .cl (.cons .cl .nil)))))))) .nil)))) (.cons rfl .cl (.cons rfl (.ptr (nn rfl) (nl rfl)) (.cons rfl .cl (.cons rfl (.slicem (nl rfl)) (.cons rfl (.slice (nn rfl) (nl rfl)) .nil)))))) ?_
        refine Recast.trans (s' := ⟨[(0, (VS 3 (a0.map e_III))), (4, (pV 0 0)), (8, (VS 1 (y8.map eI))), (9, (.slice (some ⟨5, 0, none⟩) ((y8.map eI).length : Int).toNat 1)), (10, (.slice (some ⟨3, 0, none⟩) ((y8.map eI).length : Int).toNat 1))], ⟨6, [(5, .rw ((List.replicate ((y8.map eI).length : Int).toNat ([] : List Int)).map e_L1I)), (3, .rw ((List.replicate ((y8.map eI).length : Int).toNat (0 : Int)).map eI)), (1, .tail 2 1), (0, .rw [(iV 0), (iV 0), (iV 0), (iV 0), (iV 0), (iV 0)])], false⟩⟩) (Recast.mv 4 3 (nl rfl) (nl rfl) (.cons (.rw (nn rfl) (nn rfl) (nl rfl) rfl (oneL_map fun _ => rfl) .cl) (.cons (.mv rfl (nl rfl) rfl (oneL_map fun _ => rfl) .cl) (.cons (.tail (nl rfl) rfl) (.cons (.rw (nn rfl) (nn rfl) (nl rfl) rfl rfl (.of (.cons .cl (.cons .cl (.cons .cl (.cons .cl (.cons .cl (.cons .cl .nil)))))))) .nil)))) (.cons rfl .cl (.cons rfl (.ptr (nn rfl) (nl rfl)) (.cons rfl .cl (.cons rfl (.slice (nn rfl) (nl rfl)) (.cons rfl (.slicem (nl rfl)) .nil)))))) ?_
        exact (Recast.mv 5 2 (nl rfl) (nl rfl) (.cons (.rw (nn rfl) (nn rfl) (nl rfl) rfl (oneL_map fun _ => rfl) .cl) (.cons (.mv rfl (nl rfl) rfl (oneL_map fun _ => rfl) .cl) (.cons (.tail (nl rfl) rfl) (.cons (.rw (nn rfl) (nn rfl) (nl rfl) rfl rfl (.of (.cons .cl (.cons .cl (.cons .cl (.cons .cl (.cons .cl (.cons .cl .nil)))))))) .nil)))) (.cons rfl .cl (.cons rfl (.ptr (nn rfl) (nl rfl)) (.cons rfl .cl (.cons rfl (.slicem (nl rfl)) (.cons rfl (.slice (nn rfl) (nl rfl)) .nil))))))
    · obtain ⟨r16, h17, H⟩ := obnd_some H;refine pw_join (ρ := (List ((List Int))) × (List Int)) (fun e => ⟨[(4, (pV 0 0)), (8, (VS 1 (y8.map eI))), (9, (.slice (some ⟨2, 0, none⟩) ((y8.map eI).length : Int).toNat 1)), (10, (.slice (some ⟨3, 0, none⟩) ((y8.map eI).length : Int).toNat 1))], ⟨4, [(3, .rw (e.2.map eI)), (2, .rw (e.1.map e_L1I)), (1, .tail 2 1), (0, .rw [(iV 0), (iV 0), (iV 0), (iV 0), (iV 0), (iV 0)])], false⟩⟩) r16 ?_ ?_
      · refine R ?_;refine pw_loop (τ := Int × (List ((List Int))) × (List Int)) (fun e => ⟨[(0, (VS 3 (a0.map e_III))), (4, (pV 0 0)), (8, (VS 1 (y8.map eI))), (9, (.slice (some ⟨2, 0, none⟩) ((y8.map eI).length : Int).toNat 1)), (10, (.slice (some ⟨3, 0, none⟩) ((y8.map eI).length : Int).toNat 1)), (45, (VS 1 (y8.map eI))), (46, (iV ((y8.map eI).length : Int))), (47, (iV e.1))], ⟨4, [(3, .rw (e.2.2.map eI)), (2, .rw (e.2.1.map e_L1I)), (1, .tail 2 1), (0, .rw [(iV 0), (iV 0), (iV 0), (iV 0), (iV 0), (iV 0)])], false⟩⟩) h17 ?_ (fun _ => nl rfl) ?_
        · exact sb
        · intro e20 x21 h22;refine R ?_;refine pw_seq ?_;refine R ?_;refine pbr_oite h22 (fun g23 h22 => ?_) (fun g23 h22 => ?_)
          · refine R ?_;obtain ⟨r24, h25, h22⟩ := obnd_some h22;refine pw_join (ρ := (List Int) × (List Int)) (fun e => ⟨[(0, (VS 3 (a0.map e_III))), (4, (pV 0 0)), (8, (VS 1 (y8.map eI))), (9, (.slice (some ⟨2, 0, none⟩) ((y8.map eI).length : Int).toNat 1)), (10, (.slice (some ⟨3, 0, none⟩) ((y8.map eI).length : Int).toNat 1)), (45, (VS 1 (y8.map eI))), (46, (iV ((y8.map eI).length : Int))), (47, (iV e20.1))], ⟨5, [(4, .rw (e.2.map eI)), (3, .rw (e.1.map eI)), (2, .rw ((e20.2.1.map e_L1I).set e20.1.toNat (.slice (some ⟨4, 0, none⟩) ((y8.map eI).length : Int).toNat 1))), (1, .tail 2 1), (0, .rw [(iV 0), (iV 0), (iV 0), (iV 0), (iV 0), (iV 0)])], false⟩⟩) r24 ?_ ?_
            · refine R ?_;refine pbr_ogrd h25 (fun g28 h25 => ?_);refine R ?_;refine nth_o (l := y8) h25 (fun x29 _ h25 => ?_);refine R ?_;obtain ⟨g30, h25⟩ := ogrd_some h25;refine mk_o (f := eI) (x := (0 : Int)) rfl g30 ?_;refine R ?_;refine pbr_ogrd h25 (fun g31 h25 => ?_);refine R ?_;obtain ⟨g32, h25⟩ := ogrd_some h25;refine set_h (l := e20.2.1) (f := e_L1I) g32 rfl ?_;refine R ?_;refine pw_loop (τ := Int × (List Int) × (List Int)) (fun e => ⟨[(0, (VS 3 (a0.map e_III))), (4, (pV 0 0)), (8, (VS 1 (y8.map eI))), (9, (.slice (some ⟨2, 0, none⟩) ((y8.map eI).length : Int).toNat 1)), (10, (.slice (some ⟨3, 0, none⟩) ((y8.map eI).length : Int).toNat 1)), (11, (iV e20.1)), (12, (iV x29)), (45, (VS 1 (y8.map eI))), (46, (iV ((y8.map eI).length : Int))), (47, (iV e20.1)), (58, (VS 3 (a0.map e_III))), (59, (iV ((a0.map e_III).length : Int))), (60, (iV e.1))], ⟨5, [(4, .rw (e.2.2.map eI)), (3, .rw (e.2.1.map eI)), (2, .rw ((e20.2.1.map e_L1I).set e20.1.toNat (.slice (some ⟨4, 0, none⟩) ((y8.map eI).length : Int).toNat 1))), (1, .tail 2 1), (0, .rw [(iV 0), (iV 0), (iV 0), (iV 0), (iV 0), (iV 0)])], false⟩⟩) h25 ?_ (fun _ => nl rfl) ?_
              · exact sb
              · intro e33 x34 h35;refine R ?_;refine pw_seq ?_;refine R ?_;refine pbr_oite h35 (fun g36 h35 => ?_) (fun g36 h35 => ?_)
                · refine R ?_;obtain ⟨r37, h38, h35⟩ := obnd_some h35;refine pw_join (ρ := Int × Int × Int × Int × Int × Int × Int × Int × (List Int) × (List Int)) (fun e => ⟨[(0, (VS 3 (a0.map e_III))), (4, (pV 0 0)), (8, (VS 1 (y8.map eI))), (9, (.slice (some ⟨2, 0, none⟩) ((y8.map eI).length : Int).toNat 1)), (10, (.slice (some ⟨3, 0, none⟩) ((y8.map eI).length : Int).toNat 1)), (11, (iV e20.1)), (12, (iV x29)), (45, (VS 1 (y8.map eI))), (46, (iV ((y8.map eI).length : Int))), (47, (iV e20.1)), (58, (VS 3 (a0.map e_III))), (59, (iV ((a0.map e_III).length : Int))), (60, (iV e33.1))], ⟨7, [(6, .rw [(iV e.2.2.2.1), (iV e.2.2.2.2.1), (iV e.2.2.2.2.2.1), (iV e.2.2.2.2.2.2.1), (iV e.2.2.2.2.2.2.2.1)]), (5, .rw [(iV e.1), (iV e.2.1), (iV e.2.2.1)]), (4, .rw (e.2.2.2.2.2.2.2.2.2.map eI)), (3, .rw (e.2.2.2.2.2.2.2.2.1.map eI)), (2, .rw ((e20.2.1.map e_L1I).set e20.1.toNat (.slice (some ⟨4, 0, none⟩) ((y8.map eI).length : Int).toNat 1))), (1, .tail 2 1), (0, .rw [(iV 0), (iV 0), (iV 0), (iV 0), (iV 0), (iV 0)])], false⟩⟩) r37 ?_ ?_
                  · refine R ?_;refine pbr_ogrd h38 (fun g41 h38 => ?_);refine R ?_;refine nth_o (l := a0) h38 (fun x42 _ h38 => ?_);refine R ?_;obtain ⟨y43, h44, h38⟩ := obnd_some h38;refine (c77 h44).go ?_;refine R ?_;refine nth_a (l := e33.2.1) (f := eI) h38 (fun x45 h46 h38 => ?_);refine R ?_;refine pbr_ogrd h38 (fun g48 h38 => ?_);refine R ?_;refine pbr_ogrd h38 (fun g49 h38 => ?_);refine R ?_;refine nth_o (f := eI) (l := ([y43.1, y43.2.1, y43.2.2.1, y43.2.2.2.1, y43.2.2.2.2] : List Int)) h38 (fun x50 _ h38 => ?_)
                    refine R ?_;obtain ⟨g51, h38⟩ := ogrd_some h38;refine set_a (l := e33.2.1) (f := eI) (x := (IntKind.i64.wrap (x45 + (IntKind.i64.wrap (x50 * x42.2.2))))) g51 rfl ?_;refine R ?_;refine ⟨by repeat (first | exact trivial | refine And.intro rfl ?_ | refine And.intro (lev_a (l := e33.2.1) (f := eI) rfl h46) ?_), ?_⟩;refine R ?_;refine pw_loop (τ := Int × (List Int)) (fun e => ⟨[(0, (VS 3 (a0.map e_III))), (4, (pV 0 0)), (8, (VS 1 (y8.map eI))), (9, (.slice (some ⟨2, 0, none⟩) ((y8.map eI).length : Int).toNat 1)), (10, (.slice (some ⟨3, 0, none⟩) ((y8.map eI).length : Int).toNat 1)), (11, (iV e20.1)), (12, (iV x29)), (15, (pV 6 0)), (45, (VS 1 (y8.map eI))), (46, (iV ((y8.map eI).length : Int))), (47, (iV e20.1)), (58, (VS 3 (a0.map e_III))), (59, (iV ((a0.map e_III).length : Int))), (60, (iV e33.1)), (78, (VS 1 (y8.map eI))), (79, (iV ((y8.map eI).length : Int))), (80, (iV e.1))], ⟨7, [(6, .rw [(iV y43.1), (iV y43.2.1), (iV y43.2.2.1), (iV y43.2.2.2.1), (iV y43.2.2.2.2)]), (5, .rw [(iV x42.1), (iV x42.2.1), (iV x42.2.2)]), (4, .rw (e.2.map eI)), (3, .rw ((e33.2.1.set e20.1.toNat (IntKind.i64.wrap (x45 + (IntKind.i64.wrap (x50 * x42.2.2))))).map eI)), (2, .rw ((e20.2.1.map e_L1I).set e20.1.toNat (.slice (some ⟨4, 0, none⟩) ((y8.map eI).length : Int).toNat 1))), (1, .tail 2 1), (0, .rw [(iV 0), (iV 0), (iV 0), (iV 0), (iV 0), (iV 0)])], false⟩⟩) h38 ?_ (fun _ => nl rfl) ?_
                    · exact sb
                    · intro e52 x53 h54;refine R ?_;refine pw_seq ?_;refine R ?_;refine pbr_oite h54 (fun g55 h54 => ?_) (fun g55 h54 => ?_)
                      · refine R ?_;refine pw_seq ?_;refine R ?_;refine pbr_ogrd h54 (fun g56 h54 => ?_);refine R ?_;refine nth_o (l := y8) h54 (fun x57 _ h54 => ?_);refine R ?_;refine nth_h g32 ?_;refine R ?_;refine pbr_ogrd h54 (fun g58 h54 => ?_);refine R ?_;refine nth_a (l := e52.2) (f := eI) h54 (fun x59 h60 h54 => ?_);refine R ?_;refine nth_o (f := eI) (l := ([y43.1, y43.2.1, y43.2.2.1, y43.2.2.2.1, y43.2.2.2.2] : List Int)) h54 (fun x62 _ h54 => ?_)
                        refine R ?_;refine pbr_ogrd h54 (fun g63 h54 => ?_);refine R ?_;refine pbr_ogrd h54 (fun g64 h54 => ?_);refine R ?_;refine nth_o (f := eI) (l := ([y43.1, y43.2.1, y43.2.2.1, y43.2.2.2.1, y43.2.2.2.2] : List Int)) h54 (fun x65 _ h54 => ?_);refine R ?_;obtain ⟨g66, h54⟩ := ogrd_some h54;refine set_a (l := e52.2) (f := eI) (x := (IntKind.i64.wrap (x59 + (IntKind.i64.wrap (x62 * x65))))) g66 rfl ?_;refine R ?_;refine ⟨by repeat (first | exact trivial | refine And.intro rfl ?_ | refine And.intro (lev_h (l := e20.2.1) (f := e_L1I) rfl g32) ?_ | refine And.intro (lev_a (l := e52.2) (f := eI) rfl h60) ?_), ?_⟩
                        refine R ?_;cases h54;refine ⟨_, rfl, ?_⟩;exact sb
                      · refine R ?_;cases h54;refine ⟨_, rfl, ?_⟩;rintro rfl;refine R ?_;exact cr
                  · refine R ?_;cases h35;refine ⟨_, rfl, ?_⟩;exact Recast.fz (fun _ => false) (nl rfl) (.cons (.same rfl rfl (OBnd.rwc (nl rfl) (oneL_map fun _ => rfl))) (.cons (.same rfl rfl (OBnd.rwc (nl rfl) (oneL_map fun _ => rfl))) (.cons (.same rfl rfl (OBnd.rwh (nl rfl) (fun _ => rfl) rfl (.slice (nl rfl)))) (.cons (.same rfl rfl (OBnd.tail (nl rfl))) (.cons (.same rfl rfl (OBnd.rwl (nl rfl) rfl (.cons .cl (.cons .cl (.cons .cl (.cons .cl (.cons .cl (.cons .cl .nil)))))))) .nil))))) (.cons rfl (.same _ .cl) (.cons rfl (.same _ (.ptr (nl rfl))) (.cons rfl (.same _ .cl) (.cons rfl (.same _ (.slice (nl rfl))) (.cons rfl (.same _ (.slice (nl rfl))) (.cons rfl (.same _ .cl) (.cons rfl (.same _ .cl) (.cons rfl (.same _ .cl) (.cons rfl (.same _ .cl) (.cons rfl (.same _ .cl) (.cons rfl (.same _ .cl) (.cons rfl (.same _ .cl) (.cons rfl (.same _ .cl) .nil)))))))))))))
                · refine R ?_;cases h35;refine ⟨_, rfl, ?_⟩;rintro rfl;refine R ?_;exact cr
            · refine R ?_;obtain ⟨g69, h22⟩ := ogrd_some h22;cases h22;refine ⟨_, rfl, ?_⟩;exact Recast.fz (fun b => Nat.beq b 4) (nl rfl) (.cons (.same rfl rfl (OBnd.rwc (nl rfl) (oneL_map fun _ => rfl))) (.cons (.hole rfl (nl rfl) rfl (.slm rfl rfl g69 (fun _ => rfl)) (fun _ => rfl)) (.cons (.same rfl rfl (OBnd.tail (nl rfl))) (.cons (.same rfl rfl (OBnd.rwl (nl rfl) rfl (.cons .cl (.cons .cl (.cons .cl (.cons .cl (.cons .cl (.cons .cl .nil)))))))) .nil)))) (.cons rfl (.same _ .cl) (.cons rfl (.same _ (.ptr (nl rfl))) (.cons rfl (.same _ .cl) (.cons rfl (.same _ (.slice (nl rfl))) (.cons rfl (.same _ (.slice (nl rfl))) (.cons rfl (.same _ .cl) (.cons rfl (.same _ .cl) (.cons rfl (.same _ .cl) .nil))))))))
          · refine R ?_;cases h22;refine ⟨_, rfl, ?_⟩;rintro rfl;refine R ?_;exact cr
      · refine R ?_;obtain ⟨g71, H⟩ := ogrd_some H;obtain ⟨y72, h73, H⟩ := obnd_some H;refine ICalls.goD (c96 h73) (.cons (.slm rfl g71 (fun _ => rfl)) .nil) rfl ?_;refine R ?_;refine pw_seq ?_;refine R ?_;refine pbr_oite H (fun g74 H => ?_) (fun g74 H => ?_)
        · refine R ?_;cases H;rfl
        · refine R ?_;obtain ⟨r75, h76, H⟩ := obnd_some H;refine pw_join (ρ := Int × Int × Int × Int × Int) (fun e => ⟨[(4, (pV 0 0)), (18, (pV 4 0))], ⟨5, [(4, .rw [(iV y72), (iV e.1), (iV e.2.1), (iV e.2.2.1), (iV e.2.2.2.1), (iV e.2.2.2.2)]), (3, .rw (r16.2.map eI)), (2, .rw (r16.1.map e_L1I)), (1, .tail 2 1), (0, .rw [(iV 0), (iV 0), (iV 0), (iV 0), (iV 0), (iV 0)])], false⟩⟩) r75 ?_ ?_
          · refine R ?_;refine pw_loop (τ := Int × Int × Int × Int × Int × Int) (fun e => ⟨[(4, (pV 0 0)), (9, (.slice (some ⟨2, 0, none⟩) ((y8.map eI).length : Int).toNat 1)), (10, (.slice (some ⟨3, 0, none⟩) ((y8.map eI).length : Int).toNat 1)), (18, (pV 4 0)), (111, (VS 1 (y8.map eI))), (112, (iV ((y8.map eI).length : Int))), (113, (iV e.1))], ⟨5, [(4, .rw [(iV y72), (iV e.2.1), (iV e.2.2.1), (iV e.2.2.2.1), (iV e.2.2.2.2.1), (iV e.2.2.2.2.2)]), (3, .rw (r16.2.map eI)), (2, .rw (r16.1.map e_L1I)), (1, .tail 2 1), (0, .rw [(iV 0), (iV 0), (iV 0), (iV 0), (iV 0), (iV 0)])], false⟩⟩) h76 ?_ (fun _ => nl rfl) ?_
            · exact sb
            · intro e79 x80 h81;refine R ?_;refine pw_seq ?_;refine R ?_;refine pbr_oite h81 (fun g82 h81 => ?_) (fun g82 h81 => ?_)
              · (conv=>whnf);refine pw_skip ?_;(conv=>whnf);refine pw_seq ?_;refine pw_block ?_;refine pwa ?_;(conv=>whnf);refine pbr_ogrd h81 (fun g83 h81 => ?_);(conv=>whnf);refine nth_o (l := y8) h81 (fun x84 _ h81 => ?_);(conv=>whnf);refine pw_soR ?_;refine po_all ?_;(conv=>whnf);obtain ⟨g85, h81⟩ := ogrd_some h81;refine mk_n g85 ?_;(conv=>whnf);refine ⟨_, (Recast.nilrow (b := 5) (f := e_L1I) (x := ([] : List Int)) (l2 := [(5, .rw ((List.replicate (((y8.map eI).length : Int).toNat : Int).toNat ([] : List Int)).map e_L1I)), (4, .rw [(iV y72), (iV e79.2.1), (iV e79.2.2.1), (iV e79.2.2.2.1), (iV e79.2.2.2.2.1), (iV e79.2.2.2.2.2)]), (3, .rw (r16.2.map eI)), (2, .rw (r16.1.map e_L1I)), (1, .tail 2 1), (0, .rw [(iV 0), (iV 0), (iV 0), (iV 0), (iV 0), (iV 0)])]) rfl (nl rfl) rfl rfl), ?_⟩
                obtain ⟨r86, h87, h81⟩ := obnd_some h81;refine pw_join (ρ := (List ((List Int)))) (fun e => ⟨[(4, (pV 0 0)), (9, (.slice (some ⟨2, 0, none⟩) ((y8.map eI).length : Int).toNat 1)), (10, (.slice (some ⟨3, 0, none⟩) ((y8.map eI).length : Int).toNat 1)), (18, (pV 4 0)), (20, (iV x84)), (21, (.slice (some ⟨5, 0, none⟩) (((y8.map eI).length : Int).toNat : Int).toNat 1)), (111, (VS 1 (y8.map eI))), (112, (iV ((y8.map eI).length : Int))), (113, (iV e79.1))], ⟨6, [(5, .rw (e.map e_L1I)), (4, .rw [(iV y72), (iV e79.2.1), (iV e79.2.2.1), (iV e79.2.2.2.1), (iV e79.2.2.2.2.1), (iV e79.2.2.2.2.2)]), (3, .rw (r16.2.map eI)), (2, .rw (r16.1.map e_L1I)), (1, .tail 2 1), (0, .rw [(iV 0), (iV 0), (iV 0), (iV 0), (iV 0), (iV 0)])], false⟩⟩) r86 ?_ ?_
                · refine R ?_;refine pw_loop (τ := Int × (List ((List Int)))) (fun e => ⟨[(4, (pV 0 0)), (9, (.slice (some ⟨2, 0, none⟩) ((y8.map eI).length : Int).toNat 1)), (10, (.slice (some ⟨3, 0, none⟩) ((y8.map eI).length : Int).toNat 1)), (18, (pV 4 0)), (19, (iV e79.1)), (20, (iV x84)), (21, (.slice (some ⟨5, 0, none⟩) (((y8.map eI).length : Int).toNat : Int).toNat 1)), (111, (VS 1 (y8.map eI))), (112, (iV ((y8.map eI).length : Int))), (113, (iV e79.1)), (121, (.slice (some ⟨2, 0, none⟩) ((y8.map eI).length : Int).toNat 1)), (122, (iV (((y8.map eI).length : Int).toNat : Int))), (123, (iV e.1))], ⟨6, [(5, .rw (e.2.map e_L1I)), (4, .rw [(iV y72), (iV e79.2.1), (iV e79.2.2.1), (iV e79.2.2.2.1), (iV e79.2.2.2.2.1), (iV e79.2.2.2.2.2)]), (3, .rw (r16.2.map eI)), (2, .rw (r16.1.map e_L1I)), (1, .tail 2 1), (0, .rw [(iV 0), (iV 0), (iV 0), (iV 0), (iV 0), (iV 0)])], false⟩⟩) h87 ?_ (fun _ => nl rfl) ?_
                  · exact sb
                  · intro e90 x91 h92;refine R ?_;refine pw_seq ?_;refine R ?_;refine pbr_oite h92 (fun g93 h92 => ?_) (fun g93 h92 => ?_)
                    · refine R ?_;refine pw_seq ?_;refine R ?_;refine pbr_ogrd h92 (fun g94 h92 => ?_);refine R ?_;refine nth_a (l := r16.1) (f := e_L1I) h92 (fun x95 h96 h92 => ?_);refine R ?_;obtain ⟨y98, h99, h92⟩ := obnd_some h92;refine ICalls.goN (f := eI) (c73 h99) (.cons (.refl _) .nil) ?_;refine R ?_;refine pbr_ogrd h92 (fun g100 h92 => ?_);refine R ?_;obtain ⟨g101, h92⟩ := ogrd_some h92;refine set_h (l := e90.2) (f := e_L1I) g101 rfl ?_
                      refine R ?_;refine nth_h g101 ?_;refine R ?_;refine nth_a (l := r16.2) (f := eI) h92 (fun x102 h103 h92 => ?_);refine R ?_;refine pbr_ogrd h92 (fun g105 h92 => ?_);refine R ?_;obtain ⟨g106, h92⟩ := ogrd_some h92;refine set_a (l := y98) (f := eI) (x := x102) g106 rfl ?_;refine R ?_;refine ⟨by repeat (first | exact trivial | refine And.intro rfl ?_ | refine And.intro (lev_h (l := e90.2) (f := e_L1I) rfl g101) ?_ | refine And.intro (lev_a (l := r16.2) (f := eI) rfl h103) ?_), ?_⟩
                      refine R ?_;obtain ⟨g107, h92⟩ := ogrd_some h92;cases h92;refine ⟨_, rfl, ?_⟩;exact Recast.fz (fun b => Nat.beq b 6) (nl rfl) (.cons (.hole rfl (nl rfl) rfl (.slm rfl rfl g107 (fun _ => rfl)) (fun _ => rfl)) (.cons (.same rfl rfl (OBnd.rwl (nl rfl) rfl (.cons .cl (.cons .cl (.cons .cl (.cons .cl (.cons .cl (.cons .cl .nil)))))))) (.cons (.same rfl rfl (OBnd.rwc (nl rfl) (oneL_map fun _ => rfl))) (.cons (.same rfl rfl (OBnd.rwc (nl rfl) (oneL_map fun _ => rfl))) (.cons (.same rfl rfl (OBnd.tail (nl rfl))) (.cons (.same rfl rfl (OBnd.rwl (nl rfl) rfl (.cons .cl (.cons .cl (.cons .cl (.cons .cl (.cons .cl (.cons .cl .nil)))))))) .nil)))))) (.cons rfl (.same _ (.ptr (nl rfl))) (.cons rfl (.same _ (.slice (nl rfl))) (.cons rfl (.same _ (.slice (nl rfl))) (.cons rfl (.same _ (.ptr (nl rfl))) (.cons rfl (.same _ .cl) (.cons rfl (.same _ .cl) (.cons rfl (.same _ (.slice (nl rfl))) (.cons rfl (.same _ .cl) (.cons rfl (.same _ .cl) (.cons rfl (.same _ .cl) (.cons rfl (.same _ (.slice (nl rfl))) (.cons rfl (.same _ .cl) (.cons rfl (.same _ .cl) .nil)))))))))))))
                    · refine R ?_;cases h92;refine ⟨_, rfl, ?_⟩;rintro rfl;refine R ?_;exact cr
                · refine R ?_;obtain ⟨g109, h81⟩ := ogrd_some h81;obtain ⟨y110, h111, h81⟩ := obnd_some h81;refine ICalls.goD (c96 h111) (.cons (.slm rfl g109 (fun _ => rfl)) .nil) rfl ?_;refine R ?_;refine pbr_ogrd h81 (fun g112 h81 => ?_);refine R ?_;refine pbr_ogrd h81 (fun g113 h81 => ?_);refine R ?_;refine set_d (f := eI) [(iV y72)] [] [e79.2.1, e79.2.2.1, e79.2.2.2.1, e79.2.2.2.2.1, e79.2.2.2.2.2] (x := y110) (i := x84) (off := 1) rfl rfl rfl g112 g113 rfl ?_;refine R ?_;cases h81;refine ⟨_, rfl, ?_⟩;exact rfz
              · refine R ?_;cases h81;refine ⟨_, rfl, ?_⟩;rintro rfl;refine R ?_;exact cr
          · refine R ?_;obtain ⟨y115, h116, H⟩ := obnd_some H;refine (c97 h116).go ?_;refine R ?_;refine pbr_ogrdn H (fun g117 H => ?_);refine R ?_;obtain ⟨r118, h119, H⟩ := obnd_some H;refine pw_join (ρ := Unit) (fun e => ⟨[(4, (pV 0 0)), (18, (pV 4 0))], ⟨5, [(4, .rw [(iV (IntKind.i64.wrap (y72.tdiv y115))), (iV (IntKind.i64.wrap (r75.1.tdiv y115))), (iV (IntKind.i64.wrap (r75.2.1.tdiv y115))), (iV (IntKind.i64.wrap (r75.2.2.1.tdiv y115))), (iV (IntKind.i64.wrap (r75.2.2.2.1.tdiv y115))), (iV (IntKind.i64.wrap (r75.2.2.2.2.tdiv y115)))]), (3, .rw (r16.2.map eI)), (2, .rw (r16.1.map e_L1I)), (1, .tail 2 1), (0, .rw [(iV 0), (iV 0), (iV 0), (iV 0), (iV 0), (iV 0)])], false⟩⟩) r118 ?_ ?_
            · refine R ?_;refine pw_unroll 6 ?_;refine R ?_;refine pw_seq ?_;refine R ?_;refine pw_seq ?_;refine R ?_;refine ⟨_, .refl, nl rfl, ?_⟩;refine R ?_;refine pw_seq ?_;refine R ?_
              refine pw_seq ?_;refine R ?_;refine ⟨_, .refl, nl rfl, ?_⟩;refine R ?_;refine pw_seq ?_;refine R ?_;refine pw_seq ?_;refine R ?_;refine ⟨_, .refl, nl rfl, ?_⟩
              refine R ?_;refine pw_seq ?_;refine R ?_;refine pw_seq ?_;refine R ?_;refine ⟨_, .refl, nl rfl, ?_⟩;refine R ?_;refine pw_seq ?_;refine R ?_;refine pw_seq ?_;refine R ?_
              refine R ?_;refine ⟨_, .refl, nl rfl, ?_⟩;refine R ?_;refine pw_seq ?_;refine R ?_;cases h119;exact cr
            · refine pw_seq ?_;refine R ?_;obtain ⟨y122, h123, H⟩ := obnd_some H;refine (c98 h123).go ?_;refine R ?_;refine pbr_oite H (fun g124 H => ?_) (fun g124 H => ?_)
              · refine R ?_;cases H;rfl
              · refine R ?_;cases H;rfl
noncomputable def f117 [LO]  (a0 : Int) (a1 : Int) (a2 : Int) (a3 : Int) (a4 : Int) (a5 : Int) (a6 : Int) (a7 : Int) (a8 : Int) (a9 : List Int) : Option Int :=
 obnd (f77 a6 a7 a8) fun (y1 : Int × Int × Int × Int × Int) =>
 obnd (
 oloop (τ := Int × Int) (ρ := Int) (fun e7 =>
 oite ((ilt e7.2 ((a9.map eI).length : Int))) (
 ogrd ((ile 0 e7.2)) (
 obnd (a9[e7.2.toNat]?) fun (x12 : Int) =>
 ogrd ((ile 0 x12)) (
 ogrd ((ilt x12 5)) (
 obnd (([a0, a1, a2, a3, a4, a5] : List Int)[(1 + x12.toNat * 1)]?) fun (x15 : Int) =>
 obnd (([y1.1, y1.2.1, y1.2.2.1, y1.2.2.2.1, y1.2.2.2.2] : List Int)[(0 + x12.toNat * 1)]?) fun (x16 : Int) =>
 some (.inl (((IntKind.i64.wrap (e7.1 + (IntKind.i64.wrap (x15 * x16)))), (IntKind.i64.wrap (e7.2 + (1 : Int)))))))))
 ) (
 some (.inr (e7.1)))
 ) (((0 : Int), (0 : Int)))
 ) fun (r3 : Int) =>
 some r3
theorem c117 [LO]  {a0 : Int} {a1 : Int} {a2 : Int} {a3 : Int} {a4 : Int} {a5 : Int} {a6 : Int} {a7 : Int} {a8 : Int} {a9 : List Int} {x : Int} (H : f117 a0 a1 a2 a3 a4 a5 a6 a7 a8 a9 = some x) : ICalls E 117 [(.agg ⟨[(iV a0), (iV a1), (iV a2), (iV a3), (iV a4), (iV a5)]⟩), (.agg ⟨[(iV a6), (iV a7), (iV a8)]⟩), (VS 1 (a9.map eI))] AHeap.none fun v _ => v = (iV x) := by
 refine icalls_fn (pfnw ?_);unfold f117 at H;refine R ?_;obtain ⟨y1, h2, H⟩ := obnd_some H;refine (c77 h2).go ?_;refine R ?_;obtain ⟨r3, h4, H⟩ := obnd_some H;refine pw_join (ρ := Int) (fun e => ⟨[(7, (iV e))], ⟨3, [(2, .rw [(iV y1.1), (iV y1.2.1), (iV y1.2.2.1), (iV y1.2.2.2.1), (iV y1.2.2.2.2)]), (1, .rw [(iV a6), (iV a7), (iV a8)]), (0, .rw [(iV a0), (iV a1), (iV a2), (iV a3), (iV a4), (iV a5)])], false⟩⟩) r3 ?_ ?_
 · refine R ?_;refine pw_loop (τ := Int × Int) (fun e => ⟨[(3, (pV 0 0)), (7, (iV e.1)), (8, (pV 2 0)), (13, (VS 1 (a9.map eI))), (14, (iV ((a9.map eI).length : Int))), (15, (iV e.2))], ⟨3, [(2, .rw [(iV y1.1), (iV y1.2.1), (iV y1.2.2.1), (iV y1.2.2.2.1), (iV y1.2.2.2.2)]), (1, .rw [(iV a6), (iV a7), (iV a8)]), (0, .rw [(iV a0), (iV a1), (iV a2), (iV a3), (iV a4), (iV a5)])], false⟩⟩) h4 ?_ (fun _ => nl rfl) ?_
   · exact sb
   · intro e7 x8 h9;refine R ?_;refine pw_seq ?_;refine R ?_;refine pbr_oite h9 (fun g10 h9 => ?_) (fun g10 h9 => ?_)
     · refine R ?_;refine pw_seq ?_;refine R ?_;refine pbr_ogrd h9 (fun g11 h9 => ?_);refine R ?_;refine nth_o (l := a9) h9 (fun x12 _ h9 => ?_);refine R ?_;refine pbr_ogrd h9 (fun g13 h9 => ?_);refine R ?_;refine pbr_ogrd h9 (fun g14 h9 => ?_);refine R ?_;refine nth_o (f := eI) (l := ([a0, a1, a2, a3, a4, a5] : List Int)) h9 (fun x15 _ h9 => ?_);refine R ?_;refine nth_o (f := eI) (l := ([y1.1, y1.2.1, y1.2.2.1, y1.2.2.2.1, y1.2.2.2.2] : List Int)) h9 (fun x16 _ h9 => ?_)
       refine R ?_;refine aR ?_;refine R ?_;cases h9;refine ⟨_, rfl, ?_⟩;exact sb
     · refine R ?_;cases h9;refine ⟨_, rfl, ?_⟩;rintro rfl;refine R ?_;exact cr
 · refine R ?_;cases H;rfl
noncomputable def f102 [LO]  (a0 : Int) (a1 : Int) (a2 : Int) (a3 : Int) (a4 : Int) (a5 : Int) (a6 : Int) (a7 : Int) (a8 : Int) : Option Int :=
 obnd (f95 (31 : Int)) fun (y1 : (List Int)) =>
 obnd (f117 a0 a1 a2 a3 a4 a5 a6 a7 a8 y1) fun (y3 : Int) =>
 some y3
theorem c102 [LO]  {a0 : Int} {a1 : Int} {a2 : Int} {a3 : Int} {a4 : Int} {a5 : Int} {a6 : Int} {a7 : Int} {a8 : Int} {x : Int} (H : f102 a0 a1 a2 a3 a4 a5 a6 a7 a8 = some x) : ICalls E 102 [(.agg ⟨[(iV a0), (iV a1), (iV a2), (iV a3), (iV a4), (iV a5)]⟩), (.agg ⟨[(iV a6), (iV a7), (iV a8)]⟩)] AHeap.none fun v _ => v = (iV x) := by
 refine icalls_fn (pfnw ?_);unfold f102 at H;refine R ?_;obtain ⟨y1, h2, H⟩ := obnd_some H;refine (c95 h2).go ?_;refine R ?_;refine aR ?_;refine R ?_;obtain ⟨y3, h4, H⟩ := obnd_some H;refine (c117 h4).go ?_;refine R ?_;refine aR ?_;refine R ?_;cases H;rfl
noncomputable def f265 [LO]  (a0 : List (Int × Int × Int)) (a1 : Int) (a2 : Int) (a3 : Int) (a4 : Int) (a5 : Int) (a6 : Int) (a7 : Int) : Option (Int × Int) :=
 obnd (f93 a0) fun (y1 : Int) =>
 obnd (f94 a1) fun (y3 : Int) =>
 obnd (f98 a2 a3 a4 a5 a6 a7) fun (y5 : Int) =>
 obnd (f63 ([y1, y3, y5] : List Int)) fun (y7 : Int) =>
 oite ((!(ieq y7 (0 : Int)))) (
 some ((0 : Int), y7)
 ) (
 obndS (
 obnd (
 oite ((!(ieq a3 (0 : Int)))) (
 obnd (f114 a1 (0 : Int)) fun (y19 : Bool) =>
 some (!y19)
 ) (
 some false)
 ) fun (r14 : Bool) =>
 oite r14 (
 some (.inr (((0 : Int), (3 : Int))))
 ) (
 obnd (
 oite ((!(ieq a4 (0 : Int)))) (
 obnd (f114 a1 (1 : Int)) fun (y27 : Bool) =>
 some (!y27)
 ) (
 some false)
 ) fun (r22 : Bool) =>
 oite r22 (
 some (.inr (((1 : Int), (3 : Int))))
 ) (
 obnd (
 oite ((!(ieq a5 (0 : Int)))) (
 obnd (f114 a1 (2 : Int)) fun (y35 : Bool) =>
 some (!y35)
 ) (
 some false)
 ) fun (r30 : Bool) =>
 oite r30 (
 some (.inr (((2 : Int), (3 : Int))))
 ) (
 obnd (
 oite ((!(ieq a6 (0 : Int)))) (
 obnd (f114 a1 (3 : Int)) fun (y43 : Bool) =>
 some (!y43)
 ) (
 some false)
 ) fun (r38 : Bool) =>
 oite r38 (
 some (.inr (((3 : Int), (3 : Int))))
 ) (
 obnd (
 oite ((!(ieq a7 (0 : Int)))) (
 obnd (f114 a1 (4 : Int)) fun (y51 : Bool) =>
 some (!y51)
 ) (
 some false)
 ) fun (r46 : Bool) =>
 oite r46 (
 some (.inr (((4 : Int), (3 : Int))))
 ) (
 some (.inl ()))))))
 ) fun (_ : Unit) =>
 obnd (f97 a2 a3 a4 a5 a6 a7) fun (y55 : Int) =>
 oite ((!(ieq y55 (1 : Int)))) (
 some ((0 : Int), (3 : Int))
 ) (
 obndS (
 obnd (f95 a1) fun (y62 : (List Int)) =>
 oloop (τ := Int) (ρ := (Unit) ⊕ (Int × Int)) (fun e64 =>
 oite ((ilt e64 ((y62.map eI).length : Int))) (
 ogrd ((ile 0 e64)) (
 obnd (y62[e64.toNat]?) fun (x69 : Int) =>
 obnd (
 oloop (τ := Int × Int) (ρ := Int) (fun e74 =>
 oite ((ilt e74.2 ((a0.map e_III).length : Int))) (
 ogrd ((ile 0 e74.2)) (
 obnd (a0[e74.2.toNat]?) fun (x79 : Int × Int × Int) =>
 obnd (f77 x79.1 x79.2.1 x79.2.2) fun (y80 : Int × Int × Int × Int × Int) =>
 ogrd ((ile 0 x69)) (
 ogrd ((ilt x69 5)) (
 obnd (([y80.1, y80.2.1, y80.2.2.1, y80.2.2.2.1, y80.2.2.2.2] : List Int)[(x69.toNat * 1)]?) fun (x84 : Int) =>
 obnd (f102 a2 a3 a4 a5 a6 a7 x79.1 x79.2.1 x79.2.2) fun (y85 : Int) =>
 some (.inl (((IntKind.i64.wrap (e74.1 + (IntKind.i64.wrap (x84 * (IntKind.i64.wrap ((IntKind.i64.wrap (a2 * x79.2.2)) - y85)))))), (IntKind.i64.wrap (e74.2 + (1 : Int)))))))))
 ) (
 some (.inr (e74.1)))
 ) (((0 : Int), (0 : Int)))
 ) fun (r70 : Int) =>
 oite ((!(ieq r70 (0 : Int)))) (
 some (.inr (.inr ((x69, (19 : Int)))))
 ) (
 some (.inl (IntKind.i64.wrap (e64 + (1 : Int))))))
 ) (
 some (.inr (.inl ())))
 ) (0 : Int)
 ) fun (_ : Unit) =>
 some ((0 : Int), (0 : Int))))
theorem c265 [LO]  {a0 : List (Int × Int × Int)} {a1 : Int} {a2 : Int} {a3 : Int} {a4 : Int} {a5 : Int} {a6 : Int} {a7 : Int} {x : Int × Int} (H : f265 a0 a1 a2 a3 a4 a5 a6 a7 = some x) : ICalls E 265 [(VS 3 (a0.map e_III)), (iV a1), (.agg ⟨[(iV a2), (iV a3), (iV a4), (iV a5), (iV a6), (iV a7)]⟩)] AHeap.none fun v _ => v = (.tuple ⟨[(iV x.1), (iV x.2)]⟩) := by
  refine icalls_fn (pfnw ?_);unfold f265 at H;refine R ?_;refine pw_seq ?_;refine R ?_;obtain ⟨y1, h2, H⟩ := obnd_some H;refine (c93 h2).go ?_;refine R ?_;refine aR ?_;refine R ?_;obtain ⟨y3, h4, H⟩ := obnd_some H;refine (c94 h4).go ?_;refine R ?_;refine aR ?_;refine R ?_
  obtain ⟨y5, h6, H⟩ := obnd_some H;refine (c98 h6).go ?_;refine R ?_;refine aR ?_;refine R ?_;refine aR ?_;refine R ?_;obtain ⟨y7, h8, H⟩ := obnd_some H;refine ICalls.goW (c63 h8) (.cons (.vt _ _ _) .nil) ?_;refine R ?_;refine aR ?_;refine R ?_;refine pbr_oite H (fun g9 H => ?_) (fun g9 H => ?_)
  · refine R ?_;cases H;rfl
  · refine R ?_;obtain ⟨r10, h11, h12, h13⟩ := obndS_some H;refine pw_joinS (ρ := Unit) (fun e => ⟨[(0, (VS 3 (a0.map e_III))), (5, (pV 0 0)), (8, (iV a1))], ⟨2, [(1, .tail 3 1), (0, .rw [(iV a2), (iV a3), (iV a4), (iV a5), (iV a6), (iV a7)])], false⟩⟩) r10 ?_ ?_
    · refine pwa ?_;(conv=>whnf);refine pw_block ?_;refine pw_unroll 6 ?_;(conv=>whnf);refine pwa ?_;(conv=>whnf);refine pw_seq ?_;refine pw_cond ?_;(conv=>whnf);refine pw_skip ?_;(conv=>whnf);refine pw_seq ?_;refine pw_block ?_;refine pwa ?_;(conv=>whnf);obtain ⟨r14, h15, h11⟩ := obnd_some h11;refine pw_join (ρ := Bool) (fun e => ⟨[(0, (VS 3 (a0.map e_III))), (5, (pV 0 0)), (8, (iV a1)), (10, (iV 0)), (30, (.agg ⟨[(iV a3), (iV a4), (iV a5), (iV a6), (iV a7)]⟩)), (31, (iV 0)), (42, (.bool e))], ⟨2, [(1, .tail 3 1), (0, .rw [(iV a2), (iV a3), (iV a4), (iV a5), (iV a6), (iV a7)])], false⟩⟩) r14 ?_ ?_
      · refine R ?_;refine pbr_oite h15 (fun g18 h15 => ?_) (fun g18 h15 => ?_)
        · refine R ?_;obtain ⟨y19, h20, h15⟩ := obnd_some h15;refine (c114 h20).go ?_;refine R ?_;cases h15;exact cr
        · refine R ?_;cases h15;exact cr
      · refine R ?_;refine pbr_oite h11 (fun g21 h11 => ?_) (fun g21 h11 => ?_)
        · refine R ?_;cases h11;obtain rfl := h13 _ rfl;rfl
        · (conv=>whnf);refine pw_skip ?_;(conv=>whnf);refine pw_ops ?_;refine po_all ?_;(conv=>whnf);refine ⟨_, .refl, nl rfl, ?_⟩;(conv=>whnf);refine pwa ?_;(conv=>whnf);refine pw_seq ?_;refine pw_cond ?_;(conv=>whnf);refine pw_skip ?_;(conv=>whnf);refine pw_seq ?_;refine pw_block ?_;refine pwa ?_;(conv=>whnf);obtain ⟨r22, h23, h11⟩ := obnd_some h11;refine pw_join (ρ := Bool) (fun e => ⟨[(0, (VS 3 (a0.map e_III))), (5, (pV 0 0)), (8, (iV a1)), (10, (iV 1)), (30, (.agg ⟨[(iV a3), (iV a4), (iV a5), (iV a6), (iV a7)]⟩)), (31, (iV 1)), (42, (.bool e))], ⟨2, [(1, .tail 3 1), (0, .rw [(iV a2), (iV a3), (iV a4), (iV a5), (iV a6), (iV a7)])], false⟩⟩) r22 ?_ ?_
          · refine R ?_;refine pbr_oite h23 (fun g26 h23 => ?_) (fun g26 h23 => ?_)
            · refine R ?_;obtain ⟨y27, h28, h23⟩ := obnd_some h23;refine (c114 h28).go ?_;refine R ?_;cases h23;exact cr
            · refine R ?_;cases h23;exact cr
          · refine R ?_;refine pbr_oite h11 (fun g29 h11 => ?_) (fun g29 h11 => ?_)
            · refine R ?_;cases h11;obtain rfl := h13 _ rfl;rfl
            · (conv=>whnf);refine pw_skip ?_;(conv=>whnf);refine pw_ops ?_;refine po_all ?_;(conv=>whnf);refine ⟨_, .refl, nl rfl, ?_⟩;(conv=>whnf);refine pwa ?_;(conv=>whnf);refine pw_seq ?_;refine pw_cond ?_;(conv=>whnf);refine pw_skip ?_;(conv=>whnf);refine pw_seq ?_;refine pw_block ?_;refine pwa ?_;(conv=>whnf);obtain ⟨r30, h31, h11⟩ := obnd_some h11;refine pw_join (ρ := Bool) (fun e => ⟨[(0, (VS 3 (a0.map e_III))), (5, (pV 0 0)), (8, (iV a1)), (10, (iV 2)), (30, (.agg ⟨[(iV a3), (iV a4), (iV a5), (iV a6), (iV a7)]⟩)), (31, (iV 2)), (42, (.bool e))], ⟨2, [(1, .tail 3 1), (0, .rw [(iV a2), (iV a3), (iV a4), (iV a5), (iV a6), (iV a7)])], false⟩⟩) r30 ?_ ?_
              · refine R ?_;refine pbr_oite h31 (fun g34 h31 => ?_) (fun g34 h31 => ?_)
                · refine R ?_;obtain ⟨y35, h36, h31⟩ := obnd_some h31;refine (c114 h36).go ?_;refine R ?_;cases h31;exact cr
                · refine R ?_;cases h31;exact cr
              · refine R ?_;refine pbr_oite h11 (fun g37 h11 => ?_) (fun g37 h11 => ?_)
                · refine R ?_;cases h11;obtain rfl := h13 _ rfl;rfl
                · (conv=>whnf);refine pw_skip ?_;(conv=>whnf);refine pw_ops ?_;refine po_all ?_;(conv=>whnf);refine ⟨_, .refl, nl rfl, ?_⟩;(conv=>whnf);refine pwa ?_;(conv=>whnf);refine pw_seq ?_;refine pw_cond ?_;(conv=>whnf);refine pw_skip ?_;(conv=>whnf);refine pw_seq ?_;refine pw_block ?_;refine pwa ?_;(conv=>whnf);obtain ⟨r38, h39, h11⟩ := obnd_some h11;refine pw_join (ρ := Bool) (fun e => ⟨[(0, (VS 3 (a0.map e_III))), (5, (pV 0 0)), (8, (iV a1)), (10, (iV 3)), (30, (.agg ⟨[(iV a3), (iV a4), (iV a5), (iV a6), (iV a7)]⟩)), (31, (iV 3)), (42, (.bool e))], ⟨2, [(1, .tail 3 1), (0, .rw [(iV a2), (iV a3), (iV a4), (iV a5), (iV a6), (iV a7)])], false⟩⟩) r38 ?_ ?_
                  · refine R ?_;refine pbr_oite h39 (fun g42 h39 => ?_) (fun g42 h39 => ?_)
                    · refine R ?_;obtain ⟨y43, h44, h39⟩ := obnd_some h39;refine (c114 h44).go ?_;refine R ?_;cases h39;exact cr
                    · refine R ?_;cases h39;exact cr
                  · refine R ?_;refine pbr_oite h11 (fun g45 h11 => ?_) (fun g45 h11 => ?_)
                    · refine R ?_;cases h11;obtain rfl := h13 _ rfl;rfl
                    · (conv=>whnf);refine pw_skip ?_;(conv=>whnf);refine pw_ops ?_;refine po_all ?_;(conv=>whnf);refine ⟨_, .refl, nl rfl, ?_⟩;(conv=>whnf);refine pwa ?_;(conv=>whnf);refine pw_seq ?_;refine pw_cond ?_;(conv=>whnf);refine pw_skip ?_;(conv=>whnf);refine pw_seq ?_;refine pw_block ?_;refine pwa ?_;(conv=>whnf);obtain ⟨r46, h47, h11⟩ := obnd_some h11;refine pw_join (ρ := Bool) (fun e => ⟨[(0, (VS 3 (a0.map e_III))), (5, (pV 0 0)), (8, (iV a1)), (10, (iV 4)), (30, (.agg ⟨[(iV a3), (iV a4), (iV a5), (iV a6), (iV a7)]⟩)), (31, (iV 4)), (42, (.bool e))], ⟨2, [(1, .tail 3 1), (0, .rw [(iV a2), (iV a3), (iV a4), (iV a5), (iV a6), (iV a7)])], false⟩⟩) r46 ?_ ?_
                      · refine R ?_;refine pbr_oite h47 (fun g50 h47 => ?_) (fun g50 h47 => ?_)
                        · refine R ?_;obtain ⟨y51, h52, h47⟩ := obnd_some h47;refine (c114 h52).go ?_;refine R ?_;cases h47;exact cr
                        · refine R ?_;cases h47;exact cr
                      · refine R ?_;refine pbr_oite h11 (fun g53 h11 => ?_) (fun g53 h11 => ?_)
                        · refine R ?_;cases h11;obtain rfl := h13 _ rfl;rfl
                        · refine R ?_;refine ⟨_, .refl, nl rfl, ?_⟩;refine R ?_;refine pw_seq ?_;refine R ?_;cases h11;exact ⟨_, rfl, cr⟩
    · intro r54 hr;have H := h12 _ hr;refine pw_seq ?_;refine R ?_;obtain ⟨y55, h56, H⟩ := obnd_some H;refine (c97 h56).go ?_;refine R ?_;refine pbr_oite H (fun g57 H => ?_) (fun g57 H => ?_)
      · refine R ?_;cases H;rfl
      · refine R ?_;obtain ⟨r58, h59, h60, h61⟩ := obndS_some H;refine pw_joinS (ρ := Unit) (fun e => ⟨[], ⟨2, [(1, .tail 3 1), (0, .rw [(iV a2), (iV a3), (iV a4), (iV a5), (iV a6), (iV a7)])], false⟩⟩) r58 ?_ ?_
        · refine R ?_;obtain ⟨y62, h63, h59⟩ := obnd_some h59;refine (c95 h63).go ?_;refine R ?_;refine pw_loop (τ := Int) (fun e => ⟨[(0, (VS 3 (a0.map e_III))), (5, (pV 0 0)), (49, (VS 1 (y62.map eI))), (50, (iV ((y62.map eI).length : Int))), (51, (iV e))], ⟨2, [(1, .tail 3 1), (0, .rw [(iV a2), (iV a3), (iV a4), (iV a5), (iV a6), (iV a7)])], false⟩⟩) h59 ?_ (fun _ => nl rfl) ?_
          · exact sb
          · intro e64 x65 h66;refine R ?_;refine pw_seq ?_;refine R ?_;refine pbr_oite h66 (fun g67 h66 => ?_) (fun g67 h66 => ?_)
            · refine R ?_;refine pw_seq ?_;refine R ?_;refine pbr_ogrd h66 (fun g68 h66 => ?_);refine R ?_;refine nth_o (l := y62) h66 (fun x69 _ h66 => ?_);refine R ?_;obtain ⟨r70, h71, h66⟩ := obnd_some h66;refine pw_join (ρ := Int) (fun e => ⟨[(0, (VS 3 (a0.map e_III))), (5, (pV 0 0)), (13, (iV x69)), (14, (iV e)), (49, (VS 1 (y62.map eI))), (50, (iV ((y62.map eI).length : Int))), (51, (iV e64))], ⟨2, [(1, .tail 3 1), (0, .rw [(iV a2), (iV a3), (iV a4), (iV a5), (iV a6), (iV a7)])], false⟩⟩) r70 ?_ ?_
              · refine R ?_;refine pw_loop (τ := Int × Int) (fun e => ⟨[(0, (VS 3 (a0.map e_III))), (5, (pV 0 0)), (13, (iV x69)), (14, (iV e.1)), (49, (VS 1 (y62.map eI))), (50, (iV ((y62.map eI).length : Int))), (51, (iV e64)), (55, (VS 3 (a0.map e_III))), (56, (iV ((a0.map e_III).length : Int))), (57, (iV e.2))], ⟨2, [(1, .tail 3 1), (0, .rw [(iV a2), (iV a3), (iV a4), (iV a5), (iV a6), (iV a7)])], false⟩⟩) h71 ?_ (fun _ => nl rfl) ?_
                · exact sb
                · intro e74 x75 h76;refine R ?_;refine pw_seq ?_;refine R ?_;refine pbr_oite h76 (fun g77 h76 => ?_) (fun g77 h76 => ?_)
                  · refine R ?_;refine pw_seq ?_;refine R ?_;refine pbr_ogrd h76 (fun g78 h76 => ?_);refine R ?_;refine nth_o (l := a0) h76 (fun x79 _ h76 => ?_);refine R ?_;obtain ⟨y80, h81, h76⟩ := obnd_some h76;refine (c77 h81).go ?_;refine R ?_;refine aR ?_;refine R ?_;refine pbr_ogrd h76 (fun g82 h76 => ?_);refine R ?_;refine pbr_ogrd h76 (fun g83 h76 => ?_);refine R ?_;refine nth_o (f := eI) (l := ([y80.1, y80.2.1, y80.2.2.1, y80.2.2.2.1, y80.2.2.2.2] : List Int)) h76 (fun x84 _ h76 => ?_)
                    refine R ?_;obtain ⟨y85, h86, h76⟩ := obnd_some h76;refine (c102 h86).go ?_;refine R ?_;refine aR ?_;refine R ?_;refine aR ?_;refine R ?_;cases h76;refine ⟨_, rfl, ?_⟩;refine Recast.trunc (nl rfl) ?_ ?_
                    · repeat (first | exact .nil | refine .cons rfl (by first | exact OBnd.rwc (nl rfl) rfl | exact OBnd.tail (nl rfl) | trivial) ?_)
                    · repeat (first | exact .nil | refine .cons rfl (by first | exact Bnd.ptr (nl rfl) | exact Bnd.vt (nl rfl) | exact Bnd.cl) ?_)
                  · refine R ?_;cases h76;refine ⟨_, rfl, ?_⟩;rintro rfl;refine R ?_;exact cr
              · refine R ?_;refine pbr_oite h66 (fun g88 h66 => ?_) (fun g88 h66 => ?_)
                · refine R ?_;cases h66;refine ⟨_, rfl, ?_⟩;rintro rfl;refine R ?_;obtain rfl := h61 _ rfl;rfl
                · refine R ?_;cases h66;refine ⟨_, rfl, ?_⟩;exact sb
            · refine R ?_;cases h66;refine ⟨_, rfl, ?_⟩;rintro rfl;refine R ?_;exact ⟨_, rfl, cr⟩
        · intro r91 hr;have H := h60 _ hr;refine R ?_;cases H;rfl
noncomputable def f15  (a0 : Int) (a1 : Int) (a2 : Int) : Option Bool :=
 obnd (
 oite ((ile a1 a0)) (
 some (ile a0 a2)
 ) (
 some false)
 ) fun (r1 : Bool) =>
 some r1
theorem c15  {a0 : Int} {a1 : Int} {a2 : Int} {x : Bool} (H : f15 a0 a1 a2 = some x) : ICalls E 15 [(iV a0), (iV a1), (iV a2)] AHeap.none fun v _ => v = (.bool x) := by
 refine icalls_fn (pfnw ?_); unfold f15 at H;(conv=>whnf);refine pwa ?_;(conv=>whnf);refine pw_so ?_;refine po_ops 4 ?_;(conv=>whnf);obtain ⟨r1, h2, H⟩ := obnd_some H;refine po_seg (τ := Bool) 4 (fun e => ⟨[(14, (.bool e))], ⟨0, [], false⟩⟩) r1 ?_ ?_
 · refine R ?_;refine pbr_oite h2 (fun g3 h2 => ?_) (fun g3 h2 => ?_)
   · refine R ?_;cases h2;exact cr
   · refine R ?_;cases h2;exact cr
 · refine R ?_;cases H;rfl
noncomputable def f32  (a0 : Int) (a1 : Int) (a2 : Int) : Option Int :=
 obnd (
 obnd (f15 a0 (0 : Int) (36000 : Int)) fun (y5 : Bool) =>
 obnd (
 oite (!y5) (
 some true
 ) (
 obnd (f15 a1 (-50 : Int) (50 : Int)) fun (y10 : Bool) =>
 some (!y10))
 ) fun (r7 : Bool) =>
 oite r7 (
 some true
 ) (
 obnd (f15 a2 (-2000 : Int) (2000 : Int)) fun (y13 : Bool) =>
 some (!y13))
 ) fun (r1 : Bool) =>
 oite r1 (
 some (2 : Int)
 ) (
 some (0 : Int))
theorem c32  {a0 : Int} {a1 : Int} {a2 : Int} {x : Int} (H : f32 a0 a1 a2 = some x) : ICalls E 32 [(.agg ⟨[(iV a0), (iV a1), (iV a2)]⟩)] AHeap.none fun v _ => v = (iV x) := by
 refine icalls_fn (pfnw ?_);unfold f32 at H;refine R ?_;refine pw_seq ?_;obtain ⟨r1, h2, H⟩ := obnd_some H;refine pw_join (ρ := Bool) (fun e => ⟨[(18, (.bool e))], ⟨1, [(0, .rw [(iV a0), (iV a1), (iV a2)])], false⟩⟩) r1 ?_ ?_
 · refine pw_ops ?_;refine po_ops 5 ?_;(conv=>whnf);obtain ⟨y5, h6, h2⟩ := obnd_some h2;refine (c15 h6).go ?_;(conv=>whnf);obtain ⟨r7, h8, h2⟩ := obnd_some h2;refine po_seg (τ := Bool) 5 (fun e => ⟨[(1, (pV 0 0)), (12, (.bool e))], ⟨1, [(0, .rw [(iV a0), (iV a1), (iV a2)])], false⟩⟩) r7 ?_ ?_
   · refine R ?_;refine pbr_oite h8 (fun g9 h8 => ?_) (fun g9 h8 => ?_)
     · refine R ?_;cases h8;exact cr
     · refine R ?_;obtain ⟨y10, h11, h8⟩ := obnd_some h8;refine (c15 h11).go ?_;refine R ?_;cases h8;exact cr
   · refine R ?_;refine pbr_oite h2 (fun g12 h2 => ?_) (fun g12 h2 => ?_)
     · refine R ?_;cases h2;exact cr
     · refine R ?_;obtain ⟨y13, h14, h2⟩ := obnd_some h2;refine (c15 h14).go ?_;refine R ?_;cases h2;exact cr
 · refine R ?_;refine pbr_oite H (fun g15 H => ?_) (fun g15 H => ?_)
   · refine R ?_;cases H;rfl
   · refine R ?_;cases H;rfl
noncomputable def f51 [LO]  (a0 : List (Int × Int × Int)) : Option Int :=
 oite ((ieq ((a0.map e_III).length : Int) (0 : Int))) (
 some (10 : Int)
 ) (
 oite ((ilt (12 : Int) ((a0.map e_III).length : Int))) (
 some (8 : Int)
 ) (
 obndS (
 oloop (τ := Int) (ρ := (Unit) ⊕ Int) (fun e7 =>
 oite ((ilt e7 ((a0.map e_III).length : Int))) (
 ogrd ((ile 0 e7)) (
 obnd (a0[e7.toNat]?) fun (x12 : Int × Int × Int) =>
 obnd (f32 x12.1 x12.2.1 x12.2.2) fun (y13 : Int) =>
 oite ((!(ieq y13 (0 : Int)))) (
 some (.inr (.inr (y13)))
 ) (
 some (.inl (IntKind.i64.wrap (e7 + (1 : Int))))))
 ) (
 some (.inr (.inl ())))
 ) (0 : Int)
 ) fun (_ : Unit) =>
 some (0 : Int)))
theorem c51 [LO]  {a0 : List (Int × Int × Int)} {x : Int} (H : f51 a0 = some x) : ICalls E 51 [(VS 3 (a0.map e_III))] AHeap.none fun v _ => v = (iV x) := by
 refine icalls_fn (pfnw ?_);unfold f51 at H;refine R ?_;refine pw_seq ?_;refine R ?_;refine pbr_oite H (fun g1 H => ?_) (fun g1 H => ?_)
 · refine R ?_;cases H;rfl
 · refine R ?_;refine pw_seq ?_;refine R ?_;refine pbr_oite H (fun g2 H => ?_) (fun g2 H => ?_)
   · refine R ?_;cases H;rfl
   · refine R ?_;obtain ⟨r3, h4, h5, h6⟩ := obndS_some H;refine pw_joinS (ρ := Unit) (fun e => ⟨[], ⟨0, [], false⟩⟩) r3 ?_ ?_
     · refine R ?_;refine pw_loop (τ := Int) (fun e => ⟨[(0, (VS 3 (a0.map e_III))), (3, (iV e))], ⟨0, [], false⟩⟩) h4 ?_ (fun _ => nl rfl) ?_
       · exact sb
       · intro e7 x8 h9;refine pw_seq ?_;refine R ?_;refine pbr_oite h9 (fun g10 h9 => ?_) (fun g10 h9 => ?_)
         · refine R ?_;refine pw_seq ?_;refine R ?_;refine pbr_ogrd h9 (fun g11 h9 => ?_);refine R ?_;refine nth_o (l := a0) h9 (fun x12 _ h9 => ?_);refine R ?_;obtain ⟨y13, h14, h9⟩ := obnd_some h9;refine (c32 h14).go ?_;refine R ?_;refine pbr_oite h9 (fun g15 h9 => ?_) (fun g15 h9 => ?_)
           · refine R ?_;cases h9;refine ⟨_, rfl, ?_⟩;rintro rfl;refine R ?_;obtain rfl := h6 _ rfl;rfl
           · refine R ?_;cases h9;refine ⟨_, rfl, ?_⟩;exact sb
         · refine R ?_;cases h9;refine ⟨_, rfl, ?_⟩;rintro rfl;refine R ?_;exact ⟨_, rfl, cr⟩
     · intro r18 hr;have H := h5 _ hr;refine R ?_;cases H;rfl
noncomputable def f52  (a0 : Int) : Option Int :=
 obnd (f15 a0 (1 : Int) (31 : Int)) fun (y1 : Bool) =>
 oite (!y1) (
 some (2 : Int)
 ) (
 some (0 : Int))
theorem c52  {a0 : Int} {x : Int} (H : f52 a0 = some x) : ICalls E 52 [(iV a0)] AHeap.none fun v _ => v = (iV x) := by
 refine icalls_fn (pfnw ?_);unfold f52 at H;refine R ?_;refine pw_seq ?_;refine R ?_;obtain ⟨y1, h2, H⟩ := obnd_some H;refine (c15 h2).go ?_;refine R ?_;refine pbr_oite H (fun g3 H => ?_) (fun g3 H => ?_)
 · refine R ?_;cases H;rfl
 · refine R ?_;cases H;rfl
noncomputable def f270 [LO]  (a0 : Int) : Option ((List Int)) :=
 obnd (
 oloop (τ := (List Int) × Int) (ρ := (List Int)) (fun e5 =>
 oite ((ilt e5.2 (5 : Int))) (
 ogrd (!((ilt e5.2 0))) (
 oite ((ieq (IntKind.i64.wrap (BitVec.ofInt (IntKind.bits .i64) (a0.fdiv (2 ^ (min e5.2.toNat (IntKind.bits .i64)))) &&& BitVec.ofInt (IntKind.bits .i64) (1 : Int)).toNat) (1 : Int))) (
 ogrd (fits 8 (e5.1.length + ([e5.2] : List Int).length)) (
 some (.inl (((e5.1 ++ ([e5.2] : List Int)), (IntKind.i64.wrap (e5.2 + (1 : Int)))))))
 ) (
 some (.inl (e5.1, (IntKind.i64.wrap (e5.2 + (1 : Int)))))))
 ) (
 some (.inr (e5.1)))
 ) ((([] : List Int), (0 : Int)))
 ) fun (r1 : (List Int)) =>
 some r1
theorem c270 [LO]  {a0 : Int} {x : (List Int)} (H : f270 a0 = some x) : ICalls E 270 [(iV a0)] AHeap.none fun v _ => v = (VS 1 (x.map eI)) := by
 refine ICalls.frz ?_;refine icalls_fn (pfnw ?_);unfold f270 at H;refine R ?_;obtain ⟨r1, h2, H⟩ := obnd_some H;refine pw_join (ρ := (List Int)) (fun e => ⟨[(3, (VT 1 (e.map eI) 0))], ⟨1, [(0, .tail (e.map eI).length 1)], false⟩⟩) r1 ?_ ?_
 · refine R ?_;refine pw_loop (τ := (List Int) × Int) (fun e => ⟨[(0, (iV a0)), (3, (VT 1 (e.1.map eI) 0)), (4, (iV e.2))], ⟨1, [(0, .tail (e.1.map eI).length 1)], false⟩⟩) h2 ?_ (fun _ => nl rfl) ?_
   · exact (Recast.nilTs 1 (nl rfl) (.same rfl (.turn rfl (.same rfl .nil))))
   · intro e5 x6 h7;refine pw_seq ?_;refine R ?_;refine pbr_oite h7 (fun g8 h7 => ?_) (fun g8 h7 => ?_)
     · refine R ?_;refine pw_seq ?_;refine R ?_;refine pbr_ogrdn h7 (fun g9 h7 => ?_);refine R ?_;refine pbr_oite h7 (fun g10 h7 => ?_) (fun g10 h7 => ?_)
       · refine R ?_;refine app_o (l := e5.1) (m := ([e5.2] : List Int)) (f := eI) h7 (by rfl) (by rfl) (by rfl) (fun h7 => ?_);refine R ?_;cases h7;refine ⟨_, rfl, ?_⟩;refine Recast.trunc (nl rfl) ?_ ?_
         · repeat (first | exact .nil | refine .cons rfl (by first | exact OBnd.rwc (nl rfl) rfl | exact OBnd.tail (nl rfl) | trivial) ?_)
         · repeat (first | exact .nil | refine .cons rfl (by first | exact Bnd.ptr (nl rfl) | exact Bnd.vt (nl rfl) | exact Bnd.cl) ?_)
       · refine R ?_;cases h7;refine ⟨_, rfl, ?_⟩;exact sb
     · refine R ?_;cases h7;refine ⟨_, rfl, ?_⟩;rintro rfl;refine R ?_;exact cr
 · refine R ?_;cases H;show ∃ D, Fz _ D 0 (VT 1 _ 0) _;exact ⟨fun _ => false, .vtc⟩
noncomputable def f34  (a0 : Int) (a1 : Int) (_ : Int) : Option (Int × Int × Int × Int × Int) :=
 ogrd ((ile 0 (IntKind.i64.wrap ((a0.tmod (360 : Int)).tdiv (90 : Int))))) (
 obnd (([(1 : Int), (0 : Int), (-1 : Int), (0 : Int)] : List Int)[(IntKind.i64.wrap ((a0.tmod (360 : Int)).tdiv (90 : Int))).toNat]?) fun (x2 : Int) =>
 obnd (([(0 : Int), (1 : Int), (0 : Int), (-1 : Int)] : List Int)[(IntKind.i64.wrap ((a0.tmod (360 : Int)).tdiv (90 : Int))).toNat]?) fun (x4 : Int) =>
 some ((1 : Int), a1, x2, x4, (IntKind.i64.wrap (a0.tdiv (360 : Int)))))
theorem c34  {a0 : Int} {a1 : Int} {a2 : Int} {x : Int × Int × Int × Int × Int} (H : f34 a0 a1 a2 = some x) : ICalls E 34 [(.agg ⟨[(iV a0), (iV a1), (iV a2)]⟩)] AHeap.none fun v _ => v = (.agg ⟨[(iV x.1), (iV x.2.1), (iV x.2.2.1), (iV x.2.2.2.1), (iV x.2.2.2.2)]⟩) := by
 refine icalls_fn (pfnw ?_);unfold f34 at H;refine R ?_;refine ⟨?_, ?_⟩
 · refine R ?_;refine aR ?_;refine R ?_;refine pbr_ogrd H (fun g1 H => ?_);refine R ?_;refine nth_o (l := ([(1 : Int), (0 : Int), (-1 : Int), (0 : Int)] : List Int)) H (fun x2 _ H => ?_);refine R ?_;refine aR ?_;refine R ?_;refine nth_o (l := ([(0 : Int), (1 : Int), (0 : Int), (-1 : Int)] : List Int)) H (fun x4 _ H => ?_);refine R ?_;refine aR ?_
   refine R ?_;cases H;rfl
 · obtain ⟨g1, H⟩ := ogrd_some H;obtain ⟨x2, h3, H⟩ := obnd_some H;obtain ⟨x4, h5, H⟩ := obnd_some H;refine R ?_;refine aR ?_;refine R ?_;refine nth_p (l := ([(0 : Int), (1 : Int), (0 : Int), (-1 : Int)] : List Int)) h5 ?_;refine R ?_;refine aR ?_;refine R ?_;refine nth_p (l := ([(1 : Int), (0 : Int), (-1 : Int), (0 : Int)] : List Int)) h3 ?_;refine R ?_
   refine R ?_;refine aR ?_;refine R ?_;cases H;rfl
noncomputable def f109  (a0 : Int) : Option Int :=
 some (imax a0 (IntKind.i64.wrap (0 - a0)))
theorem c109  {a0 : Int} {x : Int} (H : f109 a0 = some x) : ICalls E 109 [(iV a0)] AHeap.none fun v _ => v = (iV x) := by
 refine icalls_fn (pfnw ?_);unfold f109 at H;refine R ?_;cases H;rfl
noncomputable def f295 [LO]  (a0 : List Int) : Option ((List Int)) :=
 obnd (
 oloop (τ := Int) (ρ := Int) (fun e5 =>
 oite ((ilt (0 : Int) e5)) (
 ogrd ((ile 0 (IntKind.i64.wrap (e5 - (1 : Int))))) (
 obnd (a0[(IntKind.i64.wrap (e5 - (1 : Int))).toNat]?) fun (x10 : Int) =>
 oite ((ieq x10 (0 : Int))) (
 some (.inl (IntKind.i64.wrap (e5 - (1 : Int))))
 ) (
 some (.inr (e5))))
 ) (
 some (.inr (e5)))
 ) ((a0.map eI).length : Int)
 ) fun (r1 : Int) =>
 obnd (oslH a0 r1) fun (m14 : List Int) =>
 some m14
theorem c295 [LO]  {a0 : List Int} {x : (List Int)} (H : f295 a0 = some x) : ICalls E 295 [(VS 1 (a0.map eI))] AHeap.none fun v _ => v = (VS 1 (x.map eI)) := by
 refine ICalls.frz ?_;refine icalls_fn (pfnw ?_);unfold f295 at H;refine R ?_;obtain ⟨r1, h2, H⟩ := obnd_some H;refine pw_join (ρ := Int) (fun e => ⟨[(0, (VS 1 (a0.map eI))), (3, (iV e))], ⟨0, [], false⟩⟩) r1 ?_ ?_
 · refine R ?_;refine pw_loop (τ := Int) (fun e => ⟨[(0, (VS 1 (a0.map eI))), (3, (iV e))], ⟨0, [], false⟩⟩) h2 ?_ (fun _ => nl rfl) ?_
   · exact sb
   · intro e5 x6 h7;refine pw_seq ?_;refine R ?_;refine pbr_oite h7 (fun g8 h7 => ?_) (fun g8 h7 => ?_)
     · refine R ?_;refine pbr_ogrd h7 (fun g9 h7 => ?_);refine R ?_;refine nth_o (l := a0) h7 (fun x10 _ h7 => ?_);refine R ?_;refine pbr_oite h7 (fun g11 h7 => ?_) (fun g11 h7 => ?_)
       · refine R ?_;cases h7;refine ⟨_, rfl, ?_⟩;exact sb
       · refine R ?_;cases h7;refine ⟨_, rfl, ?_⟩;rintro rfl;refine R ?_;exact cr
     · refine R ?_;cases h7;refine ⟨_, rfl, ?_⟩;rintro rfl;refine R ?_;exact cr
 · refine R ?_;refine oslH_o (f := eI) H (fun m14 _ H h15 h16 => ?_);refine pbr_t (ile_t h15.1) ?_;refine R ?_;refine pbr_t (ile_t (by simpa only [List.length_map] using h15.2)) ?_;rw [h16];refine R ?_;cases H;show ∃ D, Fz _ D 0 (VS 1 _) _;exact ⟨fun _ => false, .cl⟩
noncomputable def f285 [LO]  (a0 : Int) (a1 : List Int) : Option (Int × (List Int)) :=
 obnd (f295 a1) fun (y1 : (List Int)) =>
 obnd (
 oite ((ieq ((y1.map eI).length : Int) (0 : Int))) (
 some (0 : Int)
 ) (
 some a0)
 ) fun (r3 : Int) =>
 some (r3, y1)
theorem c285 [LO]  {a0 : Int} {a1 : List Int} {x : Int × (List Int)} (H : f285 a0 a1 = some x) : ICalls E 285 [(iV a0), (VS 1 (a1.map eI))] AHeap.none fun v _ => v = (.agg ⟨[(iV x.1), (VS 1 (x.2.map eI))]⟩) := by
 refine ICalls.frz ?_;refine icalls_fn (pfnw ?_);unfold f285 at H;refine R ?_;obtain ⟨y1, h2, H⟩ := obnd_some H;refine (c295 h2).go ?_;refine R ?_;obtain ⟨r3, h4, H⟩ := obnd_some H;refine pw_join (ρ := Int) (fun e => ⟨[(0, (iV e)), (1, (VS 1 (y1.map eI))), (4, (pV 0 0))], ⟨1, [(0, .rw [(iV 0), (.slice none 0 0)])], false⟩⟩) r3 ?_ ?_
 · refine R ?_;refine pbr_oite h4 (fun g7 h4 => ?_) (fun g7 h4 => ?_)
   · refine R ?_;cases h4;exact cr
   · refine R ?_;cases h4;exact cr
 · refine R ?_;cases H;show ∃ D, Fz _ D 0 (.agg ⟨[(iV r3), (VS 1 _)]⟩) _;exact ⟨fun _ => false, .cl⟩
noncomputable def f273 [LO]  (a0 : Int) : Option (Int × (List Int)) :=
 obnd (
 oite ((ilt a0 (0 : Int))) (
 some (-1 : Int)
 ) (
 some (1 : Int))
 ) fun (r1 : Int) =>
 obnd (
 oloop (τ := Int × (List Int)) (ρ := (List Int)) (fun e10 =>
 oite ((!(ieq e10.1 (0 : Int)))) (
 obnd (f109 (e10.1.tmod (1000000000 : Int))) fun (y14 : Int) =>
 ogrd (fits 8 (e10.2.length + ([y14] : List Int).length)) (
 some (.inl (((IntKind.i64.wrap (e10.1.tdiv (1000000000 : Int))), (e10.2 ++ ([y14] : List Int))))))
 ) (
 some (.inr (e10.2)))
 ) (a0, ([] : List Int))
 ) fun (r6 : (List Int)) =>
 obnd (f285 r1 r6) fun (y17 : Int × (List Int)) =>
 some (y17.1, y17.2)
theorem c273 [LO]  {a0 : Int} {x : Int × (List Int)} (H : f273 a0 = some x) : ICalls E 273 [(iV a0)] AHeap.none fun v _ => v = (.agg ⟨[(iV x.1), (VS 1 (x.2.map eI))]⟩) := by
 refine ICalls.frz ?_;refine icalls_fn (pfnw ?_);unfold f273 at H;refine R ?_;obtain ⟨r1, h2, H⟩ := obnd_some H;refine pw_join (ρ := Int) (fun e => ⟨[(0, (iV a0)), (2, (pV 0 0)), (3, (iV e))], ⟨1, [(0, .rw [(iV 0), (.slice none 0 0)])], false⟩⟩) r1 ?_ ?_
 · refine R ?_;refine pbr_oite h2 (fun g5 h2 => ?_) (fun g5 h2 => ?_)
   · refine R ?_;cases h2;exact cr
   · refine R ?_;cases h2;exact cr
 · refine R ?_;obtain ⟨r6, h7, H⟩ := obnd_some H;refine pw_join (ρ := (List Int)) (fun e => ⟨[(2, (pV 0 0)), (3, (iV r1)), (4, (VT 1 (e.map eI) 1))], ⟨2, [(1, .tail (e.map eI).length 1), (0, .rw [(iV 0), (.slice none 0 0)])], false⟩⟩) r6 ?_ ?_
   · refine R ?_;refine pw_loop (τ := Int × (List Int)) (fun e => ⟨[(0, (iV e.1)), (2, (pV 0 0)), (3, (iV r1)), (4, (VT 1 (e.2.map eI) 1))], ⟨2, [(1, .tail (e.2.map eI).length 1), (0, .rw [(iV 0), (.slice none 0 0)])], false⟩⟩) h7 ?_ (fun _ => nl rfl) ?_
     · exact (Recast.nilTs 1 (nl rfl) (.same rfl (.same rfl (.same rfl (.turn rfl .nil)))))
     · intro e10 x11 h12;refine pw_seq ?_;refine R ?_;refine pbr_oite h12 (fun g13 h12 => ?_) (fun g13 h12 => ?_)
       · refine R ?_;obtain ⟨y14, h15, h12⟩ := obnd_some h12;refine (c109 h15).go ?_;refine R ?_;refine app_o (l := e10.2) (m := ([y14] : List Int)) (f := eI) h12 (by rfl) (by rfl) (by rfl) (fun h12 => ?_);refine R ?_;cases h12;refine ⟨_, rfl, ?_⟩;refine Recast.trunc (nl rfl) ?_ ?_
         · repeat (first | exact .nil | refine .cons rfl (by first | exact OBnd.rwc (nl rfl) rfl | exact OBnd.tail (nl rfl) | trivial) ?_)
         · repeat (first | exact .nil | refine .cons rfl (by first | exact Bnd.ptr (nl rfl) | exact Bnd.vt (nl rfl) | exact Bnd.cl) ?_)
       · refine R ?_;cases h12;refine ⟨_, rfl, ?_⟩;rintro rfl;refine R ?_;exact cr
   · refine R ?_;obtain ⟨y17, h18, H⟩ := obnd_some H;refine ICalls.goW (c285 h18) (.cons (.refl _) (.cons (.vt _ _ _) .nil)) ?_;refine R ?_;cases H;show ∃ D, Fz _ D 0 (.agg ⟨[(iV y17.1), (VS 1 _)]⟩) _;exact ⟨fun _ => false, .cl⟩
noncomputable def f271 [LO]  (a0 : Int) : Option (Int × (List Int) × Int × (List Int)) :=
 obnd (f273 a0) fun (y1 : Int × (List Int)) =>
 obnd (f273 (1 : Int)) fun (y3 : Int × (List Int)) =>
 some (y1.1, y1.2, y3.1, y3.2)
theorem c271 [LO]  {a0 : Int} {x : Int × (List Int) × Int × (List Int)} (H : f271 a0 = some x) : ICalls E 271 [(iV a0)] AHeap.none fun v _ => v = (.agg ⟨[(iV x.1), (VS 1 (x.2.1.map eI)), (iV x.2.2.1), (VS 1 (x.2.2.2.map eI))]⟩) := by
 refine ICalls.frz ?_;refine icalls_fn (pfnw ?_);unfold f271 at H;refine R ?_;obtain ⟨y1, h2, H⟩ := obnd_some H;refine (c273 h2).go ?_;refine R ?_;obtain ⟨y3, h4, H⟩ := obnd_some H;refine (c273 h4).go ?_;refine R ?_;cases H;show ∃ D, Fz _ D 0 (.agg ⟨[(iV y1.1), (VS 1 _), (iV y3.1), (VS 1 _)]⟩) _;exact ⟨fun _ => false, .cl⟩
noncomputable def f286  (a0 : Int) (_ : List Int) : Option Int :=
 some a0
theorem c286  {a0 : Int} {a1 : List Int} {x : Int} (H : f286 a0 a1 = some x) : ICalls E 286 [(.agg ⟨[(iV a0), (VS 1 (a1.map eI))]⟩)] AHeap.none fun v _ => v = (iV x) := by
 refine icalls_fn (pfnw ?_);unfold f286 at H;refine R ?_;cases H;rfl
noncomputable def f282  (a0 : Int) (a1 : List Int) (_ : Int) (_ : List Int) : Option Int :=
 obnd (f286 a0 a1) fun (y1 : Int) =>
 some y1
theorem c282  {a0 : Int} {a1 : List Int} {a2 : Int} {a3 : List Int} {x : Int} (H : f282 a0 a1 a2 a3 = some x) : ICalls E 282 [(.agg ⟨[(iV a0), (VS 1 (a1.map eI)), (iV a2), (VS 1 (a3.map eI))]⟩)] AHeap.none fun v _ => v = (iV x) := by
 refine icalls_fn (pfnw ?_);unfold f282 at H;refine R ?_;obtain ⟨y1, h2, H⟩ := obnd_some H;refine (c286 h2).go ?_;refine R ?_;cases H;rfl
noncomputable def f274 [LO]  (a0 : Int) (a1 : List Int) (a2 : Int) (a3 : List Int) : Option (Int × (List Int)) :=
 ogrd (mfits 8 (IntKind.i64.wrap ((IntKind.i64.wrap (((a1.map eI).length : Int) + ((a3.map eI).length : Int))) + (1 : Int))) (IntKind.i64.wrap ((IntKind.i64.wrap (((a1.map eI).length : Int) + ((a3.map eI).length : Int))) + (1 : Int)))) (
 obnd (
 oloop (τ := Int × (List Int)) (ρ := (List Int)) (fun e6 =>
 oite ((ilt e6.1 ((a1.map eI).length : Int))) (
 obnd (
 oloop (τ := Int × Int × (List Int)) (ρ := Int × (List Int)) (fun e14 =>
 oite ((ilt e14.2.1 ((a3.map eI).length : Int))) (
 ogrd ((ile 0 (IntKind.i64.wrap (e6.1 + e14.2.1)))) (
 ogrd ((ilt (IntKind.i64.wrap (e6.1 + e14.2.1)) ((IntKind.i64.wrap ((IntKind.i64.wrap (((a1.map eI).length : Int) + ((a3.map eI).length : Int))) + (1 : Int))).toNat : Int))) (
 obnd (e14.2.2[(IntKind.i64.wrap (e6.1 + e14.2.1)).toNat]?) fun (x20 : Int) =>
 ogrd ((ile 0 e6.1)) (
 obnd (a1[e6.1.toNat]?) fun (x24 : Int) =>
 ogrd ((ile 0 e14.2.1)) (
 obnd (a3[e14.2.1.toNat]?) fun (x26 : Int) =>
 ogrd (Nat.blt (IntKind.i64.wrap (e6.1 + e14.2.1)).toNat e14.2.2.length) (
 some (.inl (((IntKind.i64.wrap ((IntKind.i64.wrap ((IntKind.i64.wrap (x20 + (IntKind.i64.wrap (x24 * x26)))) + e14.1)).tdiv (1000000000 : Int))), (IntKind.i64.wrap (e14.2.1 + (1 : Int))), (e14.2.2.set (IntKind.i64.wrap (e6.1 + e14.2.1)).toNat ((IntKind.i64.wrap ((IntKind.i64.wrap (x20 + (IntKind.i64.wrap (x24 * x26)))) + e14.1)).tmod (1000000000 : Int)))))))))))
 ) (
 some (.inr ((e14.1, e14.2.2))))
 ) (((0 : Int), (0 : Int), e6.2))
 ) fun (r10 : Int × (List Int)) =>
 ogrd ((ile 0 (IntKind.i64.wrap (e6.1 + ((a3.map eI).length : Int))))) (
 ogrd ((ilt (IntKind.i64.wrap (e6.1 + ((a3.map eI).length : Int))) ((IntKind.i64.wrap ((IntKind.i64.wrap (((a1.map eI).length : Int) + ((a3.map eI).length : Int))) + (1 : Int))).toNat : Int))) (
 obnd (r10.2[(IntKind.i64.wrap (e6.1 + ((a3.map eI).length : Int))).toNat]?) fun (x31 : Int) =>
 ogrd (Nat.blt (IntKind.i64.wrap (e6.1 + ((a3.map eI).length : Int))).toNat r10.2.length) (
 some (.inl (((IntKind.i64.wrap (e6.1 + (1 : Int))), (r10.2.set (IntKind.i64.wrap (e6.1 + ((a3.map eI).length : Int))).toNat (IntKind.i64.wrap (x31 + r10.1)))))))))
 ) (
 oinr (
 ogrd (Nat.beq (IntKind.i64.wrap ((IntKind.i64.wrap (((a1.map eI).length : Int) + ((a3.map eI).length : Int))) + (1 : Int))).toNat e6.2.length) (
 some e6.2)))
 ) (((0 : Int), (List.replicate (IntKind.i64.wrap ((IntKind.i64.wrap (((a1.map eI).length : Int) + ((a3.map eI).length : Int))) + (1 : Int))).toNat (0 : Int))))
 ) fun (r2 : (List Int)) =>
 obnd (f285 (IntKind.i64.wrap (a0 * a2)) r2) fun (y38 : Int × (List Int)) =>
 some (y38.1, y38.2))
theorem c274 [LO]  {a0 : Int} {a1 : List Int} {a2 : Int} {a3 : List Int} {x : Int × (List Int)} (H : f274 a0 a1 a2 a3 = some x) : ICalls E 274 [(.agg ⟨[(iV a0), (VS 1 (a1.map eI))]⟩), (.agg ⟨[(iV a2), (VS 1 (a3.map eI))]⟩)] AHeap.none fun v _ => v = (.agg ⟨[(iV x.1), (VS 1 (x.2.map eI))]⟩) := by
 refine ICalls.frz ?_;refine icalls_fn (pfnw ?_);unfold f274 at H;refine R ?_;obtain ⟨g1, H⟩ := ogrd_some H;refine mk_o (f := eI) (x := (0 : Int)) rfl g1 ?_;refine R ?_;obtain ⟨r2, h3, H⟩ := obnd_some H;refine pw_joinR (ρ := (List Int)) (fun e => ⟨[(2, (pV 0 0)), (3, (pV 1 0)), (4, (pV 2 0)), (5, (VS 1 (e.map eI)))], ⟨4, [(2, .rw [(iV 0), (.slice none 0 0)]), (1, .rw [(iV a2), (VS 1 (a3.map eI))]), (0, .rw [(iV a0), (VS 1 (a1.map eI))])], false⟩⟩) r2 ?_ ?_
 · refine R ?_;refine pw_loop (τ := Int × (List Int)) (fun e => ⟨[(2, (pV 0 0)), (3, (pV 1 0)), (4, (pV 2 0)), (5, (.slice (some ⟨3, 0, none⟩) (IntKind.i64.wrap ((IntKind.i64.wrap (((a1.map eI).length : Int) + ((a3.map eI).length : Int))) + (1 : Int))).toNat 1)), (6, (iV e.1))], ⟨4, [(3, .rw (e.2.map eI)), (2, .rw [(iV 0), (.slice none 0 0)]), (1, .rw [(iV a2), (VS 1 (a3.map eI))]), (0, .rw [(iV a0), (VS 1 (a1.map eI))])], false⟩⟩) h3 ?_ (fun _ => nl rfl) ?_
   · exact sb
   · intro e6 x7 h8;refine pw_seq ?_;refine R ?_;refine pbr_oite h8 (fun g9 h8 => ?_) (fun g9 h8 => ?_)
     · refine R ?_;refine pw_seq ?_;refine R ?_;obtain ⟨r10, h11, h8⟩ := obnd_some h8;refine pw_join (ρ := Int × (List Int)) (fun e => ⟨[(2, (pV 0 0)), (3, (pV 1 0)), (4, (pV 2 0)), (5, (.slice (some ⟨3, 0, none⟩) (IntKind.i64.wrap ((IntKind.i64.wrap (((a1.map eI).length : Int) + ((a3.map eI).length : Int))) + (1 : Int))).toNat 1)), (6, (iV e6.1)), (7, (iV e.1))], ⟨4, [(3, .rw (e.2.map eI)), (2, .rw [(iV 0), (.slice none 0 0)]), (1, .rw [(iV a2), (VS 1 (a3.map eI))]), (0, .rw [(iV a0), (VS 1 (a1.map eI))])], false⟩⟩) r10 ?_ ?_
       · refine R ?_;refine pw_loop (τ := Int × Int × (List Int)) (fun e => ⟨[(2, (pV 0 0)), (3, (pV 1 0)), (4, (pV 2 0)), (5, (.slice (some ⟨3, 0, none⟩) (IntKind.i64.wrap ((IntKind.i64.wrap (((a1.map eI).length : Int) + ((a3.map eI).length : Int))) + (1 : Int))).toNat 1)), (6, (iV e6.1)), (7, (iV e.1)), (8, (iV e.2.1))], ⟨4, [(3, .rw (e.2.2.map eI)), (2, .rw [(iV 0), (.slice none 0 0)]), (1, .rw [(iV a2), (VS 1 (a3.map eI))]), (0, .rw [(iV a0), (VS 1 (a1.map eI))])], false⟩⟩) h11 ?_ (fun _ => nl rfl) ?_
         · exact sb
         · intro e14 x15 h16;refine pw_seq ?_;refine R ?_;refine pbr_oite h16 (fun g17 h16 => ?_) (fun g17 h16 => ?_)
           · refine R ?_;refine pw_seq ?_;refine R ?_;refine pbr_ogrd h16 (fun g18 h16 => ?_);refine R ?_;refine pbr_ogrd h16 (fun g19 h16 => ?_);refine R ?_;refine nth_a (l := e14.2.2) (f := eI) h16 (fun x20 h21 h16 => ?_);refine R ?_;refine pbr_ogrd h16 (fun g23 h16 => ?_);refine R ?_;refine nth_o (l := a1) h16 (fun x24 _ h16 => ?_);refine R ?_;refine pbr_ogrd h16 (fun g25 h16 => ?_);refine R ?_;refine nth_o (l := a3) h16 (fun x26 _ h16 => ?_);refine R ?_
             refine R ?_;obtain ⟨g27, h16⟩ := ogrd_some h16;refine set_a (l := e14.2.2) (f := eI) (x := ((IntKind.i64.wrap ((IntKind.i64.wrap (x20 + (IntKind.i64.wrap (x24 * x26)))) + e14.1)).tmod (1000000000 : Int))) g27 rfl ?_;refine R ?_;cases h16;refine ⟨_, rfl, ?_⟩;exact sb
           · refine R ?_;cases h16;refine ⟨_, rfl, ?_⟩;rintro rfl;refine R ?_;exact cr
       · refine R ?_;refine pbr_ogrd h8 (fun g29 h8 => ?_);refine R ?_;refine pbr_ogrd h8 (fun g30 h8 => ?_);refine R ?_;refine nth_a (l := r10.2) (f := eI) h8 (fun x31 h32 h8 => ?_);refine R ?_;obtain ⟨g34, h8⟩ := ogrd_some h8;refine set_a (l := r10.2) (f := eI) (x := (IntKind.i64.wrap (x31 + r10.1))) g34 rfl ?_;refine R ?_;refine ⟨by repeat (first | exact trivial | refine And.intro rfl ?_ | refine And.intro (lev_a (l := r10.2) (f := eI) rfl h32) ?_), ?_⟩;refine R ?_
         refine R ?_;cases h8;refine ⟨_, rfl, ?_⟩;exact sb
     · refine R ?_;obtain ⟨w37, rfl, h35⟩ := oinr_some h8;refine ⟨_, rfl, ?_⟩;rintro rfl;refine R ?_;obtain ⟨g36, h35⟩ := ogrd_some h35;cases h35;exact Recast.fz (fun b => Nat.beq b 3) (nl rfl) (.cons (.same rfl rfl (OBnd.rwl (nl rfl) rfl (.cons .cl (.cons .cl .nil)))) (.cons (.same rfl rfl (OBnd.rwl (nl rfl) rfl (.cons .cl (.cons .cl .nil)))) (.cons (.same rfl rfl (OBnd.rwl (nl rfl) rfl (.cons .cl (.cons .cl .nil)))) .nil))) (.cons rfl (.same _ (.ptr (nl rfl))) (.cons rfl (.same _ (.ptr (nl rfl))) (.cons rfl (.same _ (.ptr (nl rfl))) (.cons rfl (.slm rfl rfl g36 (fun _ => rfl)) .nil))))
 · refine R ?_;obtain ⟨y38, h39, H⟩ := obnd_some H;refine (c285 h39).go ?_;refine R ?_;cases H;show ∃ D, Fz _ D 0 (.agg ⟨[(iV y38.1), (VS 1 _)]⟩) _;exact ⟨fun _ => false, .cl⟩
noncomputable def f287  (a0 : Int) (a1 : List Int) : Option (Int × (List Int)) :=
 some ((IntKind.i64.wrap (0 - a0)), a1)
theorem c287  {a0 : Int} {a1 : List Int} {x : Int × (List Int)} (H : f287 a0 a1 = some x) : ICalls E 287 [(.agg ⟨[(iV a0), (VS 1 (a1.map eI))]⟩)] AHeap.none fun v _ => v = (.agg ⟨[(iV x.1), (VS 1 (x.2.map eI))]⟩) := by
 refine ICalls.frz ?_;refine icalls_fn (pfnw ?_);unfold f287 at H;refine R ?_;cases H;show ∃ D, Fz _ D 0 (.agg ⟨[(iV (IntKind.i64.wrap (0 - a0))), (VS 1 _)]⟩) _;exact ⟨fun _ => false, .cl⟩
noncomputable def f296  (a0 : Int) (a1 : List Int) : Option (Int × (List Int)) :=
 oite ((ilt a0 (0 : Int))) (
 obnd (f287 a0 a1) fun (y2 : Int × (List Int)) =>
 some (y2.1, y2.2)
 ) (
 some (a0, a1))
theorem c296  {a0 : Int} {a1 : List Int} {x : Int × (List Int)} (H : f296 a0 a1 = some x) : ICalls E 296 [(.agg ⟨[(iV a0), (VS 1 (a1.map eI))]⟩)] AHeap.none fun v _ => v = (.agg ⟨[(iV x.1), (VS 1 (x.2.map eI))]⟩) := by
 refine ICalls.frz ?_;refine icalls_fn (pfnw ?_);unfold f296 at H;refine R ?_;refine pw_seq ?_;refine R ?_;refine pbr_oite H (fun g1 H => ?_) (fun g1 H => ?_)
 · refine R ?_;obtain ⟨y2, h3, H⟩ := obnd_some H;refine (c287 h3).go ?_;refine R ?_;cases H;show ∃ D, Fz _ D 0 (.agg ⟨[(iV y2.1), (VS 1 _)]⟩) _;exact ⟨fun _ => false, .cl⟩
 · refine R ?_;cases H;show ∃ D, Fz _ D 0 (.agg ⟨[(iV a0), (VS 1 _)]⟩) _;exact ⟨fun _ => false, .cl⟩
noncomputable def f291 [LO]  (a0 : List Int) (a1 : List Int) : Option Int :=
 oite ((!(ieq ((a0.map eI).length : Int) ((a1.map eI).length : Int)))) (
 oite ((ilt ((a0.map eI).length : Int) ((a1.map eI).length : Int))) (
 some (-1 : Int)
 ) (
 some (1 : Int))
 ) (
 obndS (
 oloop (τ := Int) (ρ := (Unit) ⊕ Int) (fun e7 =>
 oite ((ile (0 : Int) e7)) (
 ogrd ((ile 0 e7)) (
 obnd (a0[e7.toNat]?) fun (x12 : Int) =>
 obnd (a1[e7.toNat]?) fun (x13 : Int) =>
 oite ((ilt x12 x13)) (
 some (.inr (.inr ((-1 : Int))))
 ) (
 obnd (a0[e7.toNat]?) fun (x16 : Int) =>
 obnd (a1[e7.toNat]?) fun (x17 : Int) =>
 oite ((ilt x17 x16)) (
 some (.inr (.inr ((1 : Int))))
 ) (
 some (.inl (IntKind.i64.wrap (e7 - (1 : Int)))))))
 ) (
 some (.inr (.inl ())))
 ) ((IntKind.i64.wrap (((a0.map eI).length : Int) - (1 : Int))))
 ) fun (_ : Unit) =>
 some (0 : Int))
theorem c291 [LO]  {a0 : List Int} {a1 : List Int} {x : Int} (H : f291 a0 a1 = some x) : ICalls E 291 [(VS 1 (a0.map eI)), (VS 1 (a1.map eI))] AHeap.none fun v _ => v = (iV x) := by
 refine icalls_fn (pfnw ?_);unfold f291 at H;refine R ?_;refine pw_seq ?_;refine R ?_;refine pbr_oite H (fun g1 H => ?_) (fun g1 H => ?_)
 · refine R ?_;refine pw_seq ?_;refine R ?_;refine pbr_oite H (fun g2 H => ?_) (fun g2 H => ?_)
   · refine R ?_;cases H;rfl
   · refine R ?_;cases H;rfl
 · refine R ?_;obtain ⟨r3, h4, h5, h6⟩ := obndS_some H;refine pw_joinS (ρ := Unit) (fun e => ⟨[], ⟨0, [], false⟩⟩) r3 ?_ ?_
   · refine R ?_;refine pw_loop (τ := Int) (fun e => ⟨[(0, (VS 1 (a0.map eI))), (1, (VS 1 (a1.map eI))), (5, (iV e))], ⟨0, [], false⟩⟩) h4 ?_ (fun _ => nl rfl) ?_
     · exact sb
     · intro e7 x8 h9;refine pw_seq ?_;refine R ?_;refine pbr_oite h9 (fun g10 h9 => ?_) (fun g10 h9 => ?_)
       · (conv=>whnf);refine pw_skip ?_;(conv=>whnf);refine pw_seq ?_;refine pw_block ?_;refine pw_seq ?_;refine pw_sd ?_;(conv=>whnf);refine pbr_ogrd h9 (fun g11 h9 => ?_);(conv=>whnf);refine nth_o (l := a0) h9 (fun x12 _ h9 => ?_);(conv=>whnf);refine pbr_t g11 ?_;(conv=>whnf);refine nth_o (l := a1) h9 (fun x13 _ h9 => ?_);(conv=>whnf);refine pw_cond ?_;(conv=>whnf);refine pbr_oite h9 (fun g14 h9 => ?_) (fun g14 h9 => ?_)
         · refine R ?_;cases h9;refine ⟨_, rfl, ?_⟩;rintro rfl;refine R ?_;obtain rfl := h6 _ rfl;rfl
         · refine R ?_;refine nth_o (l := a0) h9 (fun x16 _ h9 => ?_);refine R ?_;refine nth_o (l := a1) h9 (fun x17 _ h9 => ?_);refine R ?_;refine pbr_oite h9 (fun g18 h9 => ?_) (fun g18 h9 => ?_)
           · refine R ?_;cases h9;refine ⟨_, rfl, ?_⟩;rintro rfl;refine R ?_;obtain rfl := h6 _ rfl;rfl
           · refine R ?_;cases h9;refine ⟨_, rfl, ?_⟩;exact sb
       · refine R ?_;cases h9;refine ⟨_, rfl, ?_⟩;rintro rfl;refine R ?_;exact ⟨_, rfl, cr⟩
   · intro r21 hr;have H := h5 _ hr;refine R ?_;cases H;rfl
noncomputable def f297  (a0 : List Int) (a1 : Int) : Option Int :=
 oite ((ilt a1 ((a0.map eI).length : Int))) (
 ogrd ((ile 0 a1)) (
 obnd (a0[a1.toNat]?) fun (x3 : Int) =>
 some x3)
 ) (
 some (0 : Int))
theorem c297  {a0 : List Int} {a1 : Int} {x : Int} (H : f297 a0 a1 = some x) : ICalls E 297 [(VS 1 (a0.map eI)), (iV a1)] AHeap.none fun v _ => v = (iV x) := by
 refine icalls_fn (pfnw ?_);unfold f297 at H;refine R ?_;refine pw_seq ?_;refine R ?_;refine pbr_oite H (fun g1 H => ?_) (fun g1 H => ?_)
 · refine R ?_;refine pbr_ogrd H (fun g2 H => ?_);refine R ?_;refine nth_o (l := a0) H (fun x3 _ H => ?_);refine R ?_;cases H;rfl
 · refine R ?_;cases H;rfl
noncomputable def f292 [LO]  (a0 : List Int) (a1 : List Int) : Option ((List Int)) :=
 obnd (
 oloop (τ := (List Int) × Int × Int) (ρ := (List Int)) (fun e5 =>
 oite ((ilt e5.2.2 ((a0.map eI).length : Int))) (
 ogrd ((ile 0 e5.2.2)) (
 obnd (a0[e5.2.2.toNat]?) fun (x10 : Int) =>
 obnd (f297 a1 e5.2.2) fun (y11 : Int) =>
 obnd (
 oite ((ilt (IntKind.i64.wrap ((IntKind.i64.wrap (x10 - y11)) - e5.2.1)) (0 : Int))) (
 some ((1 : Int), (IntKind.i64.wrap ((IntKind.i64.wrap ((IntKind.i64.wrap (x10 - y11)) - e5.2.1)) + (1000000000 : Int))))
 ) (
 some ((0 : Int), (IntKind.i64.wrap ((IntKind.i64.wrap (x10 - y11)) - e5.2.1))))
 ) fun (r13 : Int × Int) =>
 ogrd (fits 8 (e5.1.length + ([r13.2] : List Int).length)) (
 some (.inl (((e5.1 ++ ([r13.2] : List Int)), r13.1, (IntKind.i64.wrap (e5.2.2 + (1 : Int))))))))
 ) (
 some (.inr (e5.1)))
 ) ((([] : List Int), (0 : Int), (0 : Int)))
 ) fun (r1 : (List Int)) =>
 obnd (f295 r1) fun (y19 : (List Int)) =>
 some y19
theorem c292 [LO]  {a0 : List Int} {a1 : List Int} {x : (List Int)} (H : f292 a0 a1 = some x) : ICalls E 292 [(VS 1 (a0.map eI)), (VS 1 (a1.map eI))] AHeap.none fun v _ => v = (VS 1 (x.map eI)) := by
 refine ICalls.frz ?_;refine icalls_fn (pfnw ?_);unfold f292 at H;refine R ?_;obtain ⟨r1, h2, H⟩ := obnd_some H;refine pw_join (ρ := (List Int)) (fun e => ⟨[(5, (VT 1 (e.map eI) 0))], ⟨1, [(0, .tail (e.map eI).length 1)], false⟩⟩) r1 ?_ ?_
 · refine R ?_;refine pw_loop (τ := (List Int) × Int × Int) (fun e => ⟨[(0, (VS 1 (a0.map eI))), (1, (VS 1 (a1.map eI))), (5, (VT 1 (e.1.map eI) 0)), (6, (iV e.2.1)), (7, (iV e.2.2))], ⟨1, [(0, .tail (e.1.map eI).length 1)], false⟩⟩) h2 ?_ (fun _ => nl rfl) ?_
   · exact (Recast.nilTs 1 (nl rfl) (.same rfl (.same rfl (.turn rfl (.same rfl (.same rfl .nil))))))
   · intro e5 x6 h7;refine pw_seq ?_;refine R ?_;refine pbr_oite h7 (fun g8 h7 => ?_) (fun g8 h7 => ?_)
     · refine R ?_;refine pw_seq ?_;refine R ?_;refine pbr_ogrd h7 (fun g9 h7 => ?_);refine R ?_;refine nth_o (l := a0) h7 (fun x10 _ h7 => ?_);refine R ?_;obtain ⟨y11, h12, h7⟩ := obnd_some h7;refine (c297 h12).go ?_;refine R ?_;refine aR ?_;refine R ?_;obtain ⟨r13, h14, h7⟩ := obnd_some h7;refine pw_join (ρ := Int × Int) (fun e => ⟨[(0, (VS 1 (a0.map eI))), (1, (VS 1 (a1.map eI))), (5, (VT 1 (e5.1.map eI) 0)), (6, (iV e.1)), (7, (iV e5.2.2)), (8, (iV e.2))], ⟨1, [(0, .tail (e5.1.map eI).length 1)], false⟩⟩) r13 ?_ ?_
       · refine R ?_;refine pbr_oite h14 (fun g17 h14 => ?_) (fun g17 h14 => ?_)
         · refine R ?_;cases h14;exact cr
         · refine R ?_;cases h14;exact cr
       · refine R ?_;refine app_o (l := e5.1) (m := ([r13.2] : List Int)) (f := eI) h7 (by rfl) (by rfl) (by rfl) (fun h7 => ?_);refine R ?_;cases h7;refine ⟨_, rfl, ?_⟩;refine Recast.trunc (nl rfl) ?_ ?_
         · repeat (first | exact .nil | refine .cons rfl (by first | exact OBnd.rwc (nl rfl) rfl | exact OBnd.tail (nl rfl) | trivial) ?_)
         · repeat (first | exact .nil | refine .cons rfl (by first | exact Bnd.ptr (nl rfl) | exact Bnd.vt (nl rfl) | exact Bnd.cl) ?_)
     · refine R ?_;cases h7;refine ⟨_, rfl, ?_⟩;rintro rfl;refine R ?_;exact cr
 · refine R ?_;obtain ⟨y19, h20, H⟩ := obnd_some H;refine ICalls.goW (c295 h20) (.cons (.vt _ _ _) .nil) ?_;refine R ?_;cases H;show ∃ D, Fz _ D 0 (VS 1 _) _;exact ⟨fun _ => false, .cl⟩
noncomputable def f290 [LO]  (a0 : List Int) (a1 : List Int) : Option ((List Int)) :=
 obnd (
 oloop (τ := (List Int) × Int × Int) (ρ := (List Int)) (fun e5 =>
 obndS (
 obnd (
 oite ((ilt e5.2.2 ((a0.map eI).length : Int))) (
 some true
 ) (
 some (ilt e5.2.2 ((a1.map eI).length : Int)))
 ) fun (r12 : Bool) =>
 oite r12 (
 some (.inl ())
 ) (
 oite ((ilt (0 : Int) e5.2.1)) (
 some (.inl ())
 ) (
 some (.inr (.inr (e5.1)))))
 ) fun (_ : Unit) =>
 obnd (f297 a0 e5.2.2) fun (y19 : Int) =>
 obnd (f297 a1 e5.2.2) fun (y21 : Int) =>
 ogrd (fits 8 (e5.1.length + ([((IntKind.i64.wrap ((IntKind.i64.wrap (y19 + y21)) + e5.2.1)).tmod (1000000000 : Int))] : List Int).length)) (
 some (.inl (((e5.1 ++ ([((IntKind.i64.wrap ((IntKind.i64.wrap (y19 + y21)) + e5.2.1)).tmod (1000000000 : Int))] : List Int)), (IntKind.i64.wrap ((IntKind.i64.wrap ((IntKind.i64.wrap (y19 + y21)) + e5.2.1)).tdiv (1000000000 : Int))), (IntKind.i64.wrap (e5.2.2 + (1 : Int)))))))
 ) ((([] : List Int), (0 : Int), (0 : Int)))
 ) fun (r1 : (List Int)) =>
 some r1
theorem c290 [LO]  {a0 : List Int} {a1 : List Int} {x : (List Int)} (H : f290 a0 a1 = some x) : ICalls E 290 [(VS 1 (a0.map eI)), (VS 1 (a1.map eI))] AHeap.none fun v _ => v = (VS 1 (x.map eI)) := by
 refine ICalls.frz ?_;refine icalls_fn (pfnw ?_);unfold f290 at H;refine R ?_;obtain ⟨r1, h2, H⟩ := obnd_some H;refine pw_join (ρ := (List Int)) (fun e => ⟨[(5, (VT 1 (e.map eI) 0))], ⟨1, [(0, .tail (e.map eI).length 1)], false⟩⟩) r1 ?_ ?_
 · refine R ?_;refine pw_loop (τ := (List Int) × Int × Int) (fun e => ⟨[(0, (VS 1 (a0.map eI))), (1, (VS 1 (a1.map eI))), (5, (VT 1 (e.1.map eI) 0)), (6, (iV e.2.1)), (7, (iV e.2.2))], ⟨1, [(0, .tail (e.1.map eI).length 1)], false⟩⟩) h2 ?_ (fun _ => nl rfl) ?_
   · exact (Recast.nilTs 1 (nl rfl) (.same rfl (.same rfl (.turn rfl (.same rfl (.same rfl .nil))))))
   · intro e5 x6 h7;obtain ⟨r8, h9, h10, h11⟩ := obndS_some h7;refine pw_joinS (ρ := Unit) (fun e => ⟨[(0, (VS 1 (a0.map eI))), (1, (VS 1 (a1.map eI))), (5, (VT 1 (e5.1.map eI) 0)), (6, (iV e5.2.1)), (7, (iV e5.2.2))], ⟨1, [(0, .tail (e5.1.map eI).length 1)], false⟩⟩) r8 ?_ ?_
     · refine pw_so ?_;refine po_ops 5 ?_;(conv=>whnf);obtain ⟨r12, h13, h9⟩ := obnd_some h9;refine po_seg (τ := Bool) 5 (fun e => ⟨[(0, (VS 1 (a0.map eI))), (1, (VS 1 (a1.map eI))), (5, (VT 1 (e5.1.map eI) 0)), (6, (iV e5.2.1)), (7, (iV e5.2.2)), (18, (.bool e))], ⟨1, [(0, .tail (e5.1.map eI).length 1)], false⟩⟩) r12 ?_ ?_
       · refine R ?_;refine pbr_oite h13 (fun g14 h13 => ?_) (fun g14 h13 => ?_)
         · refine R ?_;cases h13;exact cr
         · refine R ?_;cases h13;exact cr
       · refine R ?_;refine pbr_oite h9 (fun g15 h9 => ?_) (fun g15 h9 => ?_)
         · refine R ?_;cases h9;exact ⟨_, rfl, cr⟩
         · refine R ?_;refine pbr_oite h9 (fun g16 h9 => ?_) (fun g16 h9 => ?_)
           · refine R ?_;cases h9;exact ⟨_, rfl, cr⟩
           · refine R ?_;cases h9;obtain rfl := h11 _ rfl;refine ⟨_, rfl, ?_⟩;rintro rfl;refine R ?_;exact cr
     · intro r18 hr;have h7 := h10 _ hr;refine pw_seq ?_;refine R ?_;obtain ⟨y19, h20, h7⟩ := obnd_some h7;refine (c297 h20).go ?_;refine R ?_;obtain ⟨y21, h22, h7⟩ := obnd_some h7;refine (c297 h22).go ?_;refine R ?_;refine app_o (l := e5.1) (m := ([((IntKind.i64.wrap ((IntKind.i64.wrap (y19 + y21)) + e5.2.1)).tmod (1000000000 : Int))] : List Int)) (f := eI) h7 (by rfl) (by rfl) (by rfl) (fun h7 => ?_);refine R ?_;cases h7;refine ⟨_, rfl, ?_⟩;refine Recast.trunc (nl rfl) ?_ ?_
       · repeat (first | exact .nil | refine .cons rfl (by first | exact OBnd.rwc (nl rfl) rfl | exact OBnd.tail (nl rfl) | trivial) ?_)
       · repeat (first | exact .nil | refine .cons rfl (by first | exact Bnd.ptr (nl rfl) | exact Bnd.vt (nl rfl) | exact Bnd.cl) ?_)
 · refine R ?_;cases H;show ∃ D, Fz _ D 0 (VT 1 _ 0) _;exact ⟨fun _ => false, .vtc⟩
noncomputable def f281 [LO]  (a0 : Int) (a1 : List Int) (a2 : Int) (a3 : List Int) : Option (Int × (List Int)) :=
 oite ((ieq a0 (0 : Int))) (
 some (a2, a3)
 ) (
 oite ((ieq a2 (0 : Int))) (
 some (a0, a1)
 ) (
 oite ((ieq a0 a2)) (
 obnd (f290 a1 a3) fun (y4 : (List Int)) =>
 obnd (f285 a0 y4) fun (y6 : Int × (List Int)) =>
 some (y6.1, y6.2)
 ) (
 obnd (f291 a1 a3) fun (y8 : Int) =>
 oite ((ieq y8 (0 : Int))) (
 some ((0 : Int), ([] : List Int))
 ) (
 oite ((ilt (0 : Int) y8)) (
 obnd (f292 a1 a3) fun (y12 : (List Int)) =>
 obnd (f285 a0 y12) fun (y14 : Int × (List Int)) =>
 some (y14.1, y14.2)
 ) (
 obnd (f292 a3 a1) fun (y16 : (List Int)) =>
 obnd (f285 a2 y16) fun (y18 : Int × (List Int)) =>
 some (y18.1, y18.2))))))
theorem c281 [LO]  {a0 : Int} {a1 : List Int} {a2 : Int} {a3 : List Int} {x : Int × (List Int)} (H : f281 a0 a1 a2 a3 = some x) : ICalls E 281 [(.agg ⟨[(iV a0), (VS 1 (a1.map eI))]⟩), (.agg ⟨[(iV a2), (VS 1 (a3.map eI))]⟩)] AHeap.none fun v _ => v = (.agg ⟨[(iV x.1), (VS 1 (x.2.map eI))]⟩) := by
 refine ICalls.frz ?_;refine icalls_fn (pfnw ?_);unfold f281 at H;refine R ?_;refine pw_seq ?_;refine R ?_;refine pbr_oite H (fun g1 H => ?_) (fun g1 H => ?_)
 · refine R ?_;cases H;show ∃ D, Fz _ D 0 (.agg ⟨[(iV a2), (VS 1 _)]⟩) _;exact ⟨fun _ => false, .cl⟩
 · refine R ?_;refine pw_seq ?_;refine R ?_;refine pbr_oite H (fun g2 H => ?_) (fun g2 H => ?_)
   · refine R ?_;cases H;show ∃ D, Fz _ D 0 (.agg ⟨[(iV a0), (VS 1 _)]⟩) _;exact ⟨fun _ => false, .cl⟩
   · refine R ?_;refine pw_seq ?_;refine R ?_;refine pbr_oite H (fun g3 H => ?_) (fun g3 H => ?_)
     · refine R ?_;obtain ⟨y4, h5, H⟩ := obnd_some H;refine (c290 h5).go ?_;refine R ?_;refine aR ?_;refine R ?_;obtain ⟨y6, h7, H⟩ := obnd_some H;refine (c285 h7).go ?_;refine R ?_;refine aR ?_;refine R ?_;refine aR ?_;refine R ?_;cases H;show ∃ D, Fz _ D 0 (.agg ⟨[(iV y6.1), (VS 1 _)]⟩) _
       exact ⟨fun _ => false, .cl⟩
     · refine R ?_;obtain ⟨y8, h9, H⟩ := obnd_some H;refine (c291 h9).go ?_;refine R ?_;refine pw_seq ?_;refine R ?_;refine pbr_oite H (fun g10 H => ?_) (fun g10 H => ?_)
       · refine R ?_;cases H;show ∃ D, Fz _ D 0 (.agg ⟨[(iV 0), (.slice none 0 0)]⟩) _;exact ⟨fun _ => false, .aggl (.cons .cl (.cons (.nil _) (.nil)))⟩
       · refine R ?_;refine pw_seq ?_;refine R ?_;refine pbr_oite H (fun g11 H => ?_) (fun g11 H => ?_)
         · refine R ?_;obtain ⟨y12, h13, H⟩ := obnd_some H;refine (c292 h13).go ?_;refine R ?_;refine aR ?_;refine R ?_;obtain ⟨y14, h15, H⟩ := obnd_some H;refine (c285 h15).go ?_;refine R ?_;refine aR ?_;refine R ?_;refine aR ?_;refine R ?_;cases H;show ∃ D, Fz _ D 0 (.agg ⟨[(iV y14.1), (VS 1 _)]⟩) _
           exact ⟨fun _ => false, .cl⟩
         · refine R ?_;obtain ⟨y16, h17, H⟩ := obnd_some H;refine (c292 h17).go ?_;refine R ?_;refine aR ?_;refine R ?_;obtain ⟨y18, h19, H⟩ := obnd_some H;refine (c285 h19).go ?_;refine R ?_;refine aR ?_;refine R ?_;refine aR ?_;refine R ?_
           cases H;show ∃ D, Fz _ D 0 (.agg ⟨[(iV y18.1), (VS 1 _)]⟩) _;exact ⟨fun _ => false, .cl⟩
noncomputable def f280 [LO]  (a0 : Int) (a1 : List Int) (a2 : Int) (a3 : List Int) : Option (Int × (List Int)) :=
 obnd (f287 a2 a3) fun (y1 : Int × (List Int)) =>
 obnd (f281 a0 a1 y1.1 y1.2) fun (y3 : Int × (List Int)) =>
 some (y3.1, y3.2)
theorem c280 [LO]  {a0 : Int} {a1 : List Int} {a2 : Int} {a3 : List Int} {x : Int × (List Int)} (H : f280 a0 a1 a2 a3 = some x) : ICalls E 280 [(.agg ⟨[(iV a0), (VS 1 (a1.map eI))]⟩), (.agg ⟨[(iV a2), (VS 1 (a3.map eI))]⟩)] AHeap.none fun v _ => v = (.agg ⟨[(iV x.1), (VS 1 (x.2.map eI))]⟩) := by
 refine ICalls.frz ?_;refine icalls_fn (pfnw ?_);unfold f280 at H;refine R ?_;obtain ⟨y1, h2, H⟩ := obnd_some H;refine (c287 h2).go ?_;refine R ?_;refine aR ?_;refine R ?_;obtain ⟨y3, h4, H⟩ := obnd_some H;refine (c281 h4).go ?_;refine R ?_;refine aR ?_;refine R ?_;refine aR ?_
 refine R ?_;cases H;show ∃ D, Fz _ D 0 (.agg ⟨[(iV y3.1), (VS 1 _)]⟩) _;exact ⟨fun _ => false, .cl⟩
noncomputable def f289 [LO]  (a0 : Int) (a1 : List Int) (_ : Int) (a3 : List Int) : Option (Int × (List Int)) :=
 oite ((ieq a0 (0 : Int))) (
 some ((0 : Int), ([] : List Int))
 ) (
 ogrd (mfits 8 ((a1.map eI).length : Int) ((a1.map eI).length : Int)) (
 obnd (
 oloop (τ := (List Int) × Int × (List Int)) (ρ := (List Int) × (List Int)) (fun e7 =>
 oite ((ile (0 : Int) e7.2.1)) (
 ogrd ((ile 0 e7.2.1)) (
 obnd (a1[e7.2.1.toNat]?) fun (x12 : Int) =>
 ogrd (fits 8 (([x12] : List Int).length + e7.1.length)) (
 obnd (f295 (([x12] : List Int) ++ e7.1)) fun (y13 : (List Int)) =>
 obnd (
 oloop (τ := Int × Int) (ρ := Int) (fun e19 =>
 oite ((ilt e19.1 e19.2)) (
 obnd (f285 (1 : Int) a3) fun (y23 : Int × (List Int)) =>
 obnd (f273 ((IntKind.i64.wrap ((IntKind.i64.wrap ((IntKind.i64.wrap (e19.1 + e19.2)) + (1 : Int))).tdiv (2 : Int))))) fun (y25 : Int × (List Int)) =>
 obnd (f274 y23.1 y23.2 y25.1 y25.2) fun (y27 : Int × (List Int)) =>
 obnd (f291 y27.2 y13) fun (y29 : Int) =>
 oite ((ile y29 (0 : Int))) (
 some (.inl (((IntKind.i64.wrap ((IntKind.i64.wrap ((IntKind.i64.wrap (e19.1 + e19.2)) + (1 : Int))).tdiv (2 : Int))), e19.2)))
 ) (
 some (.inl ((e19.1, (IntKind.i64.wrap ((IntKind.i64.wrap ((IntKind.i64.wrap ((IntKind.i64.wrap (e19.1 + e19.2)) + (1 : Int))).tdiv (2 : Int))) - (1 : Int)))))))
 ) (
 some (.inr (e19.1)))
 ) (((0 : Int), (999999999 : Int)))
 ) fun (r15 : Int) =>
 ogrd ((ilt e7.2.1 (((a1.map eI).length : Int).toNat : Int))) (
 ogrd (Nat.blt e7.2.1.toNat e7.2.2.length) (
 obnd (f285 (1 : Int) a3) fun (y35 : Int × (List Int)) =>
 obnd (f273 r15) fun (y37 : Int × (List Int)) =>
 obnd (f274 y35.1 y35.2 y37.1 y37.2) fun (y39 : Int × (List Int)) =>
 obnd (f292 y13 y39.2) fun (y41 : (List Int)) =>
 some (.inl ((y41, (IntKind.i64.wrap (e7.2.1 - (1 : Int))), (e7.2.2.set e7.2.1.toNat r15))))))))
 ) (
 oinr (
 ogrd (Nat.beq ((a1.map eI).length : Int).toNat e7.2.2.length) (
 some (e7.2.2, e7.1))))
 ) ((([] : List Int), (IntKind.i64.wrap (((a1.map eI).length : Int) - (1 : Int))), (List.replicate ((a1.map eI).length : Int).toNat (0 : Int))))
 ) fun (r3 : (List Int) × (List Int)) =>
 obnd (f285 a0 r3.1) fun (y46 : Int × (List Int)) =>
 obnd (
 oite ((ilt a0 (0 : Int))) (
 some (ilt (0 : Int) ((r3.2.map eI).length : Int))
 ) (
 some false)
 ) fun (r48 : Bool) =>
 oite r48 (
 obnd (f273 (1 : Int)) fun (y54 : Int × (List Int)) =>
 obnd (f280 y46.1 y46.2 y54.1 y54.2) fun (y56 : Int × (List Int)) =>
 some (y56.1, y56.2)
 ) (
 some (y46.1, y46.2))))
theorem c289 [LO]  {a0 : Int} {a1 : List Int} {a2 : Int} {a3 : List Int} {x : Int × (List Int)} (H : f289 a0 a1 a2 a3 = some x) : ICalls E 289 [(.agg ⟨[(iV a0), (VS 1 (a1.map eI))]⟩), (.agg ⟨[(iV a2), (VS 1 (a3.map eI))]⟩)] AHeap.none fun v _ => v = (.agg ⟨[(iV x.1), (VS 1 (x.2.map eI))]⟩) := by
 refine ICalls.frz ?_;refine icalls_fn (pfnw ?_);unfold f289 at H;refine R ?_;refine pw_seq ?_;refine R ?_;refine pbr_oite H (fun g1 H => ?_) (fun g1 H => ?_)
 · refine R ?_;cases H;show ∃ D, Fz _ D 0 (.agg ⟨[(iV 0), (.slice none 0 0)]⟩) _;exact ⟨fun _ => false, .aggl (.cons .cl (.cons (.nil _) (.nil)))⟩
 · refine R ?_;obtain ⟨g2, H⟩ := ogrd_some H;refine mk_o (f := eI) (x := (0 : Int)) rfl g2 ?_;refine R ?_;obtain ⟨r3, h4, H⟩ := obnd_some H;refine pw_joinR (ρ := (List Int) × (List Int)) (fun e => ⟨[(2, (pV 0 0)), (4, (pV 2 0)), (5, (VS 1 (e.1.map eI))), (6, (VS 1 (e.2.map eI)))], ⟨5, [(4, .tail 0 1), (2, .rw [(iV 0), (.slice none 0 0)]), (1, .rw [(iV a2), (VS 1 (a3.map eI))]), (0, .rw [(iV a0), (VS 1 (a1.map eI))])], false⟩⟩) r3 ?_ ?_
   · refine R ?_;refine pw_loop (τ := (List Int) × Int × (List Int)) (fun e => ⟨[(2, (pV 0 0)), (3, (pV 1 0)), (4, (pV 2 0)), (5, (.slice (some ⟨3, 0, none⟩) ((a1.map eI).length : Int).toNat 1)), (6, (VS 1 (e.1.map eI))), (7, (iV e.2.1))], ⟨5, [(4, .tail 0 1), (3, .rw (e.2.2.map eI)), (2, .rw [(iV 0), (.slice none 0 0)]), (1, .rw [(iV a2), (VS 1 (a3.map eI))]), (0, .rw [(iV a0), (VS 1 (a1.map eI))])], false⟩⟩) h4 ?_ (fun _ => nl rfl) ?_
     · refine Recast.trans (s' := ⟨[(2, (pV 0 0)), (3, (pV 1 0)), (4, (pV 2 0)), (5, (.slice (some ⟨3, 0, none⟩) ((a1.map eI).length : Int).toNat 1)), (6, (VS 1 (([] : List Int).map eI))), (7, (iV (IntKind.i64.wrap (((a1.map eI).length : Int) - (1 : Int)))))], ⟨5, [(4, .tail 0 1), (3, .rw ((List.replicate ((a1.map eI).length : Int).toNat (0 : Int)).map eI)), (2, .rw [(iV 0), (.slice none 0 0)]), (1, .rw [(iV a2), (VS 1 (a3.map eI))]), (0, .rw [(iV a0), (VS 1 (a1.map eI))])], false⟩⟩) (by exact Recast.fz (fun _ => false) (nl rfl) (.cons (.same rfl rfl (OBnd.tail (nl rfl))) (.cons (.same rfl rfl (OBnd.rwc (nl rfl) (oneL_map fun _ => rfl))) (.cons (.same rfl rfl (OBnd.rwl (nl rfl) rfl (.cons .cl (.cons .cl .nil)))) (.cons (.same rfl rfl (OBnd.rwl (nl rfl) rfl (.cons .cl (.cons .cl .nil)))) (.cons (.same rfl rfl (OBnd.rwl (nl rfl) rfl (.cons .cl (.cons .cl .nil)))) .nil))))) (.cons rfl (.same _ (.ptr (nl rfl))) (.cons rfl (.same _ (.ptr (nl rfl))) (.cons rfl (.same _ (.ptr (nl rfl))) (.cons rfl (.same _ (.slice (nl rfl))) (.cons rfl .vtc (.cons rfl (.same _ .cl) .nil))))))) ?_
       exact sb
     · intro e7 x8 h9;refine pw_seq ?_;refine R ?_;refine pbr_oite h9 (fun g10 h9 => ?_) (fun g10 h9 => ?_)
       · (conv=>whnf);refine pw_skip ?_;(conv=>whnf);refine pw_seq ?_;refine pw_block ?_;refine pwa ?_;(conv=>whnf);refine pbr_ogrd h9 (fun g11 h9 => ?_);(conv=>whnf);refine nth_o (l := a1) h9 (fun x12 _ h9 => ?_);(conv=>whnf);refine app_o (l := ([x12] : List Int)) (m := e7.1) (f := eI) h9 (by rfl) (by rfl) (by rfl) (fun h9 => ?_);(conv=>whnf);obtain ⟨y13, h14, h9⟩ := obnd_some h9;refine ICalls.goW (c295 h14) (.cons (.vt _ _ _) .nil) ?_;(conv=>whnf);refine pwa ?_;(conv=>whnf);obtain ⟨r15, h16, h9⟩ := obnd_some h9;refine pw_join (ρ := Int) (fun e => ⟨[(2, (pV 0 0)), (3, (pV 1 0)), (4, (pV 2 0)), (5, (.slice (some ⟨3, 0, none⟩) ((a1.map eI).length : Int).toNat 1)), (6, (VS 1 (y13.map eI))), (7, (iV e7.2.1)), (8, (iV e))], ⟨6, [(5, .tail ((([x12] : List Int) ++ e7.1).map eI).length 1), (4, .tail 0 1), (3, .rw (e7.2.2.map eI)), (2, .rw [(iV 0), (.slice none 0 0)]), (1, .rw [(iV a2), (VS 1 (a3.map eI))]), (0, .rw [(iV a0), (VS 1 (a1.map eI))])], false⟩⟩) r15 ?_ ?_
         · refine R ?_;refine pw_loop (τ := Int × Int) (fun e => ⟨[(2, (pV 0 0)), (3, (pV 1 0)), (4, (pV 2 0)), (5, (.slice (some ⟨3, 0, none⟩) ((a1.map eI).length : Int).toNat 1)), (6, (VS 1 (y13.map eI))), (7, (iV e7.2.1)), (8, (iV e.1)), (9, (iV e.2))], ⟨6, [(5, .tail ((([x12] : List Int) ++ e7.1).map eI).length 1), (4, .tail 0 1), (3, .rw (e7.2.2.map eI)), (2, .rw [(iV 0), (.slice none 0 0)]), (1, .rw [(iV a2), (VS 1 (a3.map eI))]), (0, .rw [(iV a0), (VS 1 (a1.map eI))])], false⟩⟩) h16 ?_ (fun _ => nl rfl) ?_
           · exact sb
           · intro e19 x20 h21;refine pw_seq ?_;refine R ?_;refine pbr_oite h21 (fun g22 h21 => ?_) (fun g22 h21 => ?_)
             · refine R ?_;obtain ⟨y23, h24, h21⟩ := obnd_some h21;refine (c285 h24).go ?_;refine R ?_;obtain ⟨y25, h26, h21⟩ := obnd_some h21;refine (c273 h26).go ?_;refine R ?_;obtain ⟨y27, h28, h21⟩ := obnd_some h21;refine (c274 h28).go ?_;refine R ?_;obtain ⟨y29, h30, h21⟩ := obnd_some h21;refine (c291 h30).go ?_;refine R ?_;refine pbr_oite h21 (fun g31 h21 => ?_) (fun g31 h21 => ?_)
               · refine R ?_;cases h21;refine ⟨_, rfl, ?_⟩;exact sb
               · refine R ?_;cases h21;refine ⟨_, rfl, ?_⟩;exact sb
             · refine R ?_;cases h21;refine ⟨_, rfl, ?_⟩;rintro rfl;refine R ?_;exact cr
         · refine R ?_;refine pbr_ogrd h9 (fun g33 h9 => ?_);refine R ?_;obtain ⟨g34, h9⟩ := ogrd_some h9;refine set_a (l := e7.2.2) (f := eI) (x := r15) g34 rfl ?_;refine R ?_;obtain ⟨y35, h36, h9⟩ := obnd_some h9;refine (c285 h36).go ?_;refine R ?_;obtain ⟨y37, h38, h9⟩ := obnd_some h9;refine (c273 h38).go ?_;refine R ?_;obtain ⟨y39, h40, h9⟩ := obnd_some h9;refine (c274 h40).go ?_;refine R ?_;obtain ⟨y41, h42, h9⟩ := obnd_some h9;refine (c292 h42).go ?_;refine R ?_
           refine R ?_;cases h9;refine ⟨_, rfl, ?_⟩;exact rfz
       · refine R ?_;obtain ⟨w45, rfl, h43⟩ := oinr_some h9;refine ⟨_, rfl, ?_⟩;rintro rfl;refine R ?_;obtain ⟨g44, h43⟩ := ogrd_some h43;cases h43;exact Recast.fz (fun b => Nat.beq b 3) (nl rfl) (.cons (.same rfl rfl (OBnd.tail (nl rfl))) (.cons (.same rfl rfl (OBnd.rwl (nl rfl) rfl (.cons .cl (.cons .cl .nil)))) (.cons (.same rfl rfl (OBnd.rwl (nl rfl) rfl (.cons .cl (.cons .cl .nil)))) (.cons (.same rfl rfl (OBnd.rwl (nl rfl) rfl (.cons .cl (.cons .cl .nil)))) .nil)))) (.cons rfl (.same _ (.ptr (nl rfl))) (.cons rfl (.same _ (.ptr (nl rfl))) (.cons rfl (.slm rfl rfl g44 (fun _ => rfl)) (.cons rfl (.same _ .cl) .nil))))
   · refine R ?_;obtain ⟨y46, h47, H⟩ := obnd_some H;refine (c285 h47).go ?_;refine R ?_;refine pw_seq ?_;obtain ⟨r48, h49, H⟩ := obnd_some H;refine pw_join (ρ := Bool) (fun e => ⟨[(4, (pV 2 0)), (11, (pV 5 0)), (83, (.bool e))], ⟨6, [(5, .rw [(iV y46.1), (VS 1 (y46.2.map eI))]), (4, .tail 0 1), (2, .rw [(iV 0), (.slice none 0 0)]), (1, .rw [(iV a2), (VS 1 (a3.map eI))]), (0, .rw [(iV a0), (VS 1 (a1.map eI))])], false⟩⟩) r48 ?_ ?_
     · refine R ?_;refine pbr_oite h49 (fun g52 h49 => ?_) (fun g52 h49 => ?_)
       · refine R ?_;cases h49;exact cr
       · refine R ?_;cases h49;exact cr
     · refine R ?_;refine pbr_oite H (fun g53 H => ?_) (fun g53 H => ?_)
       · refine R ?_;obtain ⟨y54, h55, H⟩ := obnd_some H;refine (c273 h55).go ?_;refine R ?_;refine aR ?_;refine R ?_;obtain ⟨y56, h57, H⟩ := obnd_some H;refine (c280 h57).go ?_;refine R ?_;refine aR ?_;refine R ?_;refine aR ?_;refine R ?_
         refine R ?_;cases H;show ∃ D, Fz _ D 0 (.agg ⟨[(iV y56.1), (VS 1 _)]⟩) _;exact ⟨fun _ => false, .cl⟩
       · refine R ?_;cases H;show ∃ D, Fz _ D 0 (.agg ⟨[(iV y46.1), (VS 1 _)]⟩) _;exact ⟨fun _ => false, .cl⟩
noncomputable def f288 [LO]  (a0 : Int) (a1 : List Int) (a2 : Int) (a3 : List Int) : Option (Int × (List Int)) :=
 obnd (f296 a0 a1) fun (y1 : Int × (List Int)) =>
 obnd (f296 a2 a3) fun (y3 : Int × (List Int)) =>
 obnd (
 oloop (τ := Int × (List Int) × Int × (List Int)) (ρ := Int × (List Int) × Int × (List Int)) (fun e9 =>
 obnd (f286 e9.2.2.1 e9.2.2.2) fun (y12 : Int) =>
 oite ((!(ieq y12 (0 : Int)))) (
 obnd (
 obnd (f289 e9.1 e9.2.1 e9.2.2.1 e9.2.2.2) fun (y19 : Int × (List Int)) =>
 obnd (f274 y19.1 y19.2 e9.2.2.1 e9.2.2.2) fun (y21 : Int × (List Int)) =>
 obnd (f280 e9.1 e9.2.1 y21.1 y21.2) fun (y23 : Int × (List Int)) =>
 some (y23.1, y23.2)
 ) fun (r15 : Int × (List Int)) =>
 some (.inl (e9.2.2.1, e9.2.2.2, r15.1, r15.2))
 ) (
 some (.inr ((e9.1, e9.2.1, e9.2.2.1, e9.2.2.2))))
 ) (y1.1, y1.2, y3.1, y3.2)
 ) fun (r5 : Int × (List Int) × Int × (List Int)) =>
 some (r5.1, r5.2.1)
theorem c288 [LO]  {a0 : Int} {a1 : List Int} {a2 : Int} {a3 : List Int} {x : Int × (List Int)} (H : f288 a0 a1 a2 a3 = some x) : ICalls E 288 [(.agg ⟨[(iV a0), (VS 1 (a1.map eI))]⟩), (.agg ⟨[(iV a2), (VS 1 (a3.map eI))]⟩)] AHeap.none fun v _ => v = (.agg ⟨[(iV x.1), (VS 1 (x.2.map eI))]⟩) := by
 refine ICalls.frz ?_;refine icalls_fn (pfnw ?_);unfold f288 at H;refine R ?_;obtain ⟨y1, h2, H⟩ := obnd_some H;refine (c296 h2).go ?_;refine R ?_;refine aR ?_;refine R ?_;obtain ⟨y3, h4, H⟩ := obnd_some H;refine (c296 h4).go ?_;refine R ?_;refine aR ?_;refine R ?_;refine aR ?_
 refine R ?_;refine aR ?_;refine R ?_;obtain ⟨r5, h6, H⟩ := obnd_some H;refine pw_join (ρ := Int × (List Int) × Int × (List Int)) (fun e => ⟨[(2, (pV 0 0)), (4, (pV 2 0))], ⟨3, [(2, .rw [(iV 0), (.slice none 0 0)]), (1, .rw [(iV e.2.2.1), (VS 1 (e.2.2.2.map eI))]), (0, .rw [(iV e.1), (VS 1 (e.2.1.map eI))])], false⟩⟩) r5 ?_ ?_
 · refine R ?_;refine pw_loop (τ := Int × (List Int) × Int × (List Int)) (fun e => ⟨[(2, (pV 0 0)), (3, (pV 1 0)), (4, (pV 2 0))], ⟨3, [(2, .rw [(iV 0), (.slice none 0 0)]), (1, .rw [(iV e.2.2.1), (VS 1 (e.2.2.2.map eI))]), (0, .rw [(iV e.1), (VS 1 (e.2.1.map eI))])], false⟩⟩) h6 ?_ (fun _ => nl rfl) ?_
   · exact sb
   · intro e9 x10 h11;refine pw_seq ?_;refine R ?_;obtain ⟨y12, h13, h11⟩ := obnd_some h11;refine (c286 h13).go ?_;refine R ?_;refine pbr_oite h11 (fun g14 h11 => ?_) (fun g14 h11 => ?_)
     · (conv=>whnf);refine pw_skip ?_;(conv=>whnf);refine pw_block ?_;obtain ⟨r15, h16, h11⟩ := obnd_some h11;refine pw_join (ρ := Int × (List Int)) (fun e => ⟨[(2, (pV 0 0)), (3, (pV 1 0)), (4, (pV 2 0)), (5, (pV 3 0))], ⟨4, [(3, .rw [(iV e.1), (VS 1 (e.2.map eI))]), (2, .rw [(iV 0), (.slice none 0 0)]), (1, .rw [(iV e9.2.2.1), (VS 1 (e9.2.2.2.map eI))]), (0, .rw [(iV e9.1), (VS 1 (e9.2.1.map eI))])], false⟩⟩) r15 ?_ ?_
       · refine R ?_;refine ⟨?_, ?_⟩
         · refine R ?_;obtain ⟨y19, h20, h16⟩ := obnd_some h16;refine (c289 h20).go ?_;refine R ?_;refine aR ?_;refine R ?_;refine ⟨?_, ?_⟩
           · refine R ?_;obtain ⟨y21, h22, h16⟩ := obnd_some h16;refine (c274 h22).go ?_;refine R ?_;refine aR ?_;refine R ?_;refine ⟨?_, ?_⟩
             · refine R ?_;obtain ⟨y23, h24, h16⟩ := obnd_some h16;refine (c280 h24).go ?_;refine R ?_;refine aR ?_;refine R ?_;refine aR ?_;refine R ?_;refine aR ?_;refine R ?_;cases h16;exact cr
             · obtain ⟨y23, h24, h16⟩ := obnd_some h16;refine R ?_;refine aR ?_;refine R ?_;refine (c280 h24).go ?_;refine R ?_;refine aR ?_;refine R ?_;refine aR ?_;refine R ?_;cases h16;exact cr
           · obtain ⟨y21, h22, h16⟩ := obnd_some h16;obtain ⟨y23, h24, h16⟩ := obnd_some h16;refine R ?_;refine aR ?_;refine R ?_;refine (c274 h22).go ?_;refine R ?_;refine aR ?_;refine R ?_;refine (c280 h24).go ?_;refine R ?_;refine aR ?_;refine R ?_;refine aR ?_
             refine R ?_;cases h16;exact cr
         · obtain ⟨y19, h20, h16⟩ := obnd_some h16;obtain ⟨y21, h22, h16⟩ := obnd_some h16;obtain ⟨y23, h24, h16⟩ := obnd_some h16;refine R ?_;refine aR ?_;refine R ?_;refine (c289 h20).go ?_;refine R ?_;refine aR ?_;refine R ?_;refine (c274 h22).go ?_;refine R ?_;refine aR ?_;refine R ?_;refine (c280 h24).go ?_
           refine R ?_;refine aR ?_;refine R ?_;refine aR ?_;refine R ?_;cases h16;exact cr
       · refine R ?_;refine aR ?_;refine R ?_;refine aR ?_;refine R ?_;cases h11;refine ⟨_, rfl, ?_⟩;refine Recast.trunc (nl rfl) ?_ ?_
         · repeat (first | exact .nil | refine .cons rfl (by first | exact OBnd.rwc (nl rfl) rfl | exact OBnd.tail (nl rfl) | trivial) ?_)
         · repeat (first | exact .nil | refine .cons rfl (by first | exact Bnd.ptr (nl rfl) | exact Bnd.vt (nl rfl) | exact Bnd.cl) ?_)
     · refine R ?_;cases h11;refine ⟨_, rfl, ?_⟩;rintro rfl;refine R ?_;exact cr
 · refine R ?_;cases H;show ∃ D, Fz _ D 0 (.agg ⟨[(iV r5.1), (VS 1 _)]⟩) _;exact ⟨fun _ => false, .cl⟩
noncomputable def f268 [LO]  (a0 : Int) (a1 : List Int) (a2 : Int) (a3 : List Int) : Option Int :=
 obnd (f280 a0 a1 a2 a3) fun (y1 : Int × (List Int)) =>
 some y1.1
theorem c268 [LO]  {a0 : Int} {a1 : List Int} {a2 : Int} {a3 : List Int} {x : Int} (H : f268 a0 a1 a2 a3 = some x) : ICalls E 268 [(.agg ⟨[(iV a0), (VS 1 (a1.map eI))]⟩), (.agg ⟨[(iV a2), (VS 1 (a3.map eI))]⟩)] AHeap.none fun v _ => v = (iV x) := by
 refine icalls_fn (pfnw ?_);unfold f268 at H;refine R ?_;obtain ⟨y1, h2, H⟩ := obnd_some H;refine (c280 h2).go ?_;refine R ?_;cases H;rfl
noncomputable def f275 [LO]  (a0 : Int) (a1 : List Int) (a2 : Int) (a3 : List Int) : Option (Int × (List Int) × Int × (List Int)) :=
 obnd (
 obnd (f286 a2 a3) fun (y5 : Int) =>
 oite ((ilt y5 (0 : Int))) (
 obnd (f287 a0 a1) fun (y8 : Int × (List Int)) =>
 obnd (f287 a2 a3) fun (y10 : Int × (List Int)) =>
 some (y8.1, y8.2, y10.1, y10.2)
 ) (
 some (a0, a1, a2, a3))
 ) fun (r1 : Int × (List Int) × Int × (List Int)) =>
 obnd (f288 r1.1 r1.2.1 r1.2.2.1 r1.2.2.2) fun (y12 : Int × (List Int)) =>
 obnd (f273 (1 : Int)) fun (y14 : Int × (List Int)) =>
 obnd (f268 y12.1 y12.2 y14.1 y14.2) fun (y16 : Int) =>
 oite ((ieq y16 (0 : Int))) (
 some (r1.1, r1.2.1, r1.2.2.1, r1.2.2.2)
 ) (
 obnd (f289 r1.1 r1.2.1 y12.1 y12.2) fun (y19 : Int × (List Int)) =>
 obnd (f289 r1.2.2.1 r1.2.2.2 y12.1 y12.2) fun (y21 : Int × (List Int)) =>
 some (y19.1, y19.2, y21.1, y21.2))
theorem c275 [LO]  {a0 : Int} {a1 : List Int} {a2 : Int} {a3 : List Int} {x : Int × (List Int) × Int × (List Int)} (H : f275 a0 a1 a2 a3 = some x) : ICalls E 275 [(.agg ⟨[(iV a0), (VS 1 (a1.map eI))]⟩), (.agg ⟨[(iV a2), (VS 1 (a3.map eI))]⟩)] AHeap.none fun v _ => v = (.agg ⟨[(iV x.1), (VS 1 (x.2.1.map eI)), (iV x.2.2.1), (VS 1 (x.2.2.2.map eI))]⟩) := by
 refine ICalls.frz ?_;refine icalls_fn (pfnw ?_);unfold f275 at H;refine R ?_;obtain ⟨r1, h2, H⟩ := obnd_some H;refine pw_join (ρ := Int × (List Int) × Int × (List Int)) (fun e => ⟨[(2, (pV 0 0)), (3, (pV 1 0)), (4, (pV 2 0))], ⟨3, [(2, .rw [(iV 0), (.slice none 0 0), (iV 0), (.slice none 0 0)]), (1, .rw [(iV e.2.2.1), (VS 1 (e.2.2.2.map eI))]), (0, .rw [(iV e.1), (VS 1 (e.2.1.map eI))])], false⟩⟩) r1 ?_ ?_
 · refine R ?_;obtain ⟨y5, h6, h2⟩ := obnd_some h2;refine (c286 h6).go ?_;refine R ?_;refine pbr_oite h2 (fun g7 h2 => ?_) (fun g7 h2 => ?_)
   · refine R ?_;obtain ⟨y8, h9, h2⟩ := obnd_some h2;refine (c287 h9).go ?_;refine R ?_;refine aR ?_;refine R ?_;obtain ⟨y10, h11, h2⟩ := obnd_some h2;refine (c287 h11).go ?_;refine R ?_;refine aR ?_;refine R ?_;refine aR ?_;refine R ?_;refine aR ?_
     refine R ?_;cases h2;exact cr
   · refine R ?_;cases h2;exact cr
 · refine R ?_;obtain ⟨y12, h13, H⟩ := obnd_some H;refine (c288 h13).go ?_;refine R ?_;refine pw_seq ?_;refine R ?_;obtain ⟨y14, h15, H⟩ := obnd_some H;refine (c273 h15).go ?_;refine R ?_;refine aR ?_;refine R ?_;obtain ⟨y16, h17, H⟩ := obnd_some H;refine (c268 h17).go ?_;refine R ?_;refine aR ?_;refine R ?_;refine pbr_oite H (fun g18 H => ?_) (fun g18 H => ?_)
   · refine R ?_;cases H;show ∃ D, Fz _ D 0 (.agg ⟨[(iV r1.1), (VS 1 _), (iV r1.2.2.1), (VS 1 _)]⟩) _;exact ⟨fun _ => false, .cl⟩
   · refine R ?_;obtain ⟨y19, h20, H⟩ := obnd_some H;refine (c289 h20).go ?_;refine R ?_;refine aR ?_;refine R ?_;obtain ⟨y21, h22, H⟩ := obnd_some H;refine (c289 h22).go ?_;refine R ?_;refine aR ?_;refine R ?_;refine aR ?_;refine R ?_
     cases H;show ∃ D, Fz _ D 0 (.agg ⟨[(iV y19.1), (VS 1 _), (iV y21.1), (VS 1 _)]⟩) _;exact ⟨fun _ => false, .cl⟩
noncomputable def f283 [LO]  (a0 : Int) (a1 : List Int) (a2 : Int) (a3 : List Int) (a4 : Int) (a5 : List Int) (a6 : Int) (a7 : List Int) : Option (Int × (List Int) × Int × (List Int)) :=
 obnd (f274 a0 a1 a6 a7) fun (y1 : Int × (List Int)) =>
 obnd (f274 a2 a3 a4 a5) fun (y3 : Int × (List Int)) =>
 obnd (f275 y1.1 y1.2 y3.1 y3.2) fun (y5 : Int × (List Int) × Int × (List Int)) =>
 some (y5.1, y5.2.1, y5.2.2.1, y5.2.2.2)
theorem c283 [LO]  {a0 : Int} {a1 : List Int} {a2 : Int} {a3 : List Int} {a4 : Int} {a5 : List Int} {a6 : Int} {a7 : List Int} {x : Int × (List Int) × Int × (List Int)} (H : f283 a0 a1 a2 a3 a4 a5 a6 a7 = some x) : ICalls E 283 [(.agg ⟨[(iV a0), (VS 1 (a1.map eI)), (iV a2), (VS 1 (a3.map eI))]⟩), (.agg ⟨[(iV a4), (VS 1 (a5.map eI)), (iV a6), (VS 1 (a7.map eI))]⟩)] AHeap.none fun v _ => v = (.agg ⟨[(iV x.1), (VS 1 (x.2.1.map eI)), (iV x.2.2.1), (VS 1 (x.2.2.2.map eI))]⟩) := by
 refine ICalls.frz ?_;refine icalls_fn (pfnw ?_);unfold f283 at H;refine R ?_;obtain ⟨y1, h2, H⟩ := obnd_some H;refine (c274 h2).go ?_;refine R ?_;refine aR ?_;refine R ?_;obtain ⟨y3, h4, H⟩ := obnd_some H;refine (c274 h4).go ?_;refine R ?_;refine aR ?_;refine R ?_;obtain ⟨y5, h6, H⟩ := obnd_some H;refine (c275 h6).go ?_
 refine R ?_;refine aR ?_;refine R ?_;refine aR ?_;refine R ?_;cases H;show ∃ D, Fz _ D 0 (.agg ⟨[(iV y5.1), (VS 1 _), (iV y5.2.2.1), (VS 1 _)]⟩) _;exact ⟨fun _ => false, .cl⟩
noncomputable def f277 [LO]  (a0 : Int) (a1 : List Int) (a2 : Int) (a3 : List Int) (a4 : Int) (a5 : List Int) (a6 : Int) (a7 : List Int) : Option (Int × (List Int) × Int × (List Int)) :=
 obnd (f274 a0 a1 a4 a5) fun (y1 : Int × (List Int)) =>
 obnd (f274 a2 a3 a6 a7) fun (y3 : Int × (List Int)) =>
 obnd (f275 y1.1 y1.2 y3.1 y3.2) fun (y5 : Int × (List Int) × Int × (List Int)) =>
 some (y5.1, y5.2.1, y5.2.2.1, y5.2.2.2)
theorem c277 [LO]  {a0 : Int} {a1 : List Int} {a2 : Int} {a3 : List Int} {a4 : Int} {a5 : List Int} {a6 : Int} {a7 : List Int} {x : Int × (List Int) × Int × (List Int)} (H : f277 a0 a1 a2 a3 a4 a5 a6 a7 = some x) : ICalls E 277 [(.agg ⟨[(iV a0), (VS 1 (a1.map eI)), (iV a2), (VS 1 (a3.map eI))]⟩), (.agg ⟨[(iV a4), (VS 1 (a5.map eI)), (iV a6), (VS 1 (a7.map eI))]⟩)] AHeap.none fun v _ => v = (.agg ⟨[(iV x.1), (VS 1 (x.2.1.map eI)), (iV x.2.2.1), (VS 1 (x.2.2.2.map eI))]⟩) := by
 refine ICalls.frz ?_;refine icalls_fn (pfnw ?_);unfold f277 at H;refine R ?_;obtain ⟨y1, h2, H⟩ := obnd_some H;refine (c274 h2).go ?_;refine R ?_;refine aR ?_;refine R ?_;obtain ⟨y3, h4, H⟩ := obnd_some H;refine (c274 h4).go ?_;refine R ?_;refine aR ?_;refine R ?_;obtain ⟨y5, h6, H⟩ := obnd_some H;refine (c275 h6).go ?_
 refine R ?_;refine aR ?_;refine R ?_;refine aR ?_;refine R ?_;cases H;show ∃ D, Fz _ D 0 (.agg ⟨[(iV y5.1), (VS 1 _), (iV y5.2.2.1), (VS 1 _)]⟩) _;exact ⟨fun _ => false, .cl⟩
noncomputable def f294  (a0 : Int) (a1 : List Int) (a2 : Int) (a3 : List Int) : Option (Int × (List Int) × Int × (List Int)) :=
 obnd (f287 a0 a1) fun (y1 : Int × (List Int)) =>
 some (y1.1, y1.2, a2, a3)
theorem c294  {a0 : Int} {a1 : List Int} {a2 : Int} {a3 : List Int} {x : Int × (List Int) × Int × (List Int)} (H : f294 a0 a1 a2 a3 = some x) : ICalls E 294 [(.agg ⟨[(iV a0), (VS 1 (a1.map eI)), (iV a2), (VS 1 (a3.map eI))]⟩)] AHeap.none fun v _ => v = (.agg ⟨[(iV x.1), (VS 1 (x.2.1.map eI)), (iV x.2.2.1), (VS 1 (x.2.2.2.map eI))]⟩) := by
 refine ICalls.frz ?_;refine icalls_fn (pfnw ?_);unfold f294 at H;refine R ?_;obtain ⟨y1, h2, H⟩ := obnd_some H;refine (c287 h2).go ?_;refine R ?_;refine aR ?_;refine R ?_;refine aR ?_;refine R ?_;cases H;show ∃ D, Fz _ D 0 (.agg ⟨[(iV y1.1), (VS 1 _), (iV a2), (VS 1 _)]⟩) _;exact ⟨fun _ => false, .cl⟩
noncomputable def f293 [LO]  (a0 : Int) (a1 : List Int) (a2 : Int) (a3 : List Int) (a4 : Int) (a5 : List Int) (a6 : Int) (a7 : List Int) : Option (Int × (List Int) × Int × (List Int)) :=
 obnd (f274 a0 a1 a6 a7) fun (y1 : Int × (List Int)) =>
 obnd (f274 a4 a5 a2 a3) fun (y3 : Int × (List Int)) =>
 obnd (f281 y1.1 y1.2 y3.1 y3.2) fun (y5 : Int × (List Int)) =>
 obnd (f274 a2 a3 a6 a7) fun (y7 : Int × (List Int)) =>
 obnd (f275 y5.1 y5.2 y7.1 y7.2) fun (y9 : Int × (List Int) × Int × (List Int)) =>
 some (y9.1, y9.2.1, y9.2.2.1, y9.2.2.2)
theorem c293 [LO]  {a0 : Int} {a1 : List Int} {a2 : Int} {a3 : List Int} {a4 : Int} {a5 : List Int} {a6 : Int} {a7 : List Int} {x : Int × (List Int) × Int × (List Int)} (H : f293 a0 a1 a2 a3 a4 a5 a6 a7 = some x) : ICalls E 293 [(.agg ⟨[(iV a0), (VS 1 (a1.map eI)), (iV a2), (VS 1 (a3.map eI))]⟩), (.agg ⟨[(iV a4), (VS 1 (a5.map eI)), (iV a6), (VS 1 (a7.map eI))]⟩)] AHeap.none fun v _ => v = (.agg ⟨[(iV x.1), (VS 1 (x.2.1.map eI)), (iV x.2.2.1), (VS 1 (x.2.2.2.map eI))]⟩) := by
 refine ICalls.frz ?_;refine icalls_fn (pfnw ?_);unfold f293 at H;refine R ?_;obtain ⟨y1, h2, H⟩ := obnd_some H;refine (c274 h2).go ?_;refine R ?_;refine aR ?_;refine R ?_;obtain ⟨y3, h4, H⟩ := obnd_some H;refine (c274 h4).go ?_;refine R ?_;refine aR ?_;refine R ?_;obtain ⟨y5, h6, H⟩ := obnd_some H;refine (c281 h6).go ?_
 refine R ?_;refine aR ?_;refine R ?_;obtain ⟨y7, h8, H⟩ := obnd_some H;refine (c274 h8).go ?_;refine R ?_;refine aR ?_;refine R ?_;obtain ⟨y9, h10, H⟩ := obnd_some H;refine (c275 h10).go ?_;refine R ?_;refine aR ?_;refine R ?_;refine aR ?_;refine R ?_
 refine R ?_;cases H;show ∃ D, Fz _ D 0 (.agg ⟨[(iV y9.1), (VS 1 _), (iV y9.2.2.1), (VS 1 _)]⟩) _;exact ⟨fun _ => false, .cl⟩
noncomputable def f284 [LO]  (a0 : Int) (a1 : List Int) (a2 : Int) (a3 : List Int) (a4 : Int) (a5 : List Int) (a6 : Int) (a7 : List Int) : Option (Int × (List Int) × Int × (List Int)) :=
 obnd (f294 a4 a5 a6 a7) fun (y1 : Int × (List Int) × Int × (List Int)) =>
 obnd (f293 a0 a1 a2 a3 y1.1 y1.2.1 y1.2.2.1 y1.2.2.2) fun (y3 : Int × (List Int) × Int × (List Int)) =>
 some (y3.1, y3.2.1, y3.2.2.1, y3.2.2.2)
theorem c284 [LO]  {a0 : Int} {a1 : List Int} {a2 : Int} {a3 : List Int} {a4 : Int} {a5 : List Int} {a6 : Int} {a7 : List Int} {x : Int × (List Int) × Int × (List Int)} (H : f284 a0 a1 a2 a3 a4 a5 a6 a7 = some x) : ICalls E 284 [(.agg ⟨[(iV a0), (VS 1 (a1.map eI)), (iV a2), (VS 1 (a3.map eI))]⟩), (.agg ⟨[(iV a4), (VS 1 (a5.map eI)), (iV a6), (VS 1 (a7.map eI))]⟩)] AHeap.none fun v _ => v = (.agg ⟨[(iV x.1), (VS 1 (x.2.1.map eI)), (iV x.2.2.1), (VS 1 (x.2.2.2.map eI))]⟩) := by
 refine ICalls.frz ?_;refine icalls_fn (pfnw ?_);unfold f284 at H;refine R ?_;obtain ⟨y1, h2, H⟩ := obnd_some H;refine (c294 h2).go ?_;refine R ?_;refine aR ?_;refine R ?_;obtain ⟨y3, h4, H⟩ := obnd_some H;refine (c293 h4).go ?_;refine R ?_;refine aR ?_;refine R ?_;refine aR ?_
 refine R ?_;cases H;show ∃ D, Fz _ D 0 (.agg ⟨[(iV y3.1), (VS 1 _), (iV y3.2.2.1), (VS 1 _)]⟩) _;exact ⟨fun _ => false, .cl⟩
end Go.Proofs.YtgfglinlmnbjbaaGreat.AM
