/- Computations of functions, and that the functions do them (printed by tools/lift.py). Conditions: none. -/
import Derived.Test.YtolapannkcdeeaaGreatAmRun
import Derived.Test.YtolapannkcdeeaaGreatAmWkMan
namespace Go.Proofs.YtolapannkcdeeaaGreat.AM
set_option linter.unusedSimpArgs false
set_option linter.unusedVariables false
set_option maxHeartbeats 1000000
open Go Go.RowKit
attribute [local irreducible] ICallV ICalls Recast rng
abbrev e_L1I (x : (List Int)) : Value := VS 1 (x.map eI)
instance {x : (List Int)} : Cl (e_L1I x) := inferInstanceAs (Cl (VS 1 (x.map eI)))
noncomputable def f207   : Option (Int × Int × (List (ByteArray × Int × Int × Int))) :=
 some ((0 : Int), (10 : Int), ([((⟨#[114, 101, 115, 116]⟩ : ByteArray), (0 : Int), (0 : Int), (0 : Int)), ((⟨#[112, 117, 109, 112]⟩ : ByteArray), (3 : Int), (-4 : Int), (5 : Int)), ((⟨#[116, 117, 114, 98, 105, 110, 101]⟩ : ByteArray), (-3 : Int), (3 : Int), (2 : Int))] : List (ByteArray × Int × Int × Int)))
theorem c207   {x : Int × Int × (List (ByteArray × Int × Int × Int))} (H : f207 = some x) : ICalls E 207 [] AHeap.none fun v _ => v = (.agg ⟨[(iV x.1), (iV x.2.1), (VS 4 (x.2.2.map e_SIII))]⟩) := by
 refine ICalls.frz ?_;refine icalls_fn (pfnw ?_);unfold f207 at H;refine R ?_;cases H;show ∃ D, Fz _ D 0 (.agg ⟨[(iV 0), (iV 10), (VT 4 (([((⟨#[114, 101, 115, 116]⟩ : ByteArray), (0 : Int), (0 : Int), (0 : Int)), ((⟨#[112, 117, 109, 112]⟩ : ByteArray), (3 : Int), (-4 : Int), (5 : Int)), ((⟨#[116, 117, 114, 98, 105, 110, 101]⟩ : ByteArray), (-3 : Int), (3 : Int), (2 : Int))] : List (ByteArray × Int × Int × Int)).map e_SIII) 1)]⟩) _;exact ⟨fun _ => false, .aggl (.cons .cl (.cons .cl (.cons .vtc (.nil))))⟩
noncomputable def f208   : Option (Int × Int × Int × (List (Int × Int × Int))) :=
 some ((4 : Int), (0 : Int), (1 : Int), ([((2 : Int), (1 : Int), (0 : Int)), ((12 : Int), (10 : Int), (1 : Int))] : List (Int × Int × Int)))
theorem c208   {x : Int × Int × Int × (List (Int × Int × Int))} (H : f208 = some x) : ICalls E 208 [] AHeap.none fun v _ => v = (.agg ⟨[(iV x.1), (iV x.2.1), (iV x.2.2.1), (VS 3 (x.2.2.2.map e_III))]⟩) := by
 refine ICalls.frz ?_;refine icalls_fn (pfnw ?_);unfold f208 at H;refine R ?_;cases H;show ∃ D, Fz _ D 0 (.agg ⟨[(iV 4), (iV 0), (iV 1), (VT 3 (([((2 : Int), (1 : Int), (0 : Int)), ((12 : Int), (10 : Int), (1 : Int))] : List (Int × Int × Int)).map e_III) 1)]⟩) _;exact ⟨fun _ => false, .aggl (.cons .cl (.cons .cl (.cons .cl (.cons .vtc (.nil)))))⟩
noncomputable def f216  (a0 : Int) (a1 : Int) (a2 : Int) : Option Bool :=
 obnd (
 oite ((ile a1 a0)) (
 some (ile a0 a2)
 ) (
 some false)
 ) fun (r1 : Bool) =>
 some r1
theorem c216  {a0 : Int} {a1 : Int} {a2 : Int} {x : Bool} (H : f216 a0 a1 a2 = some x) : ICalls E 216 [(iV a0), (iV a1), (iV a2)] AHeap.none fun v _ => v = (.bool x) := by
 refine icalls_fn (pfnw ?_); unfold f216 at H;(conv=>whnf);refine pwa ?_;(conv=>whnf);refine pw_so ?_;refine po_ops 4 ?_;(conv=>whnf);obtain ⟨r1, h2, H⟩ := obnd_some H;refine po_seg (τ := Bool) 4 (fun e => ⟨[(14, (.bool e))], ⟨0, [], false⟩⟩) r1 ?_ ?_
 · refine R ?_;refine pbr_oite h2 (fun g3 h2 => ?_) (fun g3 h2 => ?_)
   · refine R ?_;cases h2;exact cr
   · refine R ?_;cases h2;exact cr
 · refine R ?_;cases H;rfl
noncomputable def f256  (a0 : Int) : Option Bool :=
 obnd (f216 a0 (0 : Int) (1000000 : Int)) fun (y1 : Bool) =>
 some y1
theorem c256  {a0 : Int} {x : Bool} (H : f256 a0 = some x) : ICalls E 256 [(iV a0)] AHeap.none fun v _ => v = (.bool x) := by
 refine icalls_fn (pfnw ?_);unfold f256 at H;refine R ?_;obtain ⟨y1, h2, H⟩ := obnd_some H;refine (c216 h2).go ?_;refine R ?_;cases H;rfl
noncomputable def f214  (a0 : Bool) (a1 : Int) : Option Int :=
 oite a0 (
 some (0 : Int)
 ) (
 some a1)
theorem c214  {a0 : Bool} {a1 : Int} {x : Int} (H : f214 a0 a1 = some x) : ICalls E 214 [(.bool a0), (iV a1)] AHeap.none fun v _ => v = (iV x) := by
 refine icalls_fn (pfnw ?_);unfold f214 at H;refine R ?_;refine pw_seq ?_;refine R ?_;refine pbr_oite H (fun g1 H => ?_) (fun g1 H => ?_)
 · refine R ?_;cases H;rfl
 · refine R ?_;cases H;rfl
noncomputable def f213 [LO]  (a0 : List Int) : Option Int :=
 obndS (
 oloop (τ := Int) (ρ := (Unit) ⊕ Int) (fun e5 =>
 oite ((ilt e5 ((a0.map eI).length : Int))) (
 ogrd ((ile 0 e5)) (
 obnd (a0[e5.toNat]?) fun (x10 : Int) =>
 oite ((!(ieq x10 (0 : Int)))) (
 some (.inr (.inr (x10)))
 ) (
 some (.inl (IntKind.i64.wrap (e5 + (1 : Int))))))
 ) (
 some (.inr (.inl ())))
 ) (0 : Int)
 ) fun (_ : Unit) =>
 some (0 : Int)
theorem c213 [LO]  {a0 : List Int} {x : Int} (H : f213 a0 = some x) : ICalls E 213 [(VS 1 (a0.map eI))] AHeap.none fun v _ => v = (iV x) := by
 refine icalls_fn (pfnw ?_);unfold f213 at H;refine R ?_;obtain ⟨r1, h2, h3, h4⟩ := obndS_some H;refine pw_joinS (ρ := Unit) (fun e => ⟨[], ⟨0, [], false⟩⟩) r1 ?_ ?_
 · refine R ?_;refine pw_loop (τ := Int) (fun e => ⟨[(5, (VS 1 (a0.map eI))), (6, (iV ((a0.map eI).length : Int))), (7, (iV e))], ⟨0, [], false⟩⟩) h2 ?_ (fun _ => nl rfl) ?_
   · exact sb
   · intro e5 x6 h7;refine R ?_;refine pw_seq ?_;refine R ?_;refine pbr_oite h7 (fun g8 h7 => ?_) (fun g8 h7 => ?_)
     · refine R ?_;refine pw_seq ?_;refine R ?_;refine pbr_ogrd h7 (fun g9 h7 => ?_);refine R ?_;refine nth_o (l := a0) h7 (fun x10 _ h7 => ?_);refine R ?_;refine pbr_oite h7 (fun g11 h7 => ?_) (fun g11 h7 => ?_)
       · refine R ?_;cases h7;refine ⟨_, rfl, ?_⟩;rintro rfl;refine R ?_;obtain rfl := h4 _ rfl;rfl
       · refine R ?_;cases h7;refine ⟨_, rfl, ?_⟩;exact sb
     · refine R ?_;cases h7;refine ⟨_, rfl, ?_⟩;rintro rfl;refine R ?_;exact ⟨_, rfl, cr⟩
 · intro r14 hr;have H := h3 _ hr;refine R ?_;cases H;rfl
noncomputable def f262 [LO] (p0 : ByteArray → Int → Int → Int → Option Bool) (a0 : List (ByteArray × Int × Int × Int)) : Option Int :=
 obndS (
 oloop (τ := Int) (ρ := (Unit) ⊕ Int) (fun e5 =>
 oite ((ilt e5 ((a0.map e_SIII).length : Int))) (
 ogrd ((ile 0 e5)) (
 obnd (a0[e5.toNat]?) fun (x10 : ByteArray × Int × Int × Int) =>
 obnd (p0 x10.1 x10.2.1 x10.2.2.1 x10.2.2.2) fun (y11 : Bool) =>
 oite y11 (
 some (.inr (.inr (e5)))
 ) (
 some (.inl (IntKind.i64.wrap (e5 + (1 : Int))))))
 ) (
 some (.inr (.inl ())))
 ) (0 : Int)
 ) fun (_ : Unit) =>
 some (-1 : Int)
theorem c262 [LO] {p0 : ByteArray → Int → Int → Int → Option Bool} {a0 : List (ByteArray × Int × Int × Int)} {g0 : Value} [Cl g0] (hp0 : ∀ y0 y1 y2 y3 y, p0 y0 y1 y2 y3 = some y → ICallV E g0 [(.agg ⟨[(.string y0), (iV y1), (iV y2), (iV y3)]⟩)] AHeap.none fun v _ => v = (.bool y)) {x : Int} (H : f262 p0 a0 = some x) : ICalls E 262 [(VS 4 (a0.map e_SIII)), g0] AHeap.none fun v _ => v = (iV x) := by
 refine icalls_fn (pfnw ?_);unfold f262 at H;refine R ?_;obtain ⟨r1, h2, h3, h4⟩ := obndS_some H;refine pw_joinS (ρ := Unit) (fun e => ⟨[], ⟨0, [], false⟩⟩) r1 ?_ ?_
 · refine R ?_;refine pw_loop (τ := Int) (fun e => ⟨[(0, (VS 4 (a0.map e_SIII))), (1, g0), (7, (iV ((a0.map e_SIII).length : Int))), (8, (iV e))], ⟨0, [], false⟩⟩) h2 ?_ (fun _ => nl rfl) ?_
   · exact sb
   · intro e5 x6 h7;refine R ?_;refine pw_seq ?_;refine R ?_;refine pbr_oite h7 (fun g8 h7 => ?_) (fun g8 h7 => ?_)
     · refine R ?_;refine pw_seq ?_;refine R ?_;refine pbr_ogrd h7 (fun g9 h7 => ?_);refine R ?_;refine nth_o (l := a0) h7 (fun x10 _ h7 => ?_);refine R ?_;obtain ⟨y11, h12, h7⟩ := obnd_some h7;refine ICallV.go (hp0 _ _ _ _ _ h12) ?_;refine R ?_;refine pbr_oite h7 (fun g13 h7 => ?_) (fun g13 h7 => ?_)
       · refine R ?_;cases h7;refine ⟨_, rfl, ?_⟩;rintro rfl;refine R ?_;obtain rfl := h4 _ rfl;rfl
       · refine R ?_;cases h7;refine ⟨_, rfl, ?_⟩;exact sb
     · refine R ?_;cases h7;refine ⟨_, rfl, ?_⟩;rintro rfl;refine R ?_;exact ⟨_, rfl, cr⟩
 · intro r16 hr;have H := h3 _ hr;refine R ?_;cases H;rfl
noncomputable def f257 [LO] (p0 : ByteArray → Int → Int → Int → Option Bool) (a0 : List (ByteArray × Int × Int × Int)) : Option Bool :=
 obnd (f262 p0 a0) fun (y1 : Int) =>
 some (ile (0 : Int) y1)
theorem c257 [LO] {p0 : ByteArray → Int → Int → Int → Option Bool} {a0 : List (ByteArray × Int × Int × Int)} {g0 : Value} [Cl g0] (hp0 : ∀ y0 y1 y2 y3 y, p0 y0 y1 y2 y3 = some y → ICallV E g0 [(.agg ⟨[(.string y0), (iV y1), (iV y2), (iV y3)]⟩)] AHeap.none fun v _ => v = (.bool y)) {x : Bool} (H : f257 p0 a0 = some x) : ICalls E 257 [(VS 4 (a0.map e_SIII)), g0] AHeap.none fun v _ => v = (.bool x) := by
 refine icalls_fn (pfnw ?_);unfold f257 at H;refine R ?_;obtain ⟨y1, h2, H⟩ := obnd_some H;refine (c262 hp0 h2).go ?_;refine R ?_;cases H;rfl
noncomputable def f258  (a0 : ByteArray) (_ : Int) (_ : Int) (_ : Int) (a4 : ByteArray) (_ : Int) (_ : Int) (_ : Int) : Option Bool :=
 some (a0.toList == a4.toList)
theorem c258  {a0 : ByteArray} {a1 : Int} {a2 : Int} {a3 : Int} {a4 : ByteArray} {a5 : Int} {a6 : Int} {a7 : Int} {x : Bool} (H : f258 a0 a1 a2 a3 a4 a5 a6 a7 = some x) : ICallV E (.func (.func (E.id 258)) ⟨[]⟩ ⟨[(VP (.agg ⟨[(.string a4), (iV a5), (iV a6), (iV a7)]⟩) 0)]⟩) [(.agg ⟨[(.string a0), (iV a1), (iV a2), (iV a3)]⟩)] AHeap.none fun v _ => v = (.bool x) := by
 refine icallv_fn (pfnw ?_);unfold f258 at H;refine R ?_;cases H;rfl
noncomputable def f235  (a0 : Int) (a1 : Int) : Option Bool :=
 obnd (f216 a0 (IntKind.i64.wrap (0 - a1)) a1) fun (y1 : Bool) =>
 some y1
theorem c235  {a0 : Int} {a1 : Int} {x : Bool} (H : f235 a0 a1 = some x) : ICalls E 235 [(iV a0), (iV a1)] AHeap.none fun v _ => v = (.bool x) := by
 refine icalls_fn (pfnw ?_);unfold f235 at H;refine R ?_;obtain ⟨y1, h2, H⟩ := obnd_some H;refine (c216 h2).go ?_;refine R ?_;cases H;rfl
noncomputable def f254 [LO]  (a0 : ByteArray) : Option Bool :=
 obndS (
 oloop (τ := Int) (ρ := (Unit) ⊕ Bool) (fun e5 =>
 oite ((ilt e5 ((a0.data.toList.map eY).length : Int))) (
 ogrd ((ile 0 e5)) (
 obnd (a0.data.toList[e5.toNat]?) fun (x10 : UInt8) =>
 obnd (f216 ((IntKind.i64.wrap (IntKind.u8.wrap (BitVec.ofInt (IntKind.bits .u8) (x10.toNat : Int) ||| BitVec.ofInt (IntKind.bits .u8) (32 : Int)).toNat))) (97 : Int) (122 : Int)) fun (y11 : Bool) =>
 obnd (
 oite (!y11) (
 obnd (
 oite ((ieq e5 (0 : Int))) (
 some true
 ) (
 oite ((!(ieq (x10.toNat : Int) (45 : Int)))) (
 obnd (f216 (IntKind.i64.wrap (x10.toNat : Int)) (48 : Int) (57 : Int)) fun (y22 : Bool) =>
 some (!y22)
 ) (
 some false))
 ) fun (r18 : Bool) =>
 some r18
 ) (
 some false)
 ) fun (r13 : Bool) =>
 oite r13 (
 some (.inr (.inr (false)))
 ) (
 some (.inl (IntKind.i64.wrap (e5 + (1 : Int))))))
 ) (
 some (.inr (.inl ())))
 ) (0 : Int)
 ) fun (_ : Unit) =>
 obnd (f216 (a0.size : Int) (1 : Int) (12 : Int)) fun (y28 : Bool) =>
 some y28
theorem c254 [LO]  {a0 : ByteArray} {x : Bool} (H : f254 a0 = some x) : ICalls E 254 [(.string a0)] AHeap.none fun v _ => v = (.bool x) := by
 refine icalls_fn (pfnw ?_);unfold f254 at H;refine R ?_;obtain ⟨r1, h2, h3, h4⟩ := obndS_some H;refine pw_joinS (ρ := Unit) (fun e => ⟨[(0, (.string a0))], ⟨0, [], false⟩⟩) r1 ?_ ?_
 · refine R ?_;refine pw_loop (τ := Int) (fun e => ⟨[(0, (.string a0)), (7, (VS 1 (a0.data.toList.map eY))), (8, (iV ((a0.data.toList.map eY).length : Int))), (9, (iV e))], ⟨0, [], false⟩⟩) h2 ?_ (fun _ => nl rfl) ?_
   · exact sb
   · intro e5 x6 h7;refine R ?_;refine pw_seq ?_;refine R ?_;refine pbr_oite h7 (fun g8 h7 => ?_) (fun g8 h7 => ?_)
     · (conv=>whnf);refine pw_skip ?_;(conv=>whnf);refine pw_seq ?_;refine pw_block ?_;refine pwa ?_;(conv=>whnf);refine pbr_ogrd h7 (fun g9 h7 => ?_);(conv=>whnf);refine nth_o (l := a0.data.toList) h7 (fun x10 _ h7 => ?_);(conv=>whnf);refine pwa ?_;(conv=>whnf);obtain ⟨y11, h12, h7⟩ := obnd_some h7;refine (c216 h12).go ?_;(conv=>whnf);obtain ⟨r13, h14, h7⟩ := obnd_some h7;refine pw_join (ρ := Bool) (fun e => ⟨[(0, (.string a0)), (7, (VS 1 (a0.data.toList.map eY))), (8, (iV ((a0.data.toList.map eY).length : Int))), (9, (iV e5)), (33, (.bool e))], ⟨0, [], false⟩⟩) r13 ?_ ?_
       · refine pw_ops ?_;refine po_ops 6 ?_;(conv=>whnf);refine pbr_oite h14 (fun g17 h14 => ?_) (fun g17 h14 => ?_)
         · (conv=>whnf);refine pbr_t g17 ?_;(conv=>whnf);refine pbr_t g17 ?_;(conv=>whnf);obtain ⟨r18, h19, h14⟩ := obnd_some h14;refine po_seg (τ := Bool) 9 (fun e => ⟨[(0, (.string a0)), (7, (VS 1 (a0.data.toList.map eY))), (8, (iV ((a0.data.toList.map eY).length : Int))), (9, (iV e5)), (20, (.bool (!y11))), (21, (iV e5)), (22, (.bool (ieq e5 (0 : Int)))), (23, (.bool (ieq e5 (0 : Int)))), (32, (.bool e))], ⟨0, [], false⟩⟩) r18 ?_ ?_
           · refine R ?_;refine pbr_oite h19 (fun g20 h19 => ?_) (fun g20 h19 => ?_)
             · refine R ?_;cases h19;exact cr
             · refine R ?_;refine pbr_oite h19 (fun g21 h19 => ?_) (fun g21 h19 => ?_)
               · refine R ?_;obtain ⟨y22, h23, h19⟩ := obnd_some h19;refine (c216 h23).go ?_;refine R ?_;cases h19;exact cr
               · refine R ?_;cases h19;exact cr
           · refine R ?_;cases h14;exact cr
         · (conv=>whnf);refine pbr_f g17 ?_;(conv=>whnf);refine pbr_f g17 ?_;(conv=>whnf);refine po_ops 9 ?_;(conv=>whnf);refine pbr_f g17 ?_;(conv=>whnf);refine po_all ?_;(conv=>whnf);refine pbr_f g17 ?_;(conv=>whnf);cases h14;exact ⟨by (repeat refine .cons rfl ?_);exact .nil,rfl⟩
       · refine R ?_;refine pbr_oite h7 (fun g24 h7 => ?_) (fun g24 h7 => ?_)
         · refine R ?_;cases h7;refine ⟨_, rfl, ?_⟩;rintro rfl;refine R ?_;obtain rfl := h4 _ rfl;rfl
         · refine R ?_;cases h7;refine ⟨_, rfl, ?_⟩;exact sb
     · refine R ?_;cases h7;refine ⟨_, rfl, ?_⟩;rintro rfl;refine R ?_;exact ⟨_, rfl, cr⟩
 · intro r27 hr;have H := h3 _ hr;refine R ?_;obtain ⟨y28, h29, H⟩ := obnd_some H;refine (c216 h29).go ?_;refine R ?_;cases H;rfl
noncomputable def f249 [LO]  (a0 : Int) (a1 : Int) (a2 : List (ByteArray × Int × Int × Int)) : Option (Int × Int) :=
 obnd (
 obnd (f256 a0) fun (y5 : Bool) =>
 oite y5 (
 obnd (f256 a1) fun (y8 : Bool) =>
 obnd (f214 y8 (2 : Int)) fun (y10 : Int) =>
 obnd (f214 (ile a0 a1) (9 : Int)) fun (y12 : Int) =>
 obnd (f214 ((ilt (IntKind.i64.wrap (a1 - a0)) (40 : Int))) (8 : Int)) fun (y14 : Int) =>
 obnd (f214 ((ilt (0 : Int) ((a2.map e_SIII).length : Int))) (10 : Int)) fun (y16 : Int) =>
 obnd (f214 ((ile ((a2.map e_SIII).length : Int) (5 : Int))) (8 : Int)) fun (y18 : Int) =>
 obnd (f213 ([y10, y12, y14, y16, y18] : List Int)) fun (y20 : Int) =>
 some y20
 ) (
 obnd (f214 false (2 : Int)) fun (y22 : Int) =>
 obnd (f214 (ile a0 a1) (9 : Int)) fun (y24 : Int) =>
 obnd (f214 ((ilt (IntKind.i64.wrap (a1 - a0)) (40 : Int))) (8 : Int)) fun (y26 : Int) =>
 obnd (f214 ((ilt (0 : Int) ((a2.map e_SIII).length : Int))) (10 : Int)) fun (y28 : Int) =>
 obnd (f214 ((ile ((a2.map e_SIII).length : Int) (5 : Int))) (8 : Int)) fun (y30 : Int) =>
 obnd (f213 ([y22, y24, y26, y28, y30] : List Int)) fun (y32 : Int) =>
 some y32)
 ) fun (r1 : Int) =>
 oite ((!(ieq r1 (0 : Int)))) (
 some ((0 : Int), r1)
 ) (
 obndS (
 oloop (τ := Int) (ρ := (Unit) ⊕ (Int × Int)) (fun e39 =>
 oite ((ilt e39 ((a2.map e_SIII).length : Int))) (
 ogrd ((ile 0 e39)) (
 obnd (a2[e39.toNat]?) fun (x44 : ByteArray × Int × Int × Int) =>
 obnd (oslH a2 e39) fun (m45 : List (ByteArray × Int × Int × Int)) =>
 obnd (f257 (fun (z0 : ByteArray) (z1 : Int) (z2 : Int) (z3 : Int) => f258 z0 z1 z2 z3 x44.1 x44.2.1 x44.2.2.1 x44.2.2.2) m45) fun (y48 : Bool) =>
 obnd (f235 x44.2.1 (10000 : Int)) fun (y50 : Bool) =>
 obnd (
 oite y50 (
 obnd (f235 x44.2.2.1 (10000 : Int)) fun (y55 : Bool) =>
 some y55
 ) (
 some false)
 ) fun (r52 : Bool) =>
 obnd (
 oite r52 (
 obnd (f216 x44.2.2.2 (0 : Int) (10000 : Int)) fun (y60 : Bool) =>
 some y60
 ) (
 some false)
 ) fun (r57 : Bool) =>
 obnd (f254 x44.1) fun (y62 : Bool) =>
 obnd (f214 y62 (4 : Int)) fun (y64 : Int) =>
 obnd (f214 (!y48) (5 : Int)) fun (y66 : Int) =>
 obnd (f214 r57 (2 : Int)) fun (y68 : Int) =>
 obnd (f213 ([y64, y66, y68] : List Int)) fun (y70 : Int) =>
 oite ((!(ieq y70 (0 : Int)))) (
 some (.inr (.inr ((e39, y70))))
 ) (
 some (.inl (IntKind.i64.wrap (e39 + (1 : Int))))))
 ) (
 some (.inr (.inl ())))
 ) (0 : Int)
 ) fun (_ : Unit) =>
 some ((0 : Int), (0 : Int)))
theorem c249 [LO]  {a0 : Int} {a1 : Int} {a2 : List (ByteArray × Int × Int × Int)} {x : Int × Int} (H : f249 a0 a1 a2 = some x) : ICalls E 249 [(.agg ⟨[(iV a0), (iV a1), (VS 4 (a2.map e_SIII))]⟩)] AHeap.none fun v _ => v = (.tuple ⟨[(iV x.1), (iV x.2)]⟩) := by
 refine icalls_fn (pfnw ?_); unfold f249 at H;(conv=>whnf);refine pwa ?_;(conv=>whnf);refine pwa ?_;(conv=>whnf);obtain ⟨r1, h2, H⟩ := obnd_some H;refine pw_join (ρ := Int) (fun e => ⟨[(1, (pV 0 0)), (5, (iV e))], ⟨2, [(1, .tail 5 1), (0, .rw [(iV a0), (iV a1), (VS 4 (a2.map e_SIII))])], false⟩⟩) r1 ?_ ?_
 · refine R ?_;obtain ⟨y5, h6, h2⟩ := obnd_some h2;refine ICallV.go (c256 h6).asV ?_;refine R ?_;refine aR ?_;refine R ?_;refine pbr_oite h2 (fun g7 h2 => ?_) (fun g7 h2 => ?_)
   · refine R ?_;obtain ⟨y8, h9, h2⟩ := obnd_some h2;refine ICallV.go (c256 h9).asV ?_;refine R ?_;refine aR ?_;refine R ?_;obtain ⟨y10, h11, h2⟩ := obnd_some h2;refine (c214 h11).go ?_;refine R ?_;refine aR ?_;refine R ?_;obtain ⟨y12, h13, h2⟩ := obnd_some h2
     refine (c214 h13).go ?_;refine R ?_;refine aR ?_;refine R ?_;obtain ⟨y14, h15, h2⟩ := obnd_some h2;refine (c214 h15).go ?_;refine R ?_;refine aR ?_;refine R ?_;obtain ⟨y16, h17, h2⟩ := obnd_some h2;refine (c214 h17).go ?_;refine R ?_;refine aR ?_;refine R ?_;obtain ⟨y18, h19, h2⟩ := obnd_some h2;refine (c214 h19).go ?_
     refine R ?_;refine aR ?_;refine R ?_;refine aR ?_;refine R ?_;obtain ⟨y20, h21, h2⟩ := obnd_some h2;refine ICalls.goW (c213 h21) (.cons (.vt _ _ _) .nil) ?_;refine R ?_;refine aR ?_;refine R ?_;cases h2;exact cr
   · refine R ?_;obtain ⟨y22, h23, h2⟩ := obnd_some h2;refine (c214 h23).go ?_;refine R ?_;refine aR ?_;refine R ?_;obtain ⟨y24, h25, h2⟩ := obnd_some h2;refine (c214 h25).go ?_;refine R ?_;refine aR ?_;refine R ?_;obtain ⟨y26, h27, h2⟩ := obnd_some h2
     refine (c214 h27).go ?_;refine R ?_;refine aR ?_;refine R ?_;obtain ⟨y28, h29, h2⟩ := obnd_some h2;refine (c214 h29).go ?_;refine R ?_;refine aR ?_;refine R ?_;obtain ⟨y30, h31, h2⟩ := obnd_some h2;refine (c214 h31).go ?_;refine R ?_;refine aR ?_;refine R ?_;refine aR ?_
     refine R ?_;obtain ⟨y32, h33, h2⟩ := obnd_some h2;refine ICalls.goW (c213 h33) (.cons (.vt _ _ _) .nil) ?_;refine R ?_;refine aR ?_;refine R ?_;cases h2;exact cr
 · refine pw_seq ?_;refine R ?_;refine pbr_oite H (fun g34 H => ?_) (fun g34 H => ?_)
   · refine R ?_;cases H;rfl
   · refine R ?_;obtain ⟨r35, h36, h37, h38⟩ := obndS_some H;refine pw_joinS (ρ := Unit) (fun e => ⟨[], ⟨2, [(1, .tail 5 1), (0, .rw [(iV a0), (iV a1), (VS 4 (a2.map e_SIII))])], false⟩⟩) r35 ?_ ?_
     · refine R ?_;refine pw_loop (τ := Int) (fun e => ⟨[(1, (pV 0 0)), (51, (VS 4 (a2.map e_SIII))), (52, (iV ((a2.map e_SIII).length : Int))), (53, (iV e))], ⟨2, [(1, .tail 5 1), (0, .rw [(iV a0), (iV a1), (VS 4 (a2.map e_SIII))])], false⟩⟩) h36 ?_ (fun _ => nl rfl) ?_
       · exact sb
       · intro e39 x40 h41;refine pwa ?_;(conv=>whnf);refine pw_seq ?_;refine pw_cond ?_;(conv=>whnf);refine pbr_oite h41 (fun g42 h41 => ?_) (fun g42 h41 => ?_)
         · (conv=>whnf);refine pw_skip ?_;(conv=>whnf);refine pw_seq ?_;refine pw_block ?_;refine pwa ?_;(conv=>whnf);refine pbr_ogrd h41 (fun g43 h41 => ?_);(conv=>whnf);refine nth_o (l := a2) h41 (fun x44 _ h41 => ?_);(conv=>whnf);refine pwa ?_;(conv=>whnf);refine oslH_o (f := e_SIII) h41 (fun m45 _ h41 h46 h47 => ?_);refine pbr_t (ile_t h46.1) ?_;(conv=>whnf);refine pbr_t (ile_t (by simpa only [List.length_map] using h46.2)) ?_; rw [h47];(conv=>whnf);obtain ⟨y48, h49, h41⟩ := obnd_some h41;refine ICalls.goD (c257 (fun _ _ _ _ _ h => (c258 h)) h49) (.cons .cl (.cons (.func .nil (.cons (.ptr rfl (by intro v hv; simp only [List.mem_cons, List.not_mem_nil, or_false] at hv; rcases hv with rfl | rfl | rfl | rfl <;> rfl)) .nil)) .nil)) rfl ?_
           (conv=>whnf);refine pw_so ?_;refine po_ops 4 ?_;(conv=>whnf);obtain ⟨y50, h51, h41⟩ := obnd_some h41;refine (c235 h51).go ?_;(conv=>whnf);obtain ⟨r52, h53, h41⟩ := obnd_some h41;refine po_seg (τ := Bool) 4 (fun e => ⟨[(1, (pV 0 0)), (6, (iV e39)), (7, (pV 2 0)), (8, (.bool y48)), (51, (VS 4 (a2.map e_SIII))), (52, (iV ((a2.map e_SIII).length : Int))), (53, (iV e39)), (71, (.bool e))], ⟨3, [(2, .rw [(.string x44.1), (iV x44.2.1), (iV x44.2.2.1), (iV x44.2.2.2)]), (1, .tail 5 1), (0, .rw [(iV a0), (iV a1), (VS 4 (a2.map e_SIII))])], false⟩⟩) r52 ?_ ?_
           · refine R ?_;refine pbr_oite h53 (fun g54 h53 => ?_) (fun g54 h53 => ?_)
             · refine R ?_;obtain ⟨y55, h56, h53⟩ := obnd_some h53;refine (c235 h56).go ?_;refine R ?_;cases h53;exact cr
             · refine R ?_;cases h53;exact cr
           · refine po_ops 1 ?_;(conv=>whnf);obtain ⟨r57, h58, h41⟩ := obnd_some h41;refine po_seg (τ := Bool) 4 (fun e => ⟨[(1, (pV 0 0)), (6, (iV e39)), (7, (pV 2 0)), (8, (.bool y48)), (51, (VS 4 (a2.map e_SIII))), (52, (iV ((a2.map e_SIII).length : Int))), (53, (iV e39)), (76, (.bool e))], ⟨3, [(2, .rw [(.string x44.1), (iV x44.2.1), (iV x44.2.2.1), (iV x44.2.2.2)]), (1, .tail 5 1), (0, .rw [(iV a0), (iV a1), (VS 4 (a2.map e_SIII))])], false⟩⟩) r57 ?_ ?_
             · refine R ?_;refine pbr_oite h58 (fun g59 h58 => ?_) (fun g59 h58 => ?_)
               · refine R ?_;obtain ⟨y60, h61, h58⟩ := obnd_some h58;refine (c216 h61).go ?_;refine R ?_;cases h58;exact cr
               · refine R ?_;cases h58;exact cr
             · refine R ?_;obtain ⟨y62, h63, h41⟩ := obnd_some h41;refine (c254 h63).go ?_;refine R ?_;obtain ⟨y64, h65, h41⟩ := obnd_some h41;refine (c214 h65).go ?_;refine R ?_;obtain ⟨y66, h67, h41⟩ := obnd_some h41;refine (c214 h67).go ?_;refine R ?_;obtain ⟨y68, h69, h41⟩ := obnd_some h41;refine (c214 h69).go ?_;refine R ?_;obtain ⟨y70, h71, h41⟩ := obnd_some h41;refine ICalls.goW (c213 h71) (.cons (.vt _ _ _) .nil) ?_;refine R ?_;refine pbr_oite h41 (fun g72 h41 => ?_) (fun g72 h41 => ?_)
               · refine R ?_;cases h41;refine ⟨_, rfl, ?_⟩;rintro rfl;refine R ?_;obtain rfl := h38 _ rfl;rfl
               · refine R ?_;cases h41;refine ⟨_, rfl, ?_⟩;refine Recast.trunc (nl rfl) ?_ ?_
                 · repeat (first | exact .nil | refine .cons rfl (by first | exact OBnd.rwc (nl rfl) rfl | exact OBnd.tail (nl rfl) | trivial) ?_)
                 · repeat (first | exact .nil | refine .cons rfl (by first | exact Bnd.ptr (nl rfl) | exact Bnd.vt (nl rfl) | exact Bnd.cl) ?_)
         · refine R ?_;cases h41;refine ⟨_, rfl, ?_⟩;rintro rfl;refine R ?_;exact ⟨_, rfl, cr⟩
     · intro r75 hr;have H := h37 _ hr;refine R ?_;cases H;rfl
noncomputable def f250  (a0 : Int) : Option Bool :=
 obnd (f235 a0 (10000 : Int)) fun (y1 : Bool) =>
 some y1
theorem c250  {a0 : Int} {x : Bool} (H : f250 a0 = some x) : ICalls E 250 [(iV a0)] AHeap.none fun v _ => v = (.bool x) := by
 refine icalls_fn (pfnw ?_);unfold f250 at H;refine R ?_;obtain ⟨y1, h2, H⟩ := obnd_some H;refine (c235 h2).go ?_;refine R ?_;cases H;rfl
noncomputable def f237 [LO]  (a0 : Int) (a1 : Int) (a2 : List (ByteArray × Int × Int × Int)) (a3 : Int) (a4 : Int) (a5 : Int) (a6 : List (Int × Int × Int)) : Option (Int × Int) :=
 obnd (f249 a0 a1 a2) fun (y1 : Int × Int) =>
 obnd (f216 a3 a0 a1) fun (y3 : Bool) =>
 obnd (f214 y3 (2 : Int)) fun (y5 : Int) =>
 obnd (f216 a4 (0 : Int) ((IntKind.i64.wrap (((a2.map e_SIII).length : Int) - (1 : Int))))) fun (y7 : Bool) =>
 obnd (f214 y7 (6 : Int)) fun (y9 : Int) =>
 obnd (f250 a5) fun (y11 : Bool) =>
 obnd (f214 y11 (2 : Int)) fun (y13 : Int) =>
 obnd (f214 ((ilt (0 : Int) ((a6.map e_III).length : Int))) (10 : Int)) fun (y15 : Int) =>
 obnd (f214 ((ile ((a6.map e_III).length : Int) (10 : Int))) (8 : Int)) fun (y17 : Int) =>
 obnd (f213 ([y1.2, y5, y9, y13, y15, y17] : List Int)) fun (y19 : Int) =>
 oite ((!(ieq y19 (0 : Int)))) (
 some ((0 : Int), y19)
 ) (
 obndS (
 oloop (τ := Int) (ρ := (Unit) ⊕ (Int × Int)) (fun e26 =>
 oite ((ilt e26 ((a6.map e_III).length : Int))) (
 ogrd ((ile 0 e26)) (
 obnd (a6[e26.toNat]?) fun (x31 : Int × Int × Int) =>
 obnd (
 obnd (f250 x31.1) fun (y36 : Bool) =>
 oite y36 (
 obnd (f250 x31.2.1) fun (y39 : Bool) =>
 oite y39 (
 obnd (f250 x31.2.2) fun (y42 : Bool) =>
 obnd (f214 y42 (2 : Int)) fun (y44 : Int) =>
 obnd (f214 (ile x31.2.1 x31.1) (9 : Int)) fun (y46 : Int) =>
 obnd (f213 ([y44, y46] : List Int)) fun (y48 : Int) =>
 some y48
 ) (
 obnd (f214 false (2 : Int)) fun (y50 : Int) =>
 obnd (f214 (ile x31.2.1 x31.1) (9 : Int)) fun (y52 : Int) =>
 obnd (f213 ([y50, y52] : List Int)) fun (y54 : Int) =>
 some y54)
 ) (
 obnd (f214 false (2 : Int)) fun (y56 : Int) =>
 obnd (f214 (ile x31.2.1 x31.1) (9 : Int)) fun (y58 : Int) =>
 obnd (f213 ([y56, y58] : List Int)) fun (y60 : Int) =>
 some y60)
 ) fun (r32 : Int) =>
 oite ((!(ieq r32 (0 : Int)))) (
 some (.inr (.inr ((e26, r32))))
 ) (
 some (.inl (IntKind.i64.wrap (e26 + (1 : Int))))))
 ) (
 some (.inr (.inl ())))
 ) (0 : Int)
 ) fun (_ : Unit) =>
 some ((0 : Int), (0 : Int)))
theorem c237 [LO]  {a0 : Int} {a1 : Int} {a2 : List (ByteArray × Int × Int × Int)} {a3 : Int} {a4 : Int} {a5 : Int} {a6 : List (Int × Int × Int)} {x : Int × Int} (H : f237 a0 a1 a2 a3 a4 a5 a6 = some x) : ICalls E 237 [(.agg ⟨[(iV a0), (iV a1), (VS 4 (a2.map e_SIII))]⟩), (.agg ⟨[(iV a3), (iV a4), (iV a5), (VS 3 (a6.map e_III))]⟩)] AHeap.none fun v _ => v = (.tuple ⟨[(iV x.1), (iV x.2)]⟩) := by
 refine icalls_fn (pfnw ?_);unfold f237 at H;refine R ?_;obtain ⟨y1, h2, H⟩ := obnd_some H;refine (c249 h2).go ?_;refine R ?_;obtain ⟨y3, h4, H⟩ := obnd_some H;refine (c216 h4).go ?_;refine R ?_;refine aR ?_;refine R ?_;obtain ⟨y5, h6, H⟩ := obnd_some H;refine (c214 h6).go ?_;refine R ?_;refine aR ?_
 refine R ?_;obtain ⟨y7, h8, H⟩ := obnd_some H;refine (c216 h8).go ?_;refine R ?_;refine aR ?_;refine R ?_;obtain ⟨y9, h10, H⟩ := obnd_some H;refine (c214 h10).go ?_;refine R ?_;refine aR ?_;refine R ?_;obtain ⟨y11, h12, H⟩ := obnd_some H;refine (c250 h12).go ?_;refine R ?_;refine aR ?_;refine R ?_
 refine R ?_;obtain ⟨y13, h14, H⟩ := obnd_some H;refine (c214 h14).go ?_;refine R ?_;refine aR ?_;refine R ?_;obtain ⟨y15, h16, H⟩ := obnd_some H;refine (c214 h16).go ?_;refine R ?_;refine aR ?_;refine R ?_;obtain ⟨y17, h18, H⟩ := obnd_some H;refine (c214 h18).go ?_;refine R ?_;refine aR ?_;refine R ?_;refine aR ?_
 refine R ?_;obtain ⟨y19, h20, H⟩ := obnd_some H;refine ICalls.goW (c213 h20) (.cons (.vt _ _ _) .nil) ?_;refine R ?_;refine aR ?_;refine R ?_;refine aR ?_;refine R ?_;refine pw_seq ?_;refine R ?_;refine pbr_oite H (fun g21 H => ?_) (fun g21 H => ?_)
 · refine R ?_;cases H;rfl
 · refine R ?_;obtain ⟨r22, h23, h24, h25⟩ := obndS_some H;refine pw_joinS (ρ := Unit) (fun e => ⟨[], ⟨3, [(2, .tail 6 1), (1, .rw [(iV a3), (iV a4), (iV a5), (VS 3 (a6.map e_III))]), (0, .rw [(iV a0), (iV a1), (VS 4 (a2.map e_SIII))])], false⟩⟩) r22 ?_ ?_
   · refine R ?_;refine pw_loop (τ := Int) (fun e => ⟨[(53, (VS 3 (a6.map e_III))), (54, (iV ((a6.map e_III).length : Int))), (55, (iV e))], ⟨3, [(2, .tail 6 1), (1, .rw [(iV a3), (iV a4), (iV a5), (VS 3 (a6.map e_III))]), (0, .rw [(iV a0), (iV a1), (VS 4 (a2.map e_SIII))])], false⟩⟩) h23 ?_ (fun _ => nl rfl) ?_
     · exact sb
     · intro e26 x27 h28;refine R ?_;refine pw_seq ?_;refine R ?_;refine pbr_oite h28 (fun g29 h28 => ?_) (fun g29 h28 => ?_)
       · (conv=>whnf);refine pw_skip ?_;(conv=>whnf);refine pw_seq ?_;refine pw_block ?_;refine pwa ?_;(conv=>whnf);refine pbr_ogrd h28 (fun g30 h28 => ?_);(conv=>whnf);refine nth_o (l := a6) h28 (fun x31 _ h28 => ?_);(conv=>whnf);obtain ⟨r32, h33, h28⟩ := obnd_some h28;refine pw_join (ρ := Int) (fun e => ⟨[(8, (iV e26)), (10, (iV e)), (53, (VS 3 (a6.map e_III))), (54, (iV ((a6.map e_III).length : Int))), (55, (iV e26))], ⟨5, [(4, .tail 2 1), (3, .rw [(iV x31.1), (iV x31.2.1), (iV x31.2.2)]), (2, .tail 6 1), (1, .rw [(iV a3), (iV a4), (iV a5), (VS 3 (a6.map e_III))]), (0, .rw [(iV a0), (iV a1), (VS 4 (a2.map e_SIII))])], false⟩⟩) r32 ?_ ?_
         · refine R ?_;obtain ⟨y36, h37, h33⟩ := obnd_some h33;refine (c250 h37).go ?_;refine R ?_;refine aR ?_;refine R ?_;refine pbr_oite h33 (fun g38 h33 => ?_) (fun g38 h33 => ?_)
           · refine R ?_;obtain ⟨y39, h40, h33⟩ := obnd_some h33;refine (c250 h40).go ?_;refine R ?_;refine aR ?_;refine R ?_;refine pbr_oite h33 (fun g41 h33 => ?_) (fun g41 h33 => ?_)
             · refine R ?_;obtain ⟨y42, h43, h33⟩ := obnd_some h33;refine (c250 h43).go ?_;refine R ?_;refine aR ?_;refine R ?_;obtain ⟨y44, h45, h33⟩ := obnd_some h33;refine (c214 h45).go ?_;refine R ?_;refine aR ?_;refine R ?_;obtain ⟨y46, h47, h33⟩ := obnd_some h33;refine (c214 h47).go ?_
               refine R ?_;refine aR ?_;refine R ?_;refine aR ?_;refine R ?_;obtain ⟨y48, h49, h33⟩ := obnd_some h33;refine ICalls.goW (c213 h49) (.cons (.vt _ _ _) .nil) ?_;refine R ?_;refine aR ?_;refine R ?_;cases h33;exact cr
             · refine R ?_;obtain ⟨y50, h51, h33⟩ := obnd_some h33;refine (c214 h51).go ?_;refine R ?_;refine aR ?_;refine R ?_;obtain ⟨y52, h53, h33⟩ := obnd_some h33;refine (c214 h53).go ?_;refine R ?_;refine aR ?_;refine R ?_;refine aR ?_
               refine R ?_;obtain ⟨y54, h55, h33⟩ := obnd_some h33;refine ICalls.goW (c213 h55) (.cons (.vt _ _ _) .nil) ?_;refine R ?_;refine aR ?_;refine R ?_;cases h33;exact cr
           · refine R ?_;obtain ⟨y56, h57, h33⟩ := obnd_some h33;refine (c214 h57).go ?_;refine R ?_;refine aR ?_;refine R ?_;obtain ⟨y58, h59, h33⟩ := obnd_some h33;refine (c214 h59).go ?_;refine R ?_;refine aR ?_;refine R ?_
             refine aR ?_;refine R ?_;obtain ⟨y60, h61, h33⟩ := obnd_some h33;refine ICalls.goW (c213 h61) (.cons (.vt _ _ _) .nil) ?_;refine R ?_;refine aR ?_;refine R ?_;cases h33;exact cr
         · refine R ?_;refine pbr_oite h28 (fun g62 h28 => ?_) (fun g62 h28 => ?_)
           · refine R ?_;cases h28;refine ⟨_, rfl, ?_⟩;rintro rfl;refine R ?_;obtain rfl := h25 _ rfl;rfl
           · refine R ?_;cases h28;refine ⟨_, rfl, ?_⟩;refine Recast.trunc (nl rfl) ?_ ?_
             · repeat (first | exact .nil | refine .cons rfl (by first | exact OBnd.rwc (nl rfl) rfl | exact OBnd.tail (nl rfl) | trivial) ?_)
             · repeat (first | exact .nil | refine .cons rfl (by first | exact Bnd.ptr (nl rfl) | exact Bnd.vt (nl rfl) | exact Bnd.cl) ?_)
       · refine R ?_;cases h28;refine ⟨_, rfl, ?_⟩;rintro rfl;refine R ?_;exact ⟨_, rfl, cr⟩
   · intro r65 hr;have H := h24 _ hr;refine R ?_;cases H;rfl
noncomputable def f219 [LO]  (a0 : Int) (a1 : Int) (a2 : List (ByteArray × Int × Int × Int)) (a3 : Int) (a4 : Int) (a5 : Int) (a6 : List (Int × Int × Int)) : Option (Int × Int × (List (ByteArray × Int × Int × Int)) × Int × Int × Int × (List (Int × Int × Int)) × Int) :=
 obnd (f237 a0 a1 a2 a3 a4 a5 a6) fun (y1 : Int × Int) =>
 some (a0, a1, a2, a3, a4, a5, a6, y1.2)
theorem c219 [LO]  {a0 : Int} {a1 : Int} {a2 : List (ByteArray × Int × Int × Int)} {a3 : Int} {a4 : Int} {a5 : Int} {a6 : List (Int × Int × Int)} {x : Int × Int × (List (ByteArray × Int × Int × Int)) × Int × Int × Int × (List (Int × Int × Int)) × Int} (H : f219 a0 a1 a2 a3 a4 a5 a6 = some x) : ICalls E 219 [(.agg ⟨[(iV a0), (iV a1), (VS 4 (a2.map e_SIII))]⟩), (.agg ⟨[(iV a3), (iV a4), (iV a5), (VS 3 (a6.map e_III))]⟩)] AHeap.none fun v _ => v = (.tuple ⟨[(.agg ⟨[(iV x.1), (iV x.2.1), (VS 4 (x.2.2.1.map e_SIII)), (iV x.2.2.2.1), (iV x.2.2.2.2.1), (iV x.2.2.2.2.2.1), (VS 3 (x.2.2.2.2.2.2.1.map e_III))]⟩), (iV x.2.2.2.2.2.2.2)]⟩) := by
 refine ICalls.frz ?_;refine icalls_fn (pfnw ?_);unfold f219 at H;refine R ?_;obtain ⟨y1, h2, H⟩ := obnd_some H;refine (c237 h2).go ?_;refine R ?_;cases H;show ∃ D, Fz _ D 0 (.tuple ⟨[(.agg ⟨[(iV a0), (iV a1), (VS 4 _), (iV a3), (iV a4), (iV a5), (VS 3 _)]⟩), (iV y1.2)]⟩) _;exact ⟨fun _ => false, .tuplel (.cons .cl (.cons .cl (.nil)))⟩
noncomputable def f234  (a0 : Int) (_ : Int) (a2 : List (ByteArray × Int × Int × Int)) (_ : Int) (_ : Int) (_ : Int) (_ : List (Int × Int × Int)) (a7 : Int) (a8 : Int) : Option Int :=
 some (IntKind.i64.wrap ((IntKind.i64.wrap ((IntKind.i64.wrap (a7 - a0)) * ((a2.map e_SIII).length : Int))) + a8))
theorem c234  {a0 : Int} {a1 : Int} {a2 : List (ByteArray × Int × Int × Int)} {a3 : Int} {a4 : Int} {a5 : Int} {a6 : List (Int × Int × Int)} {a7 : Int} {a8 : Int} {x : Int} (H : f234 a0 a1 a2 a3 a4 a5 a6 a7 a8 = some x) : ICalls E 234 [(.agg ⟨[(iV a0), (iV a1), (VS 4 (a2.map e_SIII)), (iV a3), (iV a4), (iV a5), (VS 3 (a6.map e_III))]⟩), (iV a7), (iV a8)] AHeap.none fun v _ => v = (iV x) := by
 refine icalls_fn (pfnw ?_);unfold f234 at H;refine R ?_;cases H;rfl
noncomputable def f242  (_ : Int) (_ : Int) (a2 : List (ByteArray × Int × Int × Int)) (_ : Int) (_ : Int) (_ : Int) (a6 : List (Int × Int × Int)) (a7 : Int) (a8 : Int) (a9 : Int) : Option Int :=
 ogrd ((ile 0 a8)) (
 obnd (a6[a8.toNat]?) fun (x2 : Int × Int × Int) =>
 ogrd ((ile 0 a9)) (
 obnd (a2[a9.toNat]?) fun (x4 : ByteArray × Int × Int × Int) =>
 some (IntKind.i64.wrap ((IntKind.i64.wrap (a7 + x2.2.2)) + x4.2.1))))
theorem c242  {a0 : Int} {a1 : Int} {a2 : List (ByteArray × Int × Int × Int)} {a3 : Int} {a4 : Int} {a5 : Int} {a6 : List (Int × Int × Int)} {a7 : Int} {a8 : Int} {a9 : Int} {x : Int} (H : f242 a0 a1 a2 a3 a4 a5 a6 a7 a8 a9 = some x) : ICalls E 242 [(.agg ⟨[(iV a0), (iV a1), (VS 4 (a2.map e_SIII)), (iV a3), (iV a4), (iV a5), (VS 3 (a6.map e_III))]⟩), (iV a7), (iV a8), (iV a9)] AHeap.none fun v _ => v = (iV x) := by
 refine icalls_fn (pfnw ?_);unfold f242 at H;refine R ?_;refine pbr_ogrd H (fun g1 H => ?_);refine R ?_;refine nth_o (l := a6) H (fun x2 _ H => ?_);refine R ?_;refine pbr_ogrd H (fun g3 H => ?_);refine R ?_;refine nth_o (l := a2) H (fun x4 _ H => ?_);refine R ?_;cases H;rfl
noncomputable def f243  (a0 : Int) (a1 : Int) (_ : List (ByteArray × Int × Int × Int)) (_ : Int) (_ : Int) (_ : Int) (_ : List (Int × Int × Int)) (a7 : Int) : Option Bool :=
 obnd (f216 a7 a0 a1) fun (y1 : Bool) =>
 some y1
theorem c243  {a0 : Int} {a1 : Int} {a2 : List (ByteArray × Int × Int × Int)} {a3 : Int} {a4 : Int} {a5 : Int} {a6 : List (Int × Int × Int)} {a7 : Int} {x : Bool} (H : f243 a0 a1 a2 a3 a4 a5 a6 a7 = some x) : ICalls E 243 [(.agg ⟨[(iV a0), (iV a1), (VS 4 (a2.map e_SIII)), (iV a3), (iV a4), (iV a5), (VS 3 (a6.map e_III))]⟩), (iV a7)] AHeap.none fun v _ => v = (.bool x) := by
 refine icalls_fn (pfnw ?_);unfold f243 at H;refine R ?_;obtain ⟨y1, h2, H⟩ := obnd_some H;refine (c216 h2).go ?_;refine R ?_;cases H;rfl
noncomputable def f223 [LO]  (a0 : Int) (a1 : Int) (a2 : List (ByteArray × Int × Int × Int)) (a3 : Int) (a4 : Int) (a5 : Int) (a6 : List (Int × Int × Int)) (a7 : Int) (a8 : Int) (a9 : Int) : Option Int :=
 obnd (
 oloop (τ := Int × Int) (ρ := Int) (fun e5 =>
 oite ((ilt (IntKind.i64.wrap (a8 + e5.2)) ((a6.map e_III).length : Int))) (
 obnd (f242 a0 a1 a2 a3 a4 a5 a6 e5.1 (IntKind.i64.wrap (a8 + e5.2)) a9) fun (y9 : Int) =>
 obnd (f243 a0 a1 a2 a3 a4 a5 a6 y9) fun (y11 : Bool) =>
 oite (!y11) (
 some (.inr (e5.2))
 ) (
 some (.inl (y9, (IntKind.i64.wrap (e5.2 + (1 : Int))))))
 ) (
 some (.inr (e5.2)))
 ) (a7, (0 : Int))
 ) fun (r1 : Int) =>
 some r1
theorem c223 [LO]  {a0 : Int} {a1 : Int} {a2 : List (ByteArray × Int × Int × Int)} {a3 : Int} {a4 : Int} {a5 : Int} {a6 : List (Int × Int × Int)} {a7 : Int} {a8 : Int} {a9 : Int} {x : Int} (H : f223 a0 a1 a2 a3 a4 a5 a6 a7 a8 a9 = some x) : ICalls E 223 [(.agg ⟨[(iV a0), (iV a1), (VS 4 (a2.map e_SIII)), (iV a3), (iV a4), (iV a5), (VS 3 (a6.map e_III))]⟩), (iV a7), (iV a8), (iV a9)] AHeap.none fun v _ => v = (iV x) := by
 refine icalls_fn (pfnw ?_);unfold f223 at H;refine R ?_;obtain ⟨r1, h2, H⟩ := obnd_some H;refine pw_join (ρ := Int) (fun e => ⟨[(9, (iV e))], ⟨1, [(0, .rw [(iV a0), (iV a1), (VS 4 (a2.map e_SIII)), (iV a3), (iV a4), (iV a5), (VS 3 (a6.map e_III))])], false⟩⟩) r1 ?_ ?_
 · refine R ?_;refine pw_loop (τ := Int × Int) (fun e => ⟨[(1, (iV e.1)), (2, (iV a8)), (3, (iV a9)), (4, (pV 0 0)), (9, (iV e.2))], ⟨1, [(0, .rw [(iV a0), (iV a1), (VS 4 (a2.map e_SIII)), (iV a3), (iV a4), (iV a5), (VS 3 (a6.map e_III))])], false⟩⟩) h2 ?_ (fun _ => nl rfl) ?_
   · exact sb
   · intro e5 x6 h7;refine pw_seq ?_;refine R ?_;refine pbr_oite h7 (fun g8 h7 => ?_) (fun g8 h7 => ?_)
     · refine R ?_;refine pw_seq ?_;refine R ?_;obtain ⟨y9, h10, h7⟩ := obnd_some h7;refine (c242 h10).go ?_;refine R ?_;obtain ⟨y11, h12, h7⟩ := obnd_some h7;refine (c243 h12).go ?_;refine R ?_;refine pbr_oite h7 (fun g13 h7 => ?_) (fun g13 h7 => ?_)
       · refine R ?_;cases h7;refine ⟨_, rfl, ?_⟩;rintro rfl;refine R ?_;exact cr
       · refine R ?_;cases h7;refine ⟨_, rfl, ?_⟩;exact sb
     · refine R ?_;cases h7;refine ⟨_, rfl, ?_⟩;rintro rfl;refine R ?_;exact cr
 · refine R ?_;cases H;rfl
noncomputable def f247 [LO]  (a0 : Int) (a1 : Int) (a2 : List (ByteArray × Int × Int × Int)) (a3 : Int) (a4 : Int) (a5 : Int) (a6 : List (Int × Int × Int)) (a7 : Int) (a8 : Int) (a9 : Int) (a10 : Int) : Option Bool :=
 oite ((ilt a9 (0 : Int))) (
 some true
 ) (
 obnd (f223 a0 a1 a2 a3 a4 a5 a6 a7 a8 a9) fun (y2 : Int) =>
 some (ile (imin a10 (IntKind.i64.wrap (((a6.map e_III).length : Int) - a8))) y2))
theorem c247 [LO]  {a0 : Int} {a1 : Int} {a2 : List (ByteArray × Int × Int × Int)} {a3 : Int} {a4 : Int} {a5 : Int} {a6 : List (Int × Int × Int)} {a7 : Int} {a8 : Int} {a9 : Int} {a10 : Int} {x : Bool} (H : f247 a0 a1 a2 a3 a4 a5 a6 a7 a8 a9 a10 = some x) : ICalls E 247 [(.agg ⟨[(iV a0), (iV a1), (VS 4 (a2.map e_SIII)), (iV a3), (iV a4), (iV a5), (VS 3 (a6.map e_III))]⟩), (iV a7), (iV a8), (.agg ⟨[(iV a9), (iV a10)]⟩)] AHeap.none fun v _ => v = (.bool x) := by
 refine icalls_fn (pfnw ?_);unfold f247 at H;refine R ?_;refine pbr_oite H (fun g1 H => ?_) (fun g1 H => ?_)
 · refine R ?_;cases H;rfl
 · refine R ?_;obtain ⟨y2, h3, H⟩ := obnd_some H;refine (c223 h3).go ?_;refine R ?_;refine aR ?_
   refine R ?_;cases H;rfl
noncomputable def f239  (_ : Int) (_ : Int) (a2 : List (ByteArray × Int × Int × Int)) (_ : Int) (_ : Int) (_ : Int) (a6 : List (Int × Int × Int)) (a7 : Int) (a8 : Int) (a9 : Int) : Option Int :=
 obnd (
 ogrd ((ile 0 a9)) (
 obnd (a2[a9.toNat]?) fun (x6 : ByteArray × Int × Int × Int) =>
 ogrd ((ile 0 a7)) (
 obnd (a6[a7.toNat]?) fun (x8 : Int × Int × Int) =>
 some (x6.1, x6.2.1, x6.2.2.1, x6.2.2.2, x8.1, x8.2.1, x8.2.2)))
 ) fun (r1 : ByteArray × Int × Int × Int × Int × Int × Int) =>
 obnd (
 oite ((ilt (0 : Int) r1.2.2.1)) (
 some r1.2.2.2.2.2.1
 ) (
 some r1.2.2.2.2.1)
 ) fun (r9 : Int) =>
 oite ((!(ieq a8 a9))) (
 some (IntKind.i64.wrap ((IntKind.i64.wrap (r1.2.2.1 * r9)) - r1.2.2.2.1))
 ) (
 some (IntKind.i64.wrap (r1.2.2.1 * r9)))
theorem c239  {a0 : Int} {a1 : Int} {a2 : List (ByteArray × Int × Int × Int)} {a3 : Int} {a4 : Int} {a5 : Int} {a6 : List (Int × Int × Int)} {a7 : Int} {a8 : Int} {a9 : Int} {x : Int} (H : f239 a0 a1 a2 a3 a4 a5 a6 a7 a8 a9 = some x) : ICalls E 239 [(.agg ⟨[(iV a0), (iV a1), (VS 4 (a2.map e_SIII)), (iV a3), (iV a4), (iV a5), (VS 3 (a6.map e_III))]⟩), (iV a7), (iV a8), (iV a9)] AHeap.none fun v _ => v = (iV x) := by
 refine icalls_fn (pfnw ?_); unfold f239 at H;(conv=>whnf);refine pwa ?_;(conv=>whnf);obtain ⟨r1, h2, H⟩ := obnd_some H;refine pw_joinR (ρ := ByteArray × Int × Int × Int × Int × Int × Int) (fun e => ⟨[(2, (iV a8)), (3, (iV a9)), (9, (pV 1 0)), (10, (pV 2 0))], ⟨3, [(2, .rw [(iV e.2.2.2.2.1), (iV e.2.2.2.2.2.1), (iV e.2.2.2.2.2.2)]), (1, .rw [(.string e.1), (iV e.2.1), (iV e.2.2.1), (iV e.2.2.2.1)]), (0, .rw [(iV a0), (iV a1), (VS 4 (a2.map e_SIII)), (iV a3), (iV a4), (iV a5), (VS 3 (a6.map e_III))])], false⟩⟩) r1 ?_ ?_
 · refine R ?_;refine pbr_ogrd h2 (fun g5 h2 => ?_);refine R ?_;refine nth_o (l := a2) h2 (fun x6 _ h2 => ?_);refine R ?_;refine pbr_ogrd h2 (fun g7 h2 => ?_);refine R ?_;refine nth_o (l := a6) h2 (fun x8 _ h2 => ?_);refine R ?_;refine ⟨?_, ?_⟩
   · refine R ?_;refine aR ?_;refine R ?_;refine aR ?_;refine R ?_;refine aR ?_;refine R ?_;refine aR ?_;refine R ?_;cases h2;exact rfz
   · refine R ?_;refine aR ?_;refine R ?_;refine aR ?_;refine R ?_;refine aR ?_;refine R ?_;refine aR ?_;refine R ?_;cases h2;refine Recast.trans (s' := ⟨[(2, (iV a8)), (3, (iV a9)), (9, (pV 2 0)), (10, (pV 3 0))], ⟨4, [(2, .rw [(.string x6.1), (iV x6.2.1), (iV x6.2.2.1), (iV x6.2.2.2)]), (3, .rw [(iV x8.1), (iV x8.2.1), (iV x8.2.2)]), (0, .rw [(iV a0), (iV a1), (VS 4 (a2.map e_SIII)), (iV a3), (iV a4), (iV a5), (VS 3 (a6.map e_III))])], false⟩⟩) (Recast.mv 1 3 (nl rfl) (nl rfl) (.cons (.rw (nn rfl) (nn rfl) (nl rfl) rfl rfl (.of (.cons .cl (.cons .cl (.cons .cl (.cons .cl .nil)))))) (.cons (.mv rfl (nl rfl) rfl rfl (.of (.cons .cl (.cons .cl (.cons .cl .nil))))) (.cons (.rw (nn rfl) (nn rfl) (nl rfl) rfl rfl (.of (.cons .cl (.cons .cl (.cons .cl (.cons .cl (.cons .cl (.cons .cl (.cons .cl .nil))))))))) .nil))) (.cons rfl .cl (.cons rfl .cl (.cons rfl (.ptr (nn rfl) (nl rfl)) (.cons rfl (.ptrm (nl rfl)) .nil))))) ?_
     refine Recast.trans (s' := ⟨[(2, (iV a8)), (3, (iV a9)), (9, (pV 4 0)), (10, (pV 3 0))], ⟨5, [(4, .rw [(.string x6.1), (iV x6.2.1), (iV x6.2.2.1), (iV x6.2.2.2)]), (3, .rw [(iV x8.1), (iV x8.2.1), (iV x8.2.2)]), (0, .rw [(iV a0), (iV a1), (VS 4 (a2.map e_SIII)), (iV a3), (iV a4), (iV a5), (VS 3 (a6.map e_III))])], false⟩⟩) (Recast.mv 2 4 (nl rfl) (nl rfl) (.cons (.mv rfl (nl rfl) rfl rfl (.of (.cons .cl (.cons .cl (.cons .cl (.cons .cl .nil)))))) (.cons (.rw (nn rfl) (nn rfl) (nl rfl) rfl rfl (.of (.cons .cl (.cons .cl (.cons .cl .nil))))) (.cons (.rw (nn rfl) (nn rfl) (nl rfl) rfl rfl (.of (.cons .cl (.cons .cl (.cons .cl (.cons .cl (.cons .cl (.cons .cl (.cons .cl .nil))))))))) .nil))) (.cons rfl .cl (.cons rfl .cl (.cons rfl (.ptrm (nl rfl)) (.cons rfl (.ptr (nn rfl) (nl rfl)) .nil))))) ?_
     refine Recast.trans (s' := ⟨[(2, (iV a8)), (3, (iV a9)), (9, (pV 4 0)), (10, (pV 2 0))], ⟨5, [(4, .rw [(.string x6.1), (iV x6.2.1), (iV x6.2.2.1), (iV x6.2.2.2)]), (2, .rw [(iV x8.1), (iV x8.2.1), (iV x8.2.2)]), (0, .rw [(iV a0), (iV a1), (VS 4 (a2.map e_SIII)), (iV a3), (iV a4), (iV a5), (VS 3 (a6.map e_III))])], false⟩⟩) (Recast.mv 3 2 (nl rfl) (nl rfl) (.cons (.rw (nn rfl) (nn rfl) (nl rfl) rfl rfl (.of (.cons .cl (.cons .cl (.cons .cl (.cons .cl .nil)))))) (.cons (.mv rfl (nl rfl) rfl rfl (.of (.cons .cl (.cons .cl (.cons .cl .nil))))) (.cons (.rw (nn rfl) (nn rfl) (nl rfl) rfl rfl (.of (.cons .cl (.cons .cl (.cons .cl (.cons .cl (.cons .cl (.cons .cl (.cons .cl .nil))))))))) .nil))) (.cons rfl .cl (.cons rfl .cl (.cons rfl (.ptr (nn rfl) (nl rfl)) (.cons rfl (.ptrm (nl rfl)) .nil))))) ?_
     exact (Recast.mv 4 1 (nl rfl) (nl rfl) (.cons (.rw (nn rfl) (nn rfl) (nl rfl) rfl rfl (.of (.cons .cl (.cons .cl (.cons .cl .nil))))) (.cons (.mv rfl (nl rfl) rfl rfl (.of (.cons .cl (.cons .cl (.cons .cl (.cons .cl .nil)))))) (.cons (.rw (nn rfl) (nn rfl) (nl rfl) rfl rfl (.of (.cons .cl (.cons .cl (.cons .cl (.cons .cl (.cons .cl (.cons .cl (.cons .cl .nil))))))))) .nil))) (.cons rfl .cl (.cons rfl .cl (.cons rfl (.ptrm (nl rfl)) (.cons rfl (.ptr (nn rfl) (nl rfl)) .nil)))))
 · refine R ?_;obtain ⟨r9, h10, H⟩ := obnd_some H;refine pw_join (ρ := Int) (fun e => ⟨[(2, (iV a8)), (3, (iV a9)), (9, (pV 1 0)), (11, (iV e))], ⟨3, [(2, .rw [(iV r1.2.2.2.2.1), (iV r1.2.2.2.2.2.1), (iV r1.2.2.2.2.2.2)]), (1, .rw [(.string r1.1), (iV r1.2.1), (iV r1.2.2.1), (iV r1.2.2.2.1)]), (0, .rw [(iV a0), (iV a1), (VS 4 (a2.map e_SIII)), (iV a3), (iV a4), (iV a5), (VS 3 (a6.map e_III))])], false⟩⟩) r9 ?_ ?_
   · refine R ?_;refine pbr_oite h10 (fun g13 h10 => ?_) (fun g13 h10 => ?_)
     · refine R ?_;cases h10;exact cr
     · refine R ?_;cases h10;exact cr
   · refine R ?_;refine pw_seq ?_;refine R ?_;refine pbr_oite H (fun g14 H => ?_) (fun g14 H => ?_)
     · refine R ?_;cases H;rfl
     · refine R ?_;cases H;rfl
noncomputable def f229 [LO]  (a0 : Int) (a1 : Int) (a2 : List (ByteArray × Int × Int × Int)) (a3 : Int) (a4 : Int) (a5 : Int) (a6 : List (Int × Int × Int)) (a7 : Int) (a8 : Int) : Option ((List ((List Int)))) :=
 obnd (f234 a0 a1 a2 a3 a4 a5 a6 a1 ((IntKind.i64.wrap (((a2.map e_SIII).length : Int) - (1 : Int))))) fun (y1 : Int) =>
 ogrd (mfits 24 (IntKind.i64.wrap (((a6.map e_III).length : Int) + (1 : Int))) (IntKind.i64.wrap (((a6.map e_III).length : Int) + (1 : Int)))) (
 obnd (
 oloop (τ := Int × (List ((List Int)))) (ρ := Int × (List ((List Int)))) (fun e8 =>
 oite ((ile (0 : Int) e8.1)) (
 obnd (
 obnd (f246 ([(-100000000000 : Int)] : List Int) (IntKind.i64.wrap (y1 + (1 : Int)))) fun (y16 : (List Int)) =>
 ogrd ((ile 0 e8.1)) (
 ogrd ((ilt e8.1 ((IntKind.i64.wrap (((a6.map e_III).length : Int) + (1 : Int))).toNat : Int))) (
 ogrd (Nat.blt e8.1.toNat e8.2.length) (
 oloop (τ := Int × (List Int)) (ρ := Nat × (List Int)) (fun e21 =>
 oite ((ile e21.1 a1)) (
 obnd (
 oloop (τ := Int × (List Int)) (ρ := (List Int)) (fun e29 =>
 oite ((ilt e29.1 ((a2.map e_SIII).length : Int))) (
 obnd (
 obnd (
 obnd (f234 a0 a1 a2 a3 a4 a5 a6 e21.1 e29.1) fun (y41 : Int) =>
 ogrd ((ile 0 y41)) (
 ogrd ((ilt y41 (y16.length : Int))) (
 some y41))
 ) fun (r37 : Int) =>
 oite ((ieq e8.1 ((a6.map e_III).length : Int))) (
 ogrd (Nat.blt r37.toNat e29.2.length) (
 some (e29.2.set r37.toNat (IntKind.i64.wrap (a5 * e21.1))))
 ) (
 obnd (f247 a0 a1 a2 a3 a4 a5 a6 e21.1 e8.1 a7 a8) fun (y47 : Bool) =>
 oite (!y47) (
 some e29.2
 ) (
 oloop (τ := Int × (List Int)) (ρ := (List Int)) (fun e50 =>
 oite ((ilt e50.1 ((a2.map e_SIII).length : Int))) (
 obnd (f242 a0 a1 a2 a3 a4 a5 a6 e21.1 e8.1 e50.1) fun (y54 : Int) =>
 obnd (f243 a0 a1 a2 a3 a4 a5 a6 y54) fun (y56 : Bool) =>
 oite y56 (
 obnd (e50.2[r37.toNat]?) fun (x59 : Int) =>
 ogrd ((ile 0 (IntKind.i64.wrap (e8.1 + (1 : Int))))) (
 ogrd ((ilt (IntKind.i64.wrap (e8.1 + (1 : Int))) ((IntKind.i64.wrap (((a6.map e_III).length : Int) + (1 : Int))).toNat : Int))) (
 ogrd (!(Nat.beq e8.1.toNat (IntKind.i64.wrap (e8.1 + (1 : Int))).toNat)) (
 obnd (e8.2[(IntKind.i64.wrap (e8.1 + (1 : Int))).toNat]?) fun (x64 : (List Int)) =>
 obnd (f239 a0 a1 a2 a3 a4 a5 a6 e8.1 e29.1 e50.1) fun (y67 : Int) =>
 obnd (f234 a0 a1 a2 a3 a4 a5 a6 y54 e50.1) fun (y69 : Int) =>
 ogrd ((ile 0 y69)) (
 obnd (x64[y69.toNat]?) fun (x72 : Int) =>
 ogrd (Nat.blt r37.toNat e50.2.length) (
 some (.inl (((IntKind.i64.wrap (e50.1 + (1 : Int))), (e50.2.set r37.toNat (imax x59 (IntKind.i64.wrap (y67 + x72))))))))))))
 ) (
 some (.inl ((IntKind.i64.wrap (e50.1 + (1 : Int))), e50.2)))
 ) (
 some (.inr (e50.2)))
 ) ((0 : Int), e29.2)))
 ) fun (r33 : (List Int)) =>
 some (.inl ((IntKind.i64.wrap (e29.1 + (1 : Int))), r33))
 ) (
 some (.inr (e29.2)))
 ) ((0 : Int), e21.2)
 ) fun (r25 : (List Int)) =>
 some (.inl ((IntKind.i64.wrap (e21.1 + (1 : Int))), r25))
 ) (
 some (.inr ((y16.length, e21.2))))
 ) (a0, y16))))
 ) fun (r12 : Nat × (List Int)) =>
 ogrd (Nat.beq r12.1 r12.2.length) (
 some (.inl (((IntKind.i64.wrap (e8.1 - (1 : Int))), (e8.2.set e8.1.toNat r12.2)))))
 ) (
 some (.inr ((e8.1, e8.2))))
 ) ((((a6.map e_III).length : Int), (List.replicate (IntKind.i64.wrap (((a6.map e_III).length : Int) + (1 : Int))).toNat ([] : List Int))))
 ) fun (r4 : Int × (List ((List Int)))) =>
 ogrd (Nat.beq (IntKind.i64.wrap (((a6.map e_III).length : Int) + (1 : Int))).toNat r4.2.length) (
 some r4.2))
theorem c229 [LO]  {a0 : Int} {a1 : Int} {a2 : List (ByteArray × Int × Int × Int)} {a3 : Int} {a4 : Int} {a5 : Int} {a6 : List (Int × Int × Int)} {a7 : Int} {a8 : Int} {x : (List ((List Int)))} (H : f229 a0 a1 a2 a3 a4 a5 a6 a7 a8 = some x) : ICalls E 229 [(.agg ⟨[(iV a0), (iV a1), (VS 4 (a2.map e_SIII)), (iV a3), (iV a4), (iV a5), (VS 3 (a6.map e_III))]⟩), (.agg ⟨[(iV a7), (iV a8)]⟩)] AHeap.none fun v _ => v = (VS 1 (x.map e_L1I)) := by
  refine ICalls.frz ?_;refine icalls_fn (pfnw ?_); unfold f229 at H;(conv=>whnf);refine pwa ?_;(conv=>whnf);refine pw_sd ?_;(conv=>whnf);refine ⟨?_, trivial⟩;(conv=>whnf);obtain ⟨y1, h2, H⟩ := obnd_some H;refine (c234 h2).go ?_;(conv=>whnf);refine ⟨by trivial,?_⟩;(conv=>whnf);refine pw_soR ?_;refine po_all ?_;(conv=>whnf);obtain ⟨g3, H⟩ := ogrd_some H;refine mk_n g3 ?_;(conv=>whnf);refine ⟨_, (Recast.nilrow (b := 2) (f := e_L1I) (x := ([] : List Int)) (l2 := [(3, .rw [(.slice (some ⟨2, 0, none⟩) (IntKind.i64.wrap (((a6.map e_III).length : Int) + (1 : Int))).toNat 1)]), (2, .rw ((List.replicate (IntKind.i64.wrap (((a6.map e_III).length : Int) + (1 : Int))).toNat ([] : List Int)).map e_L1I)), (1, .rw [(iV a7), (iV a8)]), (0, .rw [(iV a0), (iV a1), (VS 4 (a2.map e_SIII)), (iV a3), (iV a4), (iV a5), (VS 3 (a6.map e_III))])]) rfl (nl rfl) rfl rfl), ?_⟩
  obtain ⟨r4, h5, H⟩ := obnd_some H;refine pw_join (ρ := Int × (List ((List Int)))) (fun e => ⟨[(7, (pV 3 0))], ⟨6, [(5, .rw [(iV e.1)]), (3, .rw [(.slice (some ⟨2, 0, none⟩) (IntKind.i64.wrap (((a6.map e_III).length : Int) + (1 : Int))).toNat 1)]), (2, .rw (e.2.map e_L1I)), (1, .rw [(iV a7), (iV a8)]), (0, .rw [(iV a0), (iV a1), (VS 4 (a2.map e_SIII)), (iV a3), (iV a4), (iV a5), (VS 3 (a6.map e_III))])], false⟩⟩) r4 ?_ ?_
  · refine R ?_;refine pw_loop (τ := Int × (List ((List Int)))) (fun e => ⟨[(2, (pV 0 0)), (3, (pV 1 0)), (5, (iV ((a6.map e_III).length : Int))), (6, (iV (IntKind.i64.wrap (y1 + (1 : Int))))), (7, (pV 3 0)), (8, (pV 5 0))], ⟨6, [(5, .rw [(iV e.1)]), (3, .rw [(.slice (some ⟨2, 0, none⟩) (IntKind.i64.wrap (((a6.map e_III).length : Int) + (1 : Int))).toNat 1)]), (2, .rw (e.2.map e_L1I)), (1, .rw [(iV a7), (iV a8)]), (0, .rw [(iV a0), (iV a1), (VS 4 (a2.map e_SIII)), (iV a3), (iV a4), (iV a5), (VS 3 (a6.map e_III))])], false⟩⟩) h5 ?_ (fun _ => nl rfl) ?_
    · exact (Recast.mv 4 5 (nl rfl) (nl rfl) (.cons (.mv rfl (nl rfl) rfl rfl (.of (.cons .cl .nil))) (.cons (.rw (nn rfl) (nn rfl) (nl rfl) rfl rfl (.of (.cons (.slice (nn rfl) (nl rfl)) .nil))) (.cons (.rw (nn rfl) (nn rfl) (nl rfl) rfl (oneL_map fun _ => rfl) .cl) (.cons (.rw (nn rfl) (nn rfl) (nl rfl) rfl rfl (.of (.cons .cl (.cons .cl .nil)))) (.cons (.rw (nn rfl) (nn rfl) (nl rfl) rfl rfl (.of (.cons .cl (.cons .cl (.cons .cl (.cons .cl (.cons .cl (.cons .cl (.cons .cl .nil))))))))) .nil))))) (.cons rfl (.ptr (nn rfl) (nl rfl)) (.cons rfl (.ptr (nn rfl) (nl rfl)) (.cons rfl .cl (.cons rfl .cl (.cons rfl (.ptr (nn rfl) (nl rfl)) (.cons rfl (.ptrm (nl rfl)) .nil)))))))
    · intro e8 x9 h10;refine pw_seq ?_;refine R ?_;refine pbr_oite h10 (fun g11 h10 => ?_) (fun g11 h10 => ?_)
      · refine R ?_;obtain ⟨r12, h13, h10⟩ := obnd_some h10;refine pw_join (ρ := Nat × (List Int)) (fun e => ⟨[(2, (pV 0 0)), (3, (pV 1 0)), (5, (iV ((a6.map e_III).length : Int))), (6, (iV (IntKind.i64.wrap (y1 + (1 : Int))))), (7, (pV 3 0)), (8, (pV 5 0))], ⟨8, [(7, .rw (e.2.map eI)), (6, .tail 1 1), (5, .rw [(iV e8.1)]), (3, .rw [(.slice (some ⟨2, 0, none⟩) (IntKind.i64.wrap (((a6.map e_III).length : Int) + (1 : Int))).toNat 1)]), (2, .rw ((e8.2.map e_L1I).set e8.1.toNat (.slice (some ⟨7, 0, none⟩) e.1 1))), (1, .rw [(iV a7), (iV a8)]), (0, .rw [(iV a0), (iV a1), (VS 4 (a2.map e_SIII)), (iV a3), (iV a4), (iV a5), (VS 3 (a6.map e_III))])], false⟩⟩) r12 ?_ ?_
        · refine pw_block ?_;refine pw_sd ?_;(conv=>whnf);refine ⟨?_, trivial⟩;(conv=>whnf);refine ⟨by trivial,?_⟩;(conv=>whnf);refine ⟨?_, trivial⟩;(conv=>whnf);obtain ⟨y16, h17, h13⟩ := obnd_some h13;refine ICalls.goN (f := eI) (c246 h17) (.cons (.vt _ _ _) (.cons (.refl _) .nil)) ?_;(conv=>whnf);refine ⟨by trivial,?_⟩;(conv=>whnf);refine pbr_ogrd h13 (fun g18 h13 => ?_);(conv=>whnf);refine pbr_ogrd h13 (fun g19 h13 => ?_);(conv=>whnf);refine ⟨?_, trivial⟩;(conv=>whnf);obtain ⟨g20, h13⟩ := ogrd_some h13;refine set_h (l := e8.2) (f := e_L1I) g20 rfl ?_
          refine R ?_;refine aR ?_;refine R ?_;refine pw_loop (τ := Int × (List Int)) (fun e => ⟨[(2, (pV 0 0)), (3, (pV 1 0)), (5, (iV ((a6.map e_III).length : Int))), (6, (iV (IntKind.i64.wrap (y1 + (1 : Int))))), (7, (pV 3 0)), (8, (pV 5 0)), (9, (iV e.1))], ⟨8, [(7, .rw (e.2.map eI)), (6, .tail 1 1), (5, .rw [(iV e8.1)]), (3, .rw [(.slice (some ⟨2, 0, none⟩) (IntKind.i64.wrap (((a6.map e_III).length : Int) + (1 : Int))).toNat 1)]), (2, .rw ((e8.2.map e_L1I).set e8.1.toNat (.slice (some ⟨7, 0, none⟩) y16.length 1))), (1, .rw [(iV a7), (iV a8)]), (0, .rw [(iV a0), (iV a1), (VS 4 (a2.map e_SIII)), (iV a3), (iV a4), (iV a5), (VS 3 (a6.map e_III))])], false⟩⟩) h13 ?_ (fun _ => nl rfl) ?_
          · exact sb
          · intro e21 x22 h23;refine pw_seq ?_;refine R ?_;refine pbr_oite h23 (fun g24 h23 => ?_) (fun g24 h23 => ?_)
            · refine R ?_;obtain ⟨r25, h26, h23⟩ := obnd_some h23;refine pw_join (ρ := (List Int)) (fun e => ⟨[(2, (pV 0 0)), (3, (pV 1 0)), (5, (iV ((a6.map e_III).length : Int))), (6, (iV (IntKind.i64.wrap (y1 + (1 : Int))))), (7, (pV 3 0)), (8, (pV 5 0)), (9, (iV e21.1))], ⟨8, [(7, .rw (e.map eI)), (6, .tail 1 1), (5, .rw [(iV e8.1)]), (3, .rw [(.slice (some ⟨2, 0, none⟩) (IntKind.i64.wrap (((a6.map e_III).length : Int) + (1 : Int))).toNat 1)]), (2, .rw ((e8.2.map e_L1I).set e8.1.toNat (.slice (some ⟨7, 0, none⟩) y16.length 1))), (1, .rw [(iV a7), (iV a8)]), (0, .rw [(iV a0), (iV a1), (VS 4 (a2.map e_SIII)), (iV a3), (iV a4), (iV a5), (VS 3 (a6.map e_III))])], false⟩⟩) r25 ?_ ?_
              · refine R ?_;refine pw_loop (τ := Int × (List Int)) (fun e => ⟨[(2, (pV 0 0)), (3, (pV 1 0)), (5, (iV ((a6.map e_III).length : Int))), (6, (iV (IntKind.i64.wrap (y1 + (1 : Int))))), (7, (pV 3 0)), (8, (pV 5 0)), (9, (iV e21.1)), (56, (iV ((a2.map e_SIII).length : Int))), (57, (iV e.1))], ⟨8, [(7, .rw (e.2.map eI)), (6, .tail 1 1), (5, .rw [(iV e8.1)]), (3, .rw [(.slice (some ⟨2, 0, none⟩) (IntKind.i64.wrap (((a6.map e_III).length : Int) + (1 : Int))).toNat 1)]), (2, .rw ((e8.2.map e_L1I).set e8.1.toNat (.slice (some ⟨7, 0, none⟩) y16.length 1))), (1, .rw [(iV a7), (iV a8)]), (0, .rw [(iV a0), (iV a1), (VS 4 (a2.map e_SIII)), (iV a3), (iV a4), (iV a5), (VS 3 (a6.map e_III))])], false⟩⟩) h26 ?_ (fun _ => nl rfl) ?_
                · exact sb
                · intro e29 x30 h31;refine R ?_;refine pw_seq ?_;refine R ?_;refine pbr_oite h31 (fun g32 h31 => ?_) (fun g32 h31 => ?_)
                  · refine R ?_;obtain ⟨r33, h34, h31⟩ := obnd_some h31;refine pw_joinR (ρ := (List Int)) (fun e => ⟨[(2, (pV 0 0)), (3, (pV 1 0)), (5, (iV ((a6.map e_III).length : Int))), (6, (iV (IntKind.i64.wrap (y1 + (1 : Int))))), (7, (pV 3 0)), (8, (pV 5 0)), (9, (iV e21.1)), (56, (iV ((a2.map e_SIII).length : Int))), (57, (iV e29.1))], ⟨8, [(7, .rw (e.map eI)), (6, .tail 1 1), (5, .rw [(iV e8.1)]), (3, .rw [(.slice (some ⟨2, 0, none⟩) (IntKind.i64.wrap (((a6.map e_III).length : Int) + (1 : Int))).toNat 1)]), (2, .rw ((e8.2.map e_L1I).set e8.1.toNat (.slice (some ⟨7, 0, none⟩) y16.length 1))), (1, .rw [(iV a7), (iV a8)]), (0, .rw [(iV a0), (iV a1), (VS 4 (a2.map e_SIII)), (iV a3), (iV a4), (iV a5), (VS 3 (a6.map e_III))])], false⟩⟩) r33 ?_ ?_
                    · refine pw_block ?_;refine pwa ?_;(conv=>whnf);obtain ⟨r37, h38, h34⟩ := obnd_some h34;refine pw_join (ρ := Int) (fun e => ⟨[(2, (pV 0 0)), (3, (pV 1 0)), (5, (iV ((a6.map e_III).length : Int))), (6, (iV (IntKind.i64.wrap (y1 + (1 : Int))))), (7, (pV 3 0)), (8, (pV 5 0)), (9, (iV e21.1)), (10, (pV 8 0)), (11, (pV 9 0)), (56, (iV ((a2.map e_SIII).length : Int))), (57, (iV e29.1))], ⟨10, [(9, .rw [(.pointer (some ⟨7, 0 + e.toNat * 1, none⟩))]), (8, .rw [(iV e29.1)]), (7, .rw (e29.2.map eI)), (6, .tail 1 1), (5, .rw [(iV e8.1)]), (3, .rw [(.slice (some ⟨2, 0, none⟩) (IntKind.i64.wrap (((a6.map e_III).length : Int) + (1 : Int))).toNat 1)]), (2, .rw ((e8.2.map e_L1I).set e8.1.toNat (.slice (some ⟨7, 0, none⟩) y16.length 1))), (1, .rw [(iV a7), (iV a8)]), (0, .rw [(iV a0), (iV a1), (VS 4 (a2.map e_SIII)), (iV a3), (iV a4), (iV a5), (VS 3 (a6.map e_III))])], false⟩⟩) r37 ?_ ?_
                      · refine R ?_;refine nth_h g20 ?_;refine R ?_;refine ⟨?_, ?_⟩
                        · refine R ?_;obtain ⟨y41, h42, h38⟩ := obnd_some h38;refine (c234 h42).go ?_;refine R ?_;refine ⟨by repeat (first | exact trivial | refine And.intro rfl ?_ | refine And.intro (lev_h (l := e8.2) (f := e_L1I) rfl g20) ?_), ?_⟩;refine R ?_;refine pbr_ogrd h38 (fun g43 h38 => ?_);refine R ?_;refine pbr_ogrd h38 (fun g44 h38 => ?_);refine R ?_;refine ⟨by repeat (first | exact trivial | refine And.intro rfl ?_ | refine And.intro (lev_h (l := e8.2) (f := e_L1I) rfl g20) ?_), ?_⟩;refine R ?_;refine ⟨by repeat (first | exact trivial | refine And.intro rfl ?_ | refine And.intro (lev_h (l := e8.2) (f := e_L1I) rfl g20) ?_), ?_⟩
                          refine R ?_;cases h38;exact cr
                        · obtain ⟨y41, h42, h38⟩ := obnd_some h38;obtain ⟨g43, h38⟩ := ogrd_some h38;obtain ⟨g44, h38⟩ := ogrd_some h38;refine R ?_;refine ⟨by repeat (first | exact trivial | refine And.intro rfl ?_ | refine And.intro (lev_h (l := e8.2) (f := e_L1I) rfl g20) ?_), ?_⟩;refine R ?_;refine (c234 h42).go ?_;refine R ?_;refine ⟨by repeat (first | exact trivial | refine And.intro rfl ?_ | refine And.intro (lev_h (l := e8.2) (f := e_L1I) rfl g20) ?_), ?_⟩;refine R ?_
                          refine R ?_;refine ⟨by repeat (first | exact trivial | refine And.intro rfl ?_ | refine And.intro (lev_h (l := e8.2) (f := e_L1I) rfl g20) ?_), ?_⟩;refine R ?_;cases h38;exact cr
                      · refine pw_seq ?_;refine R ?_;refine pbr_oite h34 (fun g45 h34 => ?_) (fun g45 h34 => ?_)
                        · refine R ?_;obtain ⟨g46, h34⟩ := ogrd_some h34;refine set_a (l := e29.2) (f := eI) (x := (IntKind.i64.wrap (a5 * e21.1))) g46 rfl ?_;refine R ?_;cases h34;exact Recast.fz (fun _ => false) (nl rfl) (.cons (.same rfl rfl (OBnd.rwc (nl rfl) (oneL_map fun _ => rfl))) (.cons (.same rfl rfl (OBnd.tail (nl rfl))) (.cons (.same rfl rfl (OBnd.rwl (nl rfl) rfl (.cons .cl .nil))) (.cons (.same rfl rfl (OBnd.rwl (nl rfl) rfl (.cons (.slice (nl rfl)) .nil))) (.cons (.same rfl rfl (OBnd.rwh (nl rfl) (fun _ => rfl) rfl (.slice (nl rfl)))) (.cons (.same rfl rfl (OBnd.rwl (nl rfl) rfl (.cons .cl (.cons .cl .nil)))) (.cons (.same rfl rfl (OBnd.rwl (nl rfl) rfl (.cons .cl (.cons .cl (.cons .cl (.cons .cl (.cons .cl (.cons .cl (.cons .cl .nil))))))))) .nil))))))) (.cons rfl (.same _ (.ptr (nl rfl))) (.cons rfl (.same _ (.ptr (nl rfl))) (.cons rfl (.same _ .cl) (.cons rfl (.same _ .cl) (.cons rfl (.same _ (.ptr (nl rfl))) (.cons rfl (.same _ (.ptr (nl rfl))) (.cons rfl (.same _ .cl) (.cons rfl (.same _ .cl) (.cons rfl (.same _ .cl) .nil)))))))))
                        · refine R ?_;refine pw_seq ?_;refine R ?_;obtain ⟨y47, h48, h34⟩ := obnd_some h34;refine (c247 h48).go ?_;refine R ?_;refine pbr_oite h34 (fun g49 h34 => ?_) (fun g49 h34 => ?_)
                          · refine R ?_;cases h34;exact Recast.fz (fun _ => false) (nl rfl) (.cons (.same rfl rfl (OBnd.rwc (nl rfl) (oneL_map fun _ => rfl))) (.cons (.same rfl rfl (OBnd.tail (nl rfl))) (.cons (.same rfl rfl (OBnd.rwl (nl rfl) rfl (.cons .cl .nil))) (.cons (.same rfl rfl (OBnd.rwl (nl rfl) rfl (.cons (.slice (nl rfl)) .nil))) (.cons (.same rfl rfl (OBnd.rwh (nl rfl) (fun _ => rfl) rfl (.slice (nl rfl)))) (.cons (.same rfl rfl (OBnd.rwl (nl rfl) rfl (.cons .cl (.cons .cl .nil)))) (.cons (.same rfl rfl (OBnd.rwl (nl rfl) rfl (.cons .cl (.cons .cl (.cons .cl (.cons .cl (.cons .cl (.cons .cl (.cons .cl .nil))))))))) .nil))))))) (.cons rfl (.same _ (.ptr (nl rfl))) (.cons rfl (.same _ (.ptr (nl rfl))) (.cons rfl (.same _ .cl) (.cons rfl (.same _ .cl) (.cons rfl (.same _ (.ptr (nl rfl))) (.cons rfl (.same _ (.ptr (nl rfl))) (.cons rfl (.same _ .cl) (.cons rfl (.same _ .cl) (.cons rfl (.same _ .cl) .nil)))))))))
                          · refine R ?_;refine pcalls_in ?_;refine R ?_;refine pw_range [2, 3, 5, 6, 7, 8, 9, 10, 11, 56, 57, 88] ?_;refine R ?_;refine pcallv_in ?_;refine R ?_;refine pw_loop (τ := Int × (List Int)) (fun e => ⟨[(0, (.func (.yield 13) #[] #[])), (1, (pV 10 0)), (2, (pV 11 0)), (3, (pV 12 0)), (10, (iV ((a2.map e_SIII).length : Int))), (11, (iV e.1))], ⟨14, [(13, .loop ⟨.ready, none, [(2, (pV 0 0)), (3, (pV 1 0)), (5, (iV ((a6.map e_III).length : Int))), (6, (iV (IntKind.i64.wrap (y1 + (1 : Int))))), (7, (pV 3 0)), (8, (pV 5 0)), (9, (iV e21.1)), (10, (pV 8 0)), (11, (pV 9 0)), (56, (iV ((a2.map e_SIII).length : Int))), (57, (iV e29.1)), (88, (.func (.func (E.id 251)) ⟨[]⟩ ⟨[(pV 10 0), (pV 11 0), (pV 12 0)]⟩))], 117, #[89, 90], (rng 27 0).1, (rng 27 0).2⟩), (12, .rw [(iV e8.1)]), (11, .rw [(iV e21.1)]), (10, .rw [(iV a0), (iV a1), (VS 4 (a2.map e_SIII)), (iV a3), (iV a4), (iV a5), (VS 3 (a6.map e_III))]), (9, .rw [(.pointer (some ⟨7, 0 + r37.toNat * 1, none⟩))]), (8, .rw [(iV e29.1)]), (7, .rw (e.2.map eI)), (6, .tail 1 1), (5, .rw [(iV e8.1)]), (3, .rw [(.slice (some ⟨2, 0, none⟩) (IntKind.i64.wrap (((a6.map e_III).length : Int) + (1 : Int))).toNat 1)]), (2, .rw ((e8.2.map e_L1I).set e8.1.toNat (.slice (some ⟨7, 0, none⟩) y16.length 1))), (1, .rw [(iV a7), (iV a8)]), (0, .rw [(iV a0), (iV a1), (VS 4 (a2.map e_SIII)), (iV a3), (iV a4), (iV a5), (VS 3 (a6.map e_III))])], false⟩⟩) h34 ?_ (fun _ => nl rfl) ?_
                            · exact sb
                            · intro e50 x51 h52;refine R ?_;refine pw_seq ?_;refine R ?_;refine pbr_oite h52 (fun g53 h52 => ?_) (fun g53 h52 => ?_)
                              · refine R ?_;refine pw_seq ?_;refine R ?_;obtain ⟨y54, h55, h52⟩ := obnd_some h52;refine (c242 h55).go ?_;refine R ?_;obtain ⟨y56, h57, h52⟩ := obnd_some h52;refine (c243 h57).go ?_;refine R ?_;refine pbr_oite h52 (fun g58 h52 => ?_) (fun g58 h52 => ?_)
                                · refine R ?_;refine pcallv_yield ir229a0 ir229b0 rfl rfl ra229_0 rb229_0 ⟨_, _, _, _, rfl⟩ ?_;refine R ?_;refine nth_a (l := e50.2) (f := eI) h52 (fun x59 h60 h52 => ?_);refine R ?_;refine pbr_ogrd h52 (fun g62 h52 => ?_);refine R ?_;refine pbr_ogrd h52 (fun g63 h52 => ?_);refine R ?_;refine nth_n (l := e8.2) (f := e_L1I) h52 (fun x64 g66 h65 h52 => ?_);refine R ?_
                                  refine R ?_;obtain ⟨y67, h68, h52⟩ := obnd_some h52;refine (c239 h68).go ?_;refine R ?_;refine ⟨by repeat (first | exact trivial | refine And.intro rfl ?_ | refine And.intro (lev_a (l := e50.2) (f := eI) rfl h60) ?_ | refine And.intro (lev_n (l := e8.2) (f := e_L1I) rfl g66 h65) ?_), ?_⟩;refine R ?_;obtain ⟨y69, h70, h52⟩ := obnd_some h52;refine (c234 h70).go ?_;refine R ?_;refine ⟨by repeat (first | exact trivial | refine And.intro rfl ?_ | refine And.intro (lev_a (l := e50.2) (f := eI) rfl h60) ?_ | refine And.intro (lev_n (l := e8.2) (f := e_L1I) rfl g66 h65) ?_), ?_⟩
                                  refine R ?_;refine pbr_ogrd h52 (fun g71 h52 => ?_);refine R ?_;refine nth_o (l := x64) h52 (fun x72 _ h52 => ?_);refine R ?_;obtain ⟨g73, h52⟩ := ogrd_some h52;refine set_a (l := e50.2) (f := eI) (x := (imax x59 (IntKind.i64.wrap (y67 + x72)))) g73 rfl ?_;refine R ?_;refine ⟨by repeat (first | exact trivial | refine And.intro rfl ?_ | refine And.intro (lev_a (l := e50.2) (f := eI) rfl h60) ?_ | refine And.intro (lev_n (l := e8.2) (f := e_L1I) rfl g66 h65) ?_), ?_⟩;refine R ?_
                                  refine R ?_;cases h52;refine ⟨_, rfl, ?_⟩;exact sb
                                · refine R ?_;cases h52;refine ⟨_, rfl, ?_⟩;exact sb
                              · refine R ?_;cases h52;refine ⟨_, rfl, ?_⟩;rintro rfl;refine R ?_;exact Recast.fz (fun _ => false) (nl rfl) (.cons (.same rfl rfl (OBnd.rwc (nl rfl) (oneL_map fun _ => rfl))) (.cons (.same rfl rfl (OBnd.tail (nl rfl))) (.cons (.same rfl rfl (OBnd.rwl (nl rfl) rfl (.cons .cl .nil))) (.cons (.same rfl rfl (OBnd.rwl (nl rfl) rfl (.cons (.slice (nl rfl)) .nil))) (.cons (.same rfl rfl (OBnd.rwh (nl rfl) (fun _ => rfl) rfl (.slice (nl rfl)))) (.cons (.same rfl rfl (OBnd.rwl (nl rfl) rfl (.cons .cl (.cons .cl .nil)))) (.cons (.same rfl rfl (OBnd.rwl (nl rfl) rfl (.cons .cl (.cons .cl (.cons .cl (.cons .cl (.cons .cl (.cons .cl (.cons .cl .nil))))))))) .nil))))))) (.cons rfl (.same _ (.ptr (nl rfl))) (.cons rfl (.same _ (.ptr (nl rfl))) (.cons rfl (.same _ .cl) (.cons rfl (.same _ .cl) (.cons rfl (.same _ (.ptr (nl rfl))) (.cons rfl (.same _ (.ptr (nl rfl))) (.cons rfl (.same _ .cl) (.cons rfl (.same _ .cl) (.cons rfl (.same _ .cl) .nil)))))))))
                    · refine R ?_;cases h31;refine ⟨_, rfl, ?_⟩;exact sb
                  · refine R ?_;cases h31;refine ⟨_, rfl, ?_⟩;rintro rfl;refine R ?_;exact cr
              · refine R ?_;cases h23;refine ⟨_, rfl, ?_⟩;exact sb
            · refine R ?_;cases h23;refine ⟨_, rfl, ?_⟩;rintro rfl;refine R ?_;exact cr
        · refine pw_seq ?_;refine R ?_;obtain ⟨g77, h10⟩ := ogrd_some h10;cases h10;refine ⟨_, rfl, ?_⟩;refine Recast.trans (s' := ⟨[(2, (pV 0 0)), (3, (pV 1 0)), (5, (iV ((a6.map e_III).length : Int))), (6, (iV (IntKind.i64.wrap (y1 + (1 : Int))))), (7, (pV 3 0)), (8, (pV 8 0))], ⟨9, [(8, .rw [(iV (IntKind.i64.wrap (e8.1 - (1 : Int))))]), (3, .rw [(.slice (some ⟨2, 0, none⟩) (IntKind.i64.wrap (((a6.map e_III).length : Int) + (1 : Int))).toNat 1)]), (2, .rw ((e8.2.set e8.1.toNat r12.2).map e_L1I)), (1, .rw [(iV a7), (iV a8)]), (0, .rw [(iV a0), (iV a1), (VS 4 (a2.map e_SIII)), (iV a3), (iV a4), (iV a5), (VS 3 (a6.map e_III))])], false⟩⟩) (by exact Recast.fz (fun b => Nat.beq b 7) (nl rfl) (.cons (.same rfl rfl (OBnd.rwl (nl rfl) rfl (.cons .cl .nil))) (.cons (.same rfl rfl (OBnd.rwl (nl rfl) rfl (.cons (.slice (nl rfl)) .nil))) (.cons (.hole rfl (nl rfl) rfl (.slm rfl rfl g77 (fun _ => rfl)) (fun _ => rfl)) (.cons (.same rfl rfl (OBnd.rwl (nl rfl) rfl (.cons .cl (.cons .cl .nil)))) (.cons (.same rfl rfl (OBnd.rwl (nl rfl) rfl (.cons .cl (.cons .cl (.cons .cl (.cons .cl (.cons .cl (.cons .cl (.cons .cl .nil))))))))) .nil))))) (.cons rfl (.same _ (.ptr (nl rfl))) (.cons rfl (.same _ (.ptr (nl rfl))) (.cons rfl (.same _ .cl) (.cons rfl (.same _ .cl) (.cons rfl (.same _ (.ptr (nl rfl))) (.cons rfl (.same _ (.ptr (nl rfl))) .nil))))))) ?_
          exact (Recast.mv 8 5 (nl rfl) (nl rfl) (.cons (.mv rfl (nl rfl) rfl rfl (.of (.cons .cl .nil))) (.cons (.rw (nn rfl) (nn rfl) (nl rfl) rfl rfl (.of (.cons (.slice (nn rfl) (nl rfl)) .nil))) (.cons (.rw (nn rfl) (nn rfl) (nl rfl) rfl (oneL_map fun _ => rfl) .cl) (.cons (.rw (nn rfl) (nn rfl) (nl rfl) rfl rfl (.of (.cons .cl (.cons .cl .nil)))) (.cons (.rw (nn rfl) (nn rfl) (nl rfl) rfl rfl (.of (.cons .cl (.cons .cl (.cons .cl (.cons .cl (.cons .cl (.cons .cl (.cons .cl .nil))))))))) .nil))))) (.cons rfl (.ptr (nn rfl) (nl rfl)) (.cons rfl (.ptr (nn rfl) (nl rfl)) (.cons rfl .cl (.cons rfl .cl (.cons rfl (.ptr (nn rfl) (nl rfl)) (.cons rfl (.ptrm (nl rfl)) .nil)))))))
      · refine R ?_;cases h10;refine ⟨_, rfl, ?_⟩;rintro rfl;refine R ?_;exact cr
  · refine R ?_;obtain ⟨g79, H⟩ := ogrd_some H;cases H;exact ⟨fun b => Nat.beq b 2, .slm rfl rfl g79 (fun _ => rfl)⟩
noncomputable def f233  (a0 : Int) : Option Bool :=
 some (ilt (-50000000000 : Int) a0)
theorem c233  {a0 : Int} {x : Bool} (H : f233 a0 = some x) : ICalls E 233 [(iV a0)] AHeap.none fun v _ => v = (.bool x) := by
 refine icalls_fn (pfnw ?_);unfold f233 at H;refine R ?_;cases H;rfl
noncomputable def f220 [LO]  (a0 : Int) (a1 : Int) (a2 : List (ByteArray × Int × Int × Int)) (a3 : Int) (a4 : Int) (a5 : Int) (a6 : List (Int × Int × Int)) (a7 : Int) (a8 : Int) : Option ((List Int) × Int × Bool) :=
 obnd (f229 a0 a1 a2 a3 a4 a5 a6 a7 a8) fun (y1 : (List ((List Int)))) =>
 obnd (y1[(0 : Int).toNat]?) fun (x3 : (List Int)) =>
 obnd (f234 a0 a1 a2 a3 a4 a5 a6 a3 a4) fun (y4 : Int) =>
 ogrd ((ile 0 y4)) (
 obnd (x3[y4.toNat]?) fun (x7 : Int) =>
 obnd (f233 x7) fun (y8 : Bool) =>
 oite (!y8) (
 some (([] : List Int), (0 : Int), false)
 ) (
 obnd (
 some ()
 ) fun (_ : Unit) =>
 obnd (
 oloop (τ := Int × (List Int) × Int × Int) (ρ := (List Int) × Int × Int) (fun e19 =>
 oite ((ilt e19.1 ((a6.map e_III).length : Int))) (
 obnd (
 obnd (
 ogrd ((ile 0 e19.1)) (
 obnd (y1[e19.1.toNat]?) fun (x32 : (List Int)) =>
 obnd (f234 a0 a1 a2 a3 a4 a5 a6 e19.2.2.1 e19.2.2.2) fun (y33 : Int) =>
 ogrd ((ile 0 y33)) (
 obnd (x32[y33.toNat]?) fun (x36 : Int) =>
 some x36))
 ) fun (r27 : Int) =>
 oloop (τ := Int) (ρ := (List Int) × Int × Int) (fun e38 =>
 oite ((ilt e38 ((a2.map e_SIII).length : Int))) (
 obnd (f242 a0 a1 a2 a3 a4 a5 a6 e19.2.2.1 e19.1 e38) fun (y42 : Int) =>
 obnd (f243 a0 a1 a2 a3 a4 a5 a6 y42) fun (y44 : Bool) =>
 oite y44 (
 ogrd ((ile 0 (IntKind.i64.wrap (e19.1 + (1 : Int))))) (
 obnd (y1[(IntKind.i64.wrap (e19.1 + (1 : Int))).toNat]?) fun (x48 : (List Int)) =>
 obnd (f239 a0 a1 a2 a3 a4 a5 a6 e19.1 e19.2.2.2 e38) fun (y49 : Int) =>
 obnd (f234 a0 a1 a2 a3 a4 a5 a6 y42 e38) fun (y51 : Int) =>
 ogrd ((ile 0 y51)) (
 obnd (x48[y51.toNat]?) fun (x54 : Int) =>
 oite ((ieq (IntKind.i64.wrap (y49 + x54)) r27)) (
 ogrd (fits 8 (e19.2.1.length + ([e38] : List Int).length)) (
 some (.inr (((e19.2.1 ++ ([e38] : List Int)), y42, e38))))
 ) (
 some (.inl (IntKind.i64.wrap (e38 + (1 : Int)))))))
 ) (
 some (.inl (IntKind.i64.wrap (e38 + (1 : Int)))))
 ) (
 some (.inr ((e19.2.1, e19.2.2.1, e19.2.2.2))))
 ) (0 : Int)
 ) fun (r23 : (List Int) × Int × Int) =>
 some (.inl ((IntKind.i64.wrap (e19.1 + (1 : Int))), r23.1, r23.2.1, r23.2.2))
 ) (
 some (.inr ((e19.2.1, e19.2.2.1, e19.2.2.2))))
 ) (((0 : Int), ([] : List Int), a3, a4))
 ) fun (r15 : (List Int) × Int × Int) =>
 some (r15.1, x7, true)))
theorem c220 [LO]  {a0 : Int} {a1 : Int} {a2 : List (ByteArray × Int × Int × Int)} {a3 : Int} {a4 : Int} {a5 : Int} {a6 : List (Int × Int × Int)} {a7 : Int} {a8 : Int} {x : (List Int) × Int × Bool} (H : f220 a0 a1 a2 a3 a4 a5 a6 a7 a8 = some x) : ICalls E 220 [(.agg ⟨[(iV a0), (iV a1), (VS 4 (a2.map e_SIII)), (iV a3), (iV a4), (iV a5), (VS 3 (a6.map e_III))]⟩), (.agg ⟨[(iV a7), (iV a8)]⟩)] AHeap.none fun v _ => v = (.tuple ⟨[(VS 1 (x.1.map eI)), (iV x.2.1), (.bool x.2.2)]⟩) := by
  refine ICalls.frz ?_;refine icalls_fn (pfnw ?_);unfold f220 at H;refine R ?_;obtain ⟨y1, h2, H⟩ := obnd_some H;refine (c229 h2).go ?_;refine R ?_;refine nth_o (l := y1) H (fun x3 _ H => ?_);refine R ?_;obtain ⟨y4, h5, H⟩ := obnd_some H;refine (c234 h5).go ?_;refine R ?_;refine aR ?_;refine R ?_;refine pbr_ogrd H (fun g6 H => ?_);refine R ?_;refine nth_o (l := x3) H (fun x7 _ H => ?_)
  refine R ?_;refine pw_seq ?_;refine R ?_;obtain ⟨y8, h9, H⟩ := obnd_some H;refine (c233 h9).go ?_;refine R ?_;refine pbr_oite H (fun g10 H => ?_) (fun g10 H => ?_)
  · refine R ?_;cases H;show ∃ D, Fz _ D 0 (.tuple ⟨[(.slice none 0 0), (iV 0), (.bool false)]⟩) _;exact ⟨fun _ => false, .tuplel (.cons (.nil _) (.cons .cl (.cons .cl (.nil))))⟩
  · (conv=>whnf);refine pw_skip ?_;(conv=>whnf);refine pwa ?_;(conv=>whnf);obtain ⟨r11, h12, H⟩ := obnd_some H;refine pw_joinR (ρ := Unit) (fun e => ⟨[(2, (pV 0 0)), (7, (pV 2 0)), (8, (iV x7)), (9, (pV 3 0)), (10, (pV 4 0)), (11, (pV 5 0))], ⟨6, [(5, .rw [(iV a4)]), (4, .rw [(iV a3)]), (3, .rw [(.slice none 0 0)]), (2, .rw [(VS 1 (y1.map e_L1I))]), (1, .rw [(iV a7), (iV a8)]), (0, .rw [(iV a0), (iV a1), (VS 4 (a2.map e_SIII)), (iV a3), (iV a4), (iV a5), (VS 3 (a6.map e_III))])], false⟩⟩) r11 ?_ ?_
    · refine R ?_;refine ⟨?_, ?_⟩
      · refine R ?_;refine aR ?_;refine R ?_;refine aR ?_;refine R ?_;refine aR ?_;refine R ?_;refine aR ?_;refine R ?_;cases h12;exact rfz
      · refine R ?_;refine aR ?_;refine R ?_;refine aR ?_;refine R ?_;refine aR ?_;refine R ?_;refine aR ?_;refine R ?_;cases h12;refine Recast.trans (s' := ⟨[(2, (pV 0 0)), (7, (pV 2 0)), (8, (iV x7)), (9, (pV 3 0)), (10, (pV 5 0)), (11, (pV 6 0))], ⟨7, [(5, .rw [(iV a3)]), (6, .rw [(iV a4)]), (3, .rw [(.slice none 0 0)]), (2, .rw [(VS 1 (y1.map e_L1I))]), (1, .rw [(iV a7), (iV a8)]), (0, .rw [(iV a0), (iV a1), (VS 4 (a2.map e_SIII)), (iV a3), (iV a4), (iV a5), (VS 3 (a6.map e_III))])], false⟩⟩) (Recast.mv 4 6 (nl rfl) (nl rfl) (.cons (.rw (nn rfl) (nn rfl) (nl rfl) rfl rfl (.of (.cons .cl .nil))) (.cons (.mv rfl (nl rfl) rfl rfl (.of (.cons .cl .nil))) (.cons (.rw (nn rfl) (nn rfl) (nl rfl) rfl rfl (.of (.cons .cl .nil))) (.cons (.rw (nn rfl) (nn rfl) (nl rfl) rfl rfl (.of (.cons .cl .nil))) (.cons (.rw (nn rfl) (nn rfl) (nl rfl) rfl rfl (.of (.cons .cl (.cons .cl .nil)))) (.cons (.rw (nn rfl) (nn rfl) (nl rfl) rfl rfl (.of (.cons .cl (.cons .cl (.cons .cl (.cons .cl (.cons .cl (.cons .cl (.cons .cl .nil))))))))) .nil)))))) (.cons rfl (.ptr (nn rfl) (nl rfl)) (.cons rfl (.ptr (nn rfl) (nl rfl)) (.cons rfl .cl (.cons rfl (.ptr (nn rfl) (nl rfl)) (.cons rfl (.ptr (nn rfl) (nl rfl)) (.cons rfl (.ptrm (nl rfl)) .nil))))))) ?_
        refine Recast.trans (s' := ⟨[(2, (pV 0 0)), (7, (pV 2 0)), (8, (iV x7)), (9, (pV 3 0)), (10, (pV 7 0)), (11, (pV 6 0))], ⟨8, [(7, .rw [(iV a3)]), (6, .rw [(iV a4)]), (3, .rw [(.slice none 0 0)]), (2, .rw [(VS 1 (y1.map e_L1I))]), (1, .rw [(iV a7), (iV a8)]), (0, .rw [(iV a0), (iV a1), (VS 4 (a2.map e_SIII)), (iV a3), (iV a4), (iV a5), (VS 3 (a6.map e_III))])], false⟩⟩) (Recast.mv 5 7 (nl rfl) (nl rfl) (.cons (.mv rfl (nl rfl) rfl rfl (.of (.cons .cl .nil))) (.cons (.rw (nn rfl) (nn rfl) (nl rfl) rfl rfl (.of (.cons .cl .nil))) (.cons (.rw (nn rfl) (nn rfl) (nl rfl) rfl rfl (.of (.cons .cl .nil))) (.cons (.rw (nn rfl) (nn rfl) (nl rfl) rfl rfl (.of (.cons .cl .nil))) (.cons (.rw (nn rfl) (nn rfl) (nl rfl) rfl rfl (.of (.cons .cl (.cons .cl .nil)))) (.cons (.rw (nn rfl) (nn rfl) (nl rfl) rfl rfl (.of (.cons .cl (.cons .cl (.cons .cl (.cons .cl (.cons .cl (.cons .cl (.cons .cl .nil))))))))) .nil)))))) (.cons rfl (.ptr (nn rfl) (nl rfl)) (.cons rfl (.ptr (nn rfl) (nl rfl)) (.cons rfl .cl (.cons rfl (.ptr (nn rfl) (nl rfl)) (.cons rfl (.ptrm (nl rfl)) (.cons rfl (.ptr (nn rfl) (nl rfl)) .nil))))))) ?_
        refine Recast.trans (s' := ⟨[(2, (pV 0 0)), (7, (pV 2 0)), (8, (iV x7)), (9, (pV 3 0)), (10, (pV 7 0)), (11, (pV 5 0))], ⟨8, [(7, .rw [(iV a3)]), (5, .rw [(iV a4)]), (3, .rw [(.slice none 0 0)]), (2, .rw [(VS 1 (y1.map e_L1I))]), (1, .rw [(iV a7), (iV a8)]), (0, .rw [(iV a0), (iV a1), (VS 4 (a2.map e_SIII)), (iV a3), (iV a4), (iV a5), (VS 3 (a6.map e_III))])], false⟩⟩) (Recast.mv 6 5 (nl rfl) (nl rfl) (.cons (.rw (nn rfl) (nn rfl) (nl rfl) rfl rfl (.of (.cons .cl .nil))) (.cons (.mv rfl (nl rfl) rfl rfl (.of (.cons .cl .nil))) (.cons (.rw (nn rfl) (nn rfl) (nl rfl) rfl rfl (.of (.cons .cl .nil))) (.cons (.rw (nn rfl) (nn rfl) (nl rfl) rfl rfl (.of (.cons .cl .nil))) (.cons (.rw (nn rfl) (nn rfl) (nl rfl) rfl rfl (.of (.cons .cl (.cons .cl .nil)))) (.cons (.rw (nn rfl) (nn rfl) (nl rfl) rfl rfl (.of (.cons .cl (.cons .cl (.cons .cl (.cons .cl (.cons .cl (.cons .cl (.cons .cl .nil))))))))) .nil)))))) (.cons rfl (.ptr (nn rfl) (nl rfl)) (.cons rfl (.ptr (nn rfl) (nl rfl)) (.cons rfl .cl (.cons rfl (.ptr (nn rfl) (nl rfl)) (.cons rfl (.ptr (nn rfl) (nl rfl)) (.cons rfl (.ptrm (nl rfl)) .nil))))))) ?_
        exact (Recast.mv 7 4 (nl rfl) (nl rfl) (.cons (.rw (nn rfl) (nn rfl) (nl rfl) rfl rfl (.of (.cons .cl .nil))) (.cons (.mv rfl (nl rfl) rfl rfl (.of (.cons .cl .nil))) (.cons (.rw (nn rfl) (nn rfl) (nl rfl) rfl rfl (.of (.cons .cl .nil))) (.cons (.rw (nn rfl) (nn rfl) (nl rfl) rfl rfl (.of (.cons .cl .nil))) (.cons (.rw (nn rfl) (nn rfl) (nl rfl) rfl rfl (.of (.cons .cl (.cons .cl .nil)))) (.cons (.rw (nn rfl) (nn rfl) (nl rfl) rfl rfl (.of (.cons .cl (.cons .cl (.cons .cl (.cons .cl (.cons .cl (.cons .cl (.cons .cl .nil))))))))) .nil)))))) (.cons rfl (.ptr (nn rfl) (nl rfl)) (.cons rfl (.ptr (nn rfl) (nl rfl)) (.cons rfl .cl (.cons rfl (.ptr (nn rfl) (nl rfl)) (.cons rfl (.ptrm (nl rfl)) (.cons rfl (.ptr (nn rfl) (nl rfl)) .nil)))))))
    · obtain ⟨r15, h16, H⟩ := obnd_some H;refine pw_join (ρ := (List Int) × Int × Int) (fun e => ⟨[(8, (iV x7)), (9, (pV 3 0))], ⟨7, [(6, .tail (e.1.map eI).length 1), (5, .rw [(iV e.2.2)]), (4, .rw [(iV e.2.1)]), (3, .rw [(VT 1 (e.1.map eI) 6)]), (2, .rw [(VS 1 (y1.map e_L1I))]), (1, .rw [(iV a7), (iV a8)]), (0, .rw [(iV a0), (iV a1), (VS 4 (a2.map e_SIII)), (iV a3), (iV a4), (iV a5), (VS 3 (a6.map e_III))])], false⟩⟩) r15 ?_ ?_
      · refine R ?_;refine pw_loop (τ := Int × (List Int) × Int × Int) (fun e => ⟨[(2, (pV 0 0)), (7, (pV 2 0)), (8, (iV x7)), (9, (pV 3 0)), (10, (pV 4 0)), (11, (pV 5 0)), (44, (iV ((a6.map e_III).length : Int))), (45, (iV e.1))], ⟨7, [(6, .tail (e.2.1.map eI).length 1), (5, .rw [(iV e.2.2.2)]), (4, .rw [(iV e.2.2.1)]), (3, .rw [(VT 1 (e.2.1.map eI) 6)]), (2, .rw [(VS 1 (y1.map e_L1I))]), (1, .rw [(iV a7), (iV a8)]), (0, .rw [(iV a0), (iV a1), (VS 4 (a2.map e_SIII)), (iV a3), (iV a4), (iV a5), (VS 3 (a6.map e_III))])], false⟩⟩) h16 ?_ (fun _ => nl rfl) ?_
        · exact ((Recast.sub' (nl rfl) (.cons rfl (.cons rfl (.cons rfl (.cons rfl (.cons rfl (.cons rfl (.cons rfl (.cons rfl .nil)))))))) : Recast _ _ ⟨[(2, (pV 0 0)), (7, (pV 2 0)), (8, (iV x7)), (9, (pV 3 0)), (10, (pV 4 0)), (11, (pV 5 0)), (44, (iV ((a6.map e_III).length : Int))), (45, (iV 0))], ⟨6, [(5, .rw [(iV a4)]), (4, .rw [(iV a3)]), (3, .rw [(.slice none 0 0)]), (2, .rw [(VS 1 (y1.map e_L1I))]), (1, .rw [(iV a7), (iV a8)]), (0, .rw [(iV a0), (iV a1), (VS 4 (a2.map e_SIII)), (iV a3), (iV a4), (iV a5), (VS 3 (a6.map e_III))])], false⟩⟩).trans (Recast.nilM 1 3 (nl rfl) rfl (nl rfl) rfl (.turn .nil) rfl))
        · intro e19 x20 h21;refine R ?_;refine pw_seq ?_;refine R ?_;refine pbr_oite h21 (fun g22 h21 => ?_) (fun g22 h21 => ?_)
          · refine R ?_;obtain ⟨r23, h24, h21⟩ := obnd_some h21;refine pw_joinR (ρ := (List Int) × Int × Int) (fun e => ⟨[(2, (pV 0 0)), (7, (pV 2 0)), (8, (iV x7)), (9, (pV 3 0)), (10, (pV 4 0)), (11, (pV 5 0)), (44, (iV ((a6.map e_III).length : Int))), (45, (iV e19.1))], ⟨7, [(6, .tail (e.1.map eI).length 1), (5, .rw [(iV e.2.2)]), (4, .rw [(iV e.2.1)]), (3, .rw [(VT 1 (e.1.map eI) 6)]), (2, .rw [(VS 1 (y1.map e_L1I))]), (1, .rw [(iV a7), (iV a8)]), (0, .rw [(iV a0), (iV a1), (VS 4 (a2.map e_SIII)), (iV a3), (iV a4), (iV a5), (VS 3 (a6.map e_III))])], false⟩⟩) r23 ?_ ?_
            · refine pw_block ?_;refine pwa ?_;(conv=>whnf);obtain ⟨r27, h28, h24⟩ := obnd_some h24;refine pw_join (ρ := Int) (fun e => ⟨[(2, (pV 0 0)), (7, (pV 2 0)), (8, (iV x7)), (9, (pV 3 0)), (10, (pV 4 0)), (11, (pV 5 0)), (12, (pV 7 0)), (13, (pV 8 0)), (44, (iV ((a6.map e_III).length : Int))), (45, (iV e19.1))], ⟨9, [(8, .rw [(iV e)]), (7, .rw [(iV e19.1)]), (6, .tail (e19.2.1.map eI).length 1), (5, .rw [(iV e19.2.2.2)]), (4, .rw [(iV e19.2.2.1)]), (3, .rw [(VT 1 (e19.2.1.map eI) 6)]), (2, .rw [(VS 1 (y1.map e_L1I))]), (1, .rw [(iV a7), (iV a8)]), (0, .rw [(iV a0), (iV a1), (VS 4 (a2.map e_SIII)), (iV a3), (iV a4), (iV a5), (VS 3 (a6.map e_III))])], false⟩⟩) r27 ?_ ?_
              · refine R ?_;refine pbr_ogrd h28 (fun g31 h28 => ?_);refine R ?_;refine nth_o (l := y1) h28 (fun x32 _ h28 => ?_);refine R ?_;refine ⟨?_, ?_⟩
                · refine R ?_;obtain ⟨y33, h34, h28⟩ := obnd_some h28;refine (c234 h34).go ?_;refine R ?_;refine aR ?_;refine R ?_;refine pbr_ogrd h28 (fun g35 h28 => ?_);refine R ?_;refine nth_o (l := x32) h28 (fun x36 _ h28 => ?_);refine R ?_;refine aR ?_;refine R ?_;refine aR ?_;refine R ?_;cases h28;exact cr
                · obtain ⟨y33, h34, h28⟩ := obnd_some h28;obtain ⟨g35, h28⟩ := ogrd_some h28;obtain ⟨x36, h37, h28⟩ := obnd_some h28;refine R ?_;refine aR ?_;refine R ?_;refine (c234 h34).go ?_;refine R ?_;refine aR ?_;refine R ?_;refine nth_p (l := x32) h37 ?_;refine R ?_;refine aR ?_;refine R ?_;cases h28
                  exact cr
              · refine R ?_;refine pcalls_in ?_;refine R ?_;refine pw_range [2, 7, 8, 9, 10, 11, 12, 13, 44, 45, 61] ?_;refine R ?_;refine pcallv_in ?_;refine R ?_;refine pw_loop (τ := Int) (fun e => ⟨[(0, (.func (.yield 12) #[] #[])), (1, (pV 9 0)), (2, (pV 10 0)), (3, (pV 11 0)), (10, (iV ((a2.map e_SIII).length : Int))), (11, (iV e))], ⟨13, [(12, .loop ⟨.ready, none, [(2, (pV 0 0)), (7, (pV 2 0)), (8, (iV x7)), (9, (pV 3 0)), (10, (pV 4 0)), (11, (pV 5 0)), (12, (pV 7 0)), (13, (pV 8 0)), (44, (iV ((a6.map e_III).length : Int))), (45, (iV e19.1)), (61, (.func (.func (E.id 251)) ⟨[]⟩ ⟨[(pV 9 0), (pV 10 0), (pV 11 0)]⟩))], 92, #[62, 63], (rng 23 0).1, (rng 23 0).2⟩), (11, .rw [(iV e19.1)]), (10, .rw [(iV e19.2.2.1)]), (9, .rw [(iV a0), (iV a1), (VS 4 (a2.map e_SIII)), (iV a3), (iV a4), (iV a5), (VS 3 (a6.map e_III))]), (8, .rw [(iV r27)]), (7, .rw [(iV e19.1)]), (6, .tail (e19.2.1.map eI).length 1), (5, .rw [(iV e19.2.2.2)]), (4, .rw [(iV e19.2.2.1)]), (3, .rw [(VT 1 (e19.2.1.map eI) 6)]), (2, .rw [(VS 1 (y1.map e_L1I))]), (1, .rw [(iV a7), (iV a8)]), (0, .rw [(iV a0), (iV a1), (VS 4 (a2.map e_SIII)), (iV a3), (iV a4), (iV a5), (VS 3 (a6.map e_III))])], false⟩⟩) h24 ?_ (fun _ => nl rfl) ?_
                · exact sb
                · intro e38 x39 h40;refine R ?_;refine pw_seq ?_;refine R ?_;refine pbr_oite h40 (fun g41 h40 => ?_) (fun g41 h40 => ?_)
                  · refine R ?_;refine pw_seq ?_;refine R ?_;obtain ⟨y42, h43, h40⟩ := obnd_some h40;refine (c242 h43).go ?_;refine R ?_;obtain ⟨y44, h45, h40⟩ := obnd_some h40;refine (c243 h45).go ?_;refine R ?_;refine pbr_oite h40 (fun g46 h40 => ?_) (fun g46 h40 => ?_)
                    · refine R ?_;refine pcallv_yield ir220a0 ir220b0 rfl rfl ra220_0 rb220_0 ⟨_, _, _, _, rfl⟩ ?_;refine R ?_;refine pbr_ogrd h40 (fun g47 h40 => ?_);refine R ?_;refine nth_o (l := y1) h40 (fun x48 _ h40 => ?_);refine R ?_;obtain ⟨y49, h50, h40⟩ := obnd_some h40;refine (c239 h50).go ?_;refine R ?_;refine aR ?_
                      refine R ?_;obtain ⟨y51, h52, h40⟩ := obnd_some h40;refine (c234 h52).go ?_;refine R ?_;refine aR ?_;refine R ?_;refine pbr_ogrd h40 (fun g53 h40 => ?_);refine R ?_;refine nth_o (l := x48) h40 (fun x54 _ h40 => ?_);refine R ?_;refine pbr_oite h40 (fun g55 h40 => ?_) (fun g55 h40 => ?_)
                      · refine R ?_;refine app_o (l := e19.2.1) (m := ([e38] : List Int)) (f := eI) h40 (by rfl) (by rfl) (by rfl) (fun h40 => ?_);refine R ?_;cases h40;refine ⟨_, rfl, ?_⟩;rintro rfl;refine R ?_;exact rfz
                      · refine R ?_;cases h40;refine ⟨_, rfl, ?_⟩;exact sb
                    · refine R ?_;cases h40;refine ⟨_, rfl, ?_⟩;exact sb
                  · refine R ?_;cases h40;refine ⟨_, rfl, ?_⟩;rintro rfl;refine R ?_;exact rfz
            · refine R ?_;cases h21;refine ⟨_, rfl, ?_⟩;exact sb
          · refine R ?_;cases h21;refine ⟨_, rfl, ?_⟩;rintro rfl;refine R ?_;exact cr
      · refine R ?_;cases H;show ∃ D, Fz _ D 0 (.tuple ⟨[(VT 1 _ 6), (iV x7), (.bool true)]⟩) _;exact ⟨fun _ => false, .tuplel (.cons .vtc (.cons .cl (.cons .cl (.nil))))⟩
noncomputable def f206 [LO]  (a0 : Int) (a1 : Int) (a2 : List (ByteArray × Int × Int × Int)) (a3 : Int) (a4 : Int) (a5 : Int) (a6 : List (Int × Int × Int)) : Option ((List Int) × Int × Int) :=
 obnd (f219 a0 a1 a2 a3 a4 a5 a6) fun (y1 : Int × Int × (List (ByteArray × Int × Int × Int)) × Int × Int × Int × (List (Int × Int × Int)) × Int) =>
 oite ((!(ieq y1.2.2.2.2.2.2.2 (0 : Int)))) (
 some (([] : List Int), (0 : Int), y1.2.2.2.2.2.2.2)
 ) (
 obnd (f220 y1.1 y1.2.1 y1.2.2.1 y1.2.2.2.1 y1.2.2.2.2.1 y1.2.2.2.2.2.1 y1.2.2.2.2.2.2.1 (-1 : Int) (0 : Int)) fun (y4 : (List Int) × Int × Bool) =>
 obnd (f214 y4.2.2 (12 : Int)) fun (y6 : Int) =>
 some (y4.1, y4.2.1, y6))
theorem c206 [LO]  {a0 : Int} {a1 : Int} {a2 : List (ByteArray × Int × Int × Int)} {a3 : Int} {a4 : Int} {a5 : Int} {a6 : List (Int × Int × Int)} {x : (List Int) × Int × Int} (H : f206 a0 a1 a2 a3 a4 a5 a6 = some x) : ICalls E 206 [(.agg ⟨[(iV a0), (iV a1), (VS 4 (a2.map e_SIII))]⟩), (.agg ⟨[(iV a3), (iV a4), (iV a5), (VS 3 (a6.map e_III))]⟩)] AHeap.none fun v _ => v = (.tuple ⟨[(VS 1 (x.1.map eI)), (iV x.2.1), (iV x.2.2)]⟩) := by
 refine ICalls.frz ?_;refine icalls_fn (pfnw ?_);unfold f206 at H;refine R ?_;obtain ⟨y1, h2, H⟩ := obnd_some H;refine (c219 h2).go ?_;refine R ?_;refine pw_seq ?_;refine R ?_;refine pbr_oite H (fun g3 H => ?_) (fun g3 H => ?_)
 · refine R ?_;cases H;show ∃ D, Fz _ D 0 (.tuple ⟨[(.slice none 0 0), (iV 0), (iV y1.2.2.2.2.2.2.2)]⟩) _;exact ⟨fun _ => false, .tuplel (.cons (.nil _) (.cons .cl (.cons .cl (.nil))))⟩
 · refine R ?_;obtain ⟨y4, h5, H⟩ := obnd_some H;refine (c220 h5).go ?_;refine R ?_;obtain ⟨y6, h7, H⟩ := obnd_some H;refine (c214 h7).go ?_;refine R ?_;cases H;show ∃ D, Fz _ D 0 (.tuple ⟨[(VS 1 _), (iV y4.2.1), (iV y6)]⟩) _;exact ⟨fun _ => false, .tuplel (.cons .cl (.cons .cl (.cons .cl (.nil))))⟩
noncomputable def f70 [LO] (p0 : Int → Option Bool) (a0 : List Int) : Option Int :=
 obndS (
 oloop (τ := Int) (ρ := (Unit) ⊕ Int) (fun e5 =>
 oite ((ilt e5 ((a0.map eI).length : Int))) (
 ogrd ((ile 0 e5)) (
 obnd (a0[e5.toNat]?) fun (x10 : Int) =>
 obnd (p0 x10) fun (y11 : Bool) =>
 oite y11 (
 some (.inr (.inr (e5)))
 ) (
 some (.inl (IntKind.i64.wrap (e5 + (1 : Int))))))
 ) (
 some (.inr (.inl ())))
 ) (0 : Int)
 ) fun (_ : Unit) =>
 some (-1 : Int)
theorem c70 [LO] {p0 : Int → Option Bool} {a0 : List Int} {g0 : Value} [Cl g0] (hp0 : ∀ y0 y, p0 y0 = some y → ICallV E g0 [(iV y0)] AHeap.none fun v _ => v = (.bool y)) {x : Int} (H : f70 p0 a0 = some x) : ICalls E 70 [(VS 1 (a0.map eI)), g0] AHeap.none fun v _ => v = (iV x) := by
 refine icalls_fn (pfnw ?_);unfold f70 at H;refine R ?_;obtain ⟨r1, h2, h3, h4⟩ := obndS_some H;refine pw_joinS (ρ := Unit) (fun e => ⟨[], ⟨0, [], false⟩⟩) r1 ?_ ?_
 · refine R ?_;refine pw_loop (τ := Int) (fun e => ⟨[(0, (VS 1 (a0.map eI))), (1, g0), (7, (iV ((a0.map eI).length : Int))), (8, (iV e))], ⟨0, [], false⟩⟩) h2 ?_ (fun _ => nl rfl) ?_
   · exact sb
   · intro e5 x6 h7;refine R ?_;refine pw_seq ?_;refine R ?_;refine pbr_oite h7 (fun g8 h7 => ?_) (fun g8 h7 => ?_)
     · refine R ?_;refine pw_seq ?_;refine R ?_;refine pbr_ogrd h7 (fun g9 h7 => ?_);refine R ?_;refine nth_o (l := a0) h7 (fun x10 _ h7 => ?_);refine R ?_;obtain ⟨y11, h12, h7⟩ := obnd_some h7;refine ICallV.go (hp0 _ _ h12) ?_;refine R ?_;refine pbr_oite h7 (fun g13 h7 => ?_) (fun g13 h7 => ?_)
       · refine R ?_;cases h7;refine ⟨_, rfl, ?_⟩;rintro rfl;refine R ?_;obtain rfl := h4 _ rfl;rfl
       · refine R ?_;cases h7;refine ⟨_, rfl, ?_⟩;exact sb
     · refine R ?_;cases h7;refine ⟨_, rfl, ?_⟩;rintro rfl;refine R ?_;exact ⟨_, rfl, cr⟩
 · intro r16 hr;have H := h3 _ hr;refine R ?_;cases H;rfl
noncomputable def f80 [LO] (p0 : Int → Option Bool) (a0 : List Int) : Option Bool :=
 obnd (f70 p0 a0) fun (y1 : Int) =>
 some (ile (0 : Int) y1)
theorem c80 [LO] {p0 : Int → Option Bool} {a0 : List Int} {g0 : Value} [Cl g0] (hp0 : ∀ y0 y, p0 y0 = some y → ICallV E g0 [(iV y0)] AHeap.none fun v _ => v = (.bool y)) {x : Bool} (H : f80 p0 a0 = some x) : ICalls E 80 [(VS 1 (a0.map eI)), g0] AHeap.none fun v _ => v = (.bool x) := by
 refine icalls_fn (pfnw ?_);unfold f80 at H;refine R ?_;obtain ⟨y1, h2, H⟩ := obnd_some H;refine (c70 hp0 h2).go ?_;refine R ?_;cases H;rfl
noncomputable def f222  (_ : Int) (_ : Int) (a2 : List (ByteArray × Int × Int × Int)) (_ : Int) (_ : Int) (_ : Int) (_ : List (Int × Int × Int)) (a7 : Int) : Option Bool :=
 obnd (f216 a7 (0 : Int) ((IntKind.i64.wrap (((a2.map e_SIII).length : Int) - (1 : Int))))) fun (y1 : Bool) =>
 some y1
theorem c222  {a0 : Int} {a1 : Int} {a2 : List (ByteArray × Int × Int × Int)} {a3 : Int} {a4 : Int} {a5 : Int} {a6 : List (Int × Int × Int)} {a7 : Int} {x : Bool} (H : f222 a0 a1 a2 a3 a4 a5 a6 a7 = some x) : ICalls E 222 [(.agg ⟨[(iV a0), (iV a1), (VS 4 (a2.map e_SIII)), (iV a3), (iV a4), (iV a5), (VS 3 (a6.map e_III))]⟩), (iV a7)] AHeap.none fun v _ => v = (.bool x) := by
 refine icalls_fn (pfnw ?_);unfold f222 at H;refine R ?_;obtain ⟨y1, h2, H⟩ := obnd_some H;refine (c216 h2).go ?_;refine R ?_;cases H;rfl
noncomputable def f240  (a0 : Int) (a1 : Int) (a2 : Int) (a3 : List (ByteArray × Int × Int × Int)) (a4 : Int) (a5 : Int) (a6 : Int) (a7 : List (Int × Int × Int)) : Option Bool :=
 obnd (f222 a1 a2 a3 a4 a5 a6 a7 a0) fun (y1 : Bool) =>
 some (!y1)
theorem c240  {a0 : Int} {a1 : Int} {a2 : Int} {a3 : List (ByteArray × Int × Int × Int)} {a4 : Int} {a5 : Int} {a6 : Int} {a7 : List (Int × Int × Int)} {x : Bool} (H : f240 a0 a1 a2 a3 a4 a5 a6 a7 = some x) : ICallV E (.func (.func (E.id 240)) ⟨[]⟩ ⟨[(VP (.agg ⟨[(iV a1), (iV a2), (VS 4 (a3.map e_SIII)), (iV a4), (iV a5), (iV a6), (VS 3 (a7.map e_III))]⟩) 0)]⟩) [(iV a0)] AHeap.none fun v _ => v = (.bool x) := by
 refine icallv_fn (pfnw ?_);unfold f240 at H;refine R ?_;obtain ⟨y1, h2, H⟩ := obnd_some H;refine (c222 h2).go ?_;refine R ?_;cases H;rfl
noncomputable def f241 [LO]  (a0 : Int) (a1 : Int) (a2 : List (ByteArray × Int × Int × Int)) (a3 : Int) (a4 : Int) (a5 : Int) (a6 : List (Int × Int × Int)) (a7 : List Int) : Option ((List Int) × Bool) :=
 obndS (
 oloop (τ := (List Int) × Int) (ρ := ((List Int)) ⊕ ((List Int) × Bool)) (fun e5 =>
 oite ((ilt e5.2 ((a7.map eI).length : Int))) (
 ogrd ((ile 0 e5.2)) (
 obnd (a7[e5.2.toNat]?) fun (x10 : Int) =>
 obnd (e5.1[e5.2.toNat]?) fun (x11 : Int) =>
 obnd (f242 a0 a1 a2 a3 a4 a5 a6 x11 e5.2 x10) fun (y12 : Int) =>
 obnd (f243 a0 a1 a2 a3 a4 a5 a6 y12) fun (y14 : Bool) =>
 oite (!y14) (
 some (.inr (.inr ((([] : List Int), false))))
 ) (
 ogrd (fits 8 (e5.1.length + ([y12] : List Int).length)) (
 some (.inl (((e5.1 ++ ([y12] : List Int)), (IntKind.i64.wrap (e5.2 + (1 : Int)))))))))
 ) (
 some (.inr (.inl e5.1)))
 ) ((([a3] : List Int), (0 : Int)))
 ) fun (r19 : (List Int)) =>
 some (r19, true)
theorem c241 [LO]  {a0 : Int} {a1 : Int} {a2 : List (ByteArray × Int × Int × Int)} {a3 : Int} {a4 : Int} {a5 : Int} {a6 : List (Int × Int × Int)} {a7 : List Int} {x : (List Int) × Bool} (H : f241 a0 a1 a2 a3 a4 a5 a6 a7 = some x) : ICalls E 241 [(.agg ⟨[(iV a0), (iV a1), (VS 4 (a2.map e_SIII)), (iV a3), (iV a4), (iV a5), (VS 3 (a6.map e_III))]⟩), (VS 1 (a7.map eI))] AHeap.none fun v _ => v = (.tuple ⟨[(VS 1 (x.1.map eI)), (.bool x.2)]⟩) := by
 refine ICalls.frz ?_;refine icalls_fn (pfnw ?_);unfold f241 at H;refine R ?_;obtain ⟨r1, h2, h3, h4⟩ := obndS_some H;refine pw_joinS (ρ := (List Int)) (fun e => ⟨[(6, (VT 1 (e.map eI) 1))], ⟨2, [(1, .tail (e.map eI).length 1), (0, .rw [(iV a0), (iV a1), (VS 4 (a2.map e_SIII)), (iV a3), (iV a4), (iV a5), (VS 3 (a6.map e_III))])], false⟩⟩) r1 ?_ ?_
 · refine R ?_;refine pw_loop (τ := (List Int) × Int) (fun e => ⟨[(2, (pV 0 0)), (6, (VT 1 (e.1.map eI) 1)), (14, (VS 1 (a7.map eI))), (15, (iV ((a7.map eI).length : Int))), (16, (iV e.2))], ⟨2, [(1, .tail (e.1.map eI).length 1), (0, .rw [(iV a0), (iV a1), (VS 4 (a2.map e_SIII)), (iV a3), (iV a4), (iV a5), (VS 3 (a6.map e_III))])], false⟩⟩) h2 ?_ (fun _ => nl rfl) ?_
   · exact sb
   · intro e5 x6 h7;refine R ?_;refine pw_seq ?_;refine R ?_;refine pbr_oite h7 (fun g8 h7 => ?_) (fun g8 h7 => ?_)
     · refine R ?_;refine pw_seq ?_;refine R ?_;refine pbr_ogrd h7 (fun g9 h7 => ?_);refine R ?_;refine nth_o (l := a7) h7 (fun x10 _ h7 => ?_);refine R ?_;refine nth_o (l := e5.1) h7 (fun x11 _ h7 => ?_);refine R ?_;obtain ⟨y12, h13, h7⟩ := obnd_some h7;refine (c242 h13).go ?_;refine R ?_;refine aR ?_;refine R ?_;refine pw_seq ?_;refine R ?_
       obtain ⟨y14, h15, h7⟩ := obnd_some h7;refine (c243 h15).go ?_;refine R ?_;refine pbr_oite h7 (fun g16 h7 => ?_) (fun g16 h7 => ?_)
       · refine R ?_;cases h7;refine ⟨_, rfl, ?_⟩;rintro rfl;refine R ?_;obtain rfl := h4 _ rfl;show ∃ D, Fz _ D 0 (.tuple ⟨[(.slice none 0 0), (.bool false)]⟩) _;exact ⟨fun _ => false, .tuplel (.cons (.nil _) (.cons .cl (.nil)))⟩
       · refine R ?_;refine app_o (l := e5.1) (m := ([y12] : List Int)) (f := eI) h7 (by rfl) (by rfl) (by rfl) (fun h7 => ?_);refine R ?_;cases h7;refine ⟨_, rfl, ?_⟩;refine Recast.trunc (nl rfl) ?_ ?_
         · repeat (first | exact .nil | refine .cons rfl (by first | exact OBnd.rwc (nl rfl) rfl | exact OBnd.tail (nl rfl) | trivial) ?_)
         · repeat (first | exact .nil | refine .cons rfl (by first | exact Bnd.ptr (nl rfl) | exact Bnd.vt (nl rfl) | exact Bnd.cl) ?_)
     · refine R ?_;cases h7;refine ⟨_, rfl, ?_⟩;rintro rfl;refine R ?_;exact ⟨_, rfl, cr⟩
 · intro r19 hr;have H := h3 _ hr;refine R ?_;cases H;show ∃ D, Fz _ D 0 (.tuple ⟨[(VT 1 _ 1), (.bool true)]⟩) _;exact ⟨fun _ => false, .tuplel (.cons .vtc (.cons .cl (.nil)))⟩
noncomputable def f221 [LO]  (a0 : Int) (a1 : Int) (a2 : List (ByteArray × Int × Int × Int)) (a3 : Int) (a4 : Int) (a5 : Int) (a6 : List (Int × Int × Int)) (a7 : List Int) : Option (Int × Int × (List (ByteArray × Int × Int × Int)) × Int × Int × Int × (List (Int × Int × Int)) × (List Int) × Int) :=
 obnd (f219 a0 a1 a2 a3 a4 a5 a6) fun (y1 : Int × Int × (List (ByteArray × Int × Int × Int)) × Int × Int × Int × (List (Int × Int × Int)) × Int) =>
 obnd (f80 (fun (z0 : Int) => f240 z0 y1.1 y1.2.1 y1.2.2.1 y1.2.2.2.1 y1.2.2.2.2.1 y1.2.2.2.2.2.1 y1.2.2.2.2.2.2.1) a7) fun (y3 : Bool) =>
 obnd (f214 ((ieq ((a7.map eI).length : Int) ((a6.map e_III).length : Int))) (10 : Int)) fun (y5 : Int) =>
 obnd (f214 (!y3) (6 : Int)) fun (y7 : Int) =>
 obnd (f213 ([y1.2.2.2.2.2.2.2, y5, y7] : List Int)) fun (y9 : Int) =>
 oite ((!(ieq y9 (0 : Int)))) (
 some (y1.1, y1.2.1, y1.2.2.1, y1.2.2.2.1, y1.2.2.2.2.1, y1.2.2.2.2.2.1, y1.2.2.2.2.2.2.1, ([] : List Int), y9)
 ) (
 obnd (f241 y1.1 y1.2.1 y1.2.2.1 y1.2.2.2.1 y1.2.2.2.2.1 y1.2.2.2.2.2.1 y1.2.2.2.2.2.2.1 a7) fun (y12 : (List Int) × Bool) =>
 obnd (f214 y12.2 (22 : Int)) fun (y14 : Int) =>
 some (y1.1, y1.2.1, y1.2.2.1, y1.2.2.2.1, y1.2.2.2.2.1, y1.2.2.2.2.2.1, y1.2.2.2.2.2.2.1, y12.1, y14))
theorem c221 [LO]  {a0 : Int} {a1 : Int} {a2 : List (ByteArray × Int × Int × Int)} {a3 : Int} {a4 : Int} {a5 : Int} {a6 : List (Int × Int × Int)} {a7 : List Int} {x : Int × Int × (List (ByteArray × Int × Int × Int)) × Int × Int × Int × (List (Int × Int × Int)) × (List Int) × Int} (H : f221 a0 a1 a2 a3 a4 a5 a6 a7 = some x) : ICalls E 221 [(.agg ⟨[(iV a0), (iV a1), (VS 4 (a2.map e_SIII))]⟩), (.agg ⟨[(iV a3), (iV a4), (iV a5), (VS 3 (a6.map e_III))]⟩), (VS 1 (a7.map eI))] AHeap.none fun v _ => v = (.tuple ⟨[(.agg ⟨[(iV x.1), (iV x.2.1), (VS 4 (x.2.2.1.map e_SIII)), (iV x.2.2.2.1), (iV x.2.2.2.2.1), (iV x.2.2.2.2.2.1), (VS 3 (x.2.2.2.2.2.2.1.map e_III))]⟩), (VS 1 (x.2.2.2.2.2.2.2.1.map eI)), (iV x.2.2.2.2.2.2.2.2)]⟩) := by
 refine ICalls.frz ?_;refine icalls_fn (pfnw ?_);unfold f221 at H;refine R ?_;obtain ⟨y1, h2, H⟩ := obnd_some H;refine (c219 h2).go ?_;refine R ?_;obtain ⟨y3, h4, H⟩ := obnd_some H;refine ICalls.goD (c80 (fun _ _ h => (c240 h)) h4) (.cons .cl (.cons (.func .nil (.cons (.ptr rfl (by intro v hv; simp only [List.mem_cons, List.not_mem_nil, or_false] at hv; rcases hv with rfl | rfl | rfl | rfl | rfl | rfl | rfl <;> rfl)) .nil)) .nil)) rfl ?_;refine R ?_;refine pw_seq ?_
 refine R ?_;obtain ⟨y5, h6, H⟩ := obnd_some H;refine (c214 h6).go ?_;refine R ?_;obtain ⟨y7, h8, H⟩ := obnd_some H;refine (c214 h8).go ?_;refine R ?_;obtain ⟨y9, h10, H⟩ := obnd_some H;refine ICalls.goW (c213 h10) (.cons (.vt _ _ _) .nil) ?_;refine R ?_;refine pbr_oite H (fun g11 H => ?_) (fun g11 H => ?_)
 · refine R ?_;cases H;show ∃ D, Fz _ D 0 (.tuple ⟨[(.agg ⟨[(iV y1.1), (iV y1.2.1), (VS 4 _), (iV y1.2.2.2.1), (iV y1.2.2.2.2.1), (iV y1.2.2.2.2.2.1), (VS 3 _)]⟩), (.slice none 0 0), (iV y9)]⟩) _;exact ⟨fun _ => false, .tuplel (.cons .cl (.cons (.nil _) (.cons .cl (.nil))))⟩
 · refine R ?_;obtain ⟨y12, h13, H⟩ := obnd_some H;refine (c241 h13).go ?_;refine R ?_;obtain ⟨y14, h15, H⟩ := obnd_some H;refine (c214 h15).go ?_;refine R ?_;refine aR ?_;refine R ?_;refine aR ?_;refine R ?_;cases H;show ∃ D, Fz _ D 0 (.tuple ⟨[(.agg ⟨[(iV y1.1), (iV y1.2.1), (VS 4 _), (iV y1.2.2.2.1), (iV y1.2.2.2.2.1), (iV y1.2.2.2.2.2.1), (VS 3 _)]⟩), (VS 1 _), (iV y14)]⟩) _
   exact ⟨fun _ => false, .tuplel (.cons .cl (.cons .cl (.cons .cl (.nil))))⟩
noncomputable def f209 [LO]  (a0 : Int) (a1 : Int) (a2 : List (ByteArray × Int × Int × Int)) (a3 : Int) (a4 : Int) (a5 : Int) (a6 : List (Int × Int × Int)) (a7 : List Int) (a8 : Int) : Option ((List Int) × Int) :=
 obnd (f221 a0 a1 a2 a3 a4 a5 a6 a7) fun (y1 : Int × Int × (List (ByteArray × Int × Int × Int)) × Int × Int × Int × (List (Int × Int × Int)) × (List Int) × Int) =>
 obnd (f222 y1.1 y1.2.1 y1.2.2.1 y1.2.2.2.1 y1.2.2.2.2.1 y1.2.2.2.2.2.1 y1.2.2.2.2.2.2.1 a8) fun (y3 : Bool) =>
 obnd (f214 y3 (6 : Int)) fun (y5 : Int) =>
 obnd (f213 ([y1.2.2.2.2.2.2.2.2, y5] : List Int)) fun (y7 : Int) =>
 oite ((!(ieq y7 (0 : Int)))) (
 some (([] : List Int), y7)
 ) (
 obnd (
 oloop (τ := (List Int) × Int) (ρ := (List Int)) (fun e14 =>
 oite ((ilt e14.2 ((a6.map e_III).length : Int))) (
 ogrd ((ile 0 e14.2)) (
 obnd (y1.2.2.2.2.2.2.2.1[e14.2.toNat]?) fun (x19 : Int) =>
 obnd (f223 y1.1 y1.2.1 y1.2.2.1 y1.2.2.2.1 y1.2.2.2.2.1 y1.2.2.2.2.2.1 y1.2.2.2.2.2.2.1 x19 e14.2 a8) fun (y20 : Int) =>
 ogrd (fits 8 (e14.1.length + ([y20] : List Int).length)) (
 some (.inl (((e14.1 ++ ([y20] : List Int)), (IntKind.i64.wrap (e14.2 + (1 : Int))))))))
 ) (
 some (.inr (e14.1)))
 ) ((([] : List Int), (0 : Int)))
 ) fun (r10 : (List Int)) =>
 some (r10, (0 : Int)))
theorem c209 [LO]  {a0 : Int} {a1 : Int} {a2 : List (ByteArray × Int × Int × Int)} {a3 : Int} {a4 : Int} {a5 : Int} {a6 : List (Int × Int × Int)} {a7 : List Int} {a8 : Int} {x : (List Int) × Int} (H : f209 a0 a1 a2 a3 a4 a5 a6 a7 a8 = some x) : ICalls E 209 [(.agg ⟨[(iV a0), (iV a1), (VS 4 (a2.map e_SIII))]⟩), (.agg ⟨[(iV a3), (iV a4), (iV a5), (VS 3 (a6.map e_III))]⟩), (.agg ⟨[(VS 1 (a7.map eI)), (iV a8)]⟩)] AHeap.none fun v _ => v = (.tuple ⟨[(VS 1 (x.1.map eI)), (iV x.2)]⟩) := by
 refine ICalls.frz ?_;refine icalls_fn (pfnw ?_);unfold f209 at H;refine R ?_;obtain ⟨y1, h2, H⟩ := obnd_some H;refine (c221 h2).go ?_;refine R ?_;refine pw_seq ?_;refine R ?_;obtain ⟨y3, h4, H⟩ := obnd_some H;refine (c222 h4).go ?_;refine R ?_;obtain ⟨y5, h6, H⟩ := obnd_some H;refine (c214 h6).go ?_;refine R ?_;obtain ⟨y7, h8, H⟩ := obnd_some H;refine ICalls.goW (c213 h8) (.cons (.vt _ _ _) .nil) ?_;refine R ?_
 refine pbr_oite H (fun g9 H => ?_) (fun g9 H => ?_)
 · refine R ?_;cases H;show ∃ D, Fz _ D 0 (.tuple ⟨[(.slice none 0 0), (iV y7)]⟩) _;exact ⟨fun _ => false, .tuplel (.cons (.nil _) (.cons .cl (.nil)))⟩
 · refine R ?_;obtain ⟨r10, h11, H⟩ := obnd_some H;refine pw_join (ρ := (List Int)) (fun e => ⟨[(11, (VT 1 (e.map eI) 5))], ⟨6, [(5, .tail (e.map eI).length 1), (4, .tail 2 1), (3, .rw [(iV y1.1), (iV y1.2.1), (VS 4 (y1.2.2.1.map e_SIII)), (iV y1.2.2.2.1), (iV y1.2.2.2.2.1), (iV y1.2.2.2.2.2.1), (VS 3 (y1.2.2.2.2.2.2.1.map e_III))]), (2, .rw [(VS 1 (a7.map eI)), (iV a8)]), (1, .rw [(iV a3), (iV a4), (iV a5), (VS 3 (a6.map e_III))]), (0, .rw [(iV a0), (iV a1), (VS 4 (a2.map e_SIII))])], false⟩⟩) r10 ?_ ?_
   · refine R ?_;refine pw_loop (τ := (List Int) × Int) (fun e => ⟨[(5, (pV 2 0)), (8, (pV 3 0)), (9, (VS 1 (y1.2.2.2.2.2.2.2.1.map eI))), (11, (VT 1 (e.1.map eI) 5)), (35, (iV ((a6.map e_III).length : Int))), (36, (iV e.2))], ⟨6, [(5, .tail (e.1.map eI).length 1), (4, .tail 2 1), (3, .rw [(iV y1.1), (iV y1.2.1), (VS 4 (y1.2.2.1.map e_SIII)), (iV y1.2.2.2.1), (iV y1.2.2.2.2.1), (iV y1.2.2.2.2.2.1), (VS 3 (y1.2.2.2.2.2.2.1.map e_III))]), (2, .rw [(VS 1 (a7.map eI)), (iV a8)]), (1, .rw [(iV a3), (iV a4), (iV a5), (VS 3 (a6.map e_III))]), (0, .rw [(iV a0), (iV a1), (VS 4 (a2.map e_SIII))])], false⟩⟩) h11 ?_ (fun _ => nl rfl) ?_
     · exact (Recast.nilTs 1 (nl rfl) (.same rfl (.same rfl (.same rfl (.turn rfl (.same rfl (.same rfl .nil)))))))
     · intro e14 x15 h16;refine R ?_;refine pw_seq ?_;refine R ?_;refine pbr_oite h16 (fun g17 h16 => ?_) (fun g17 h16 => ?_)
       · refine R ?_;refine pw_seq ?_;refine R ?_;refine pbr_ogrd h16 (fun g18 h16 => ?_);refine R ?_;refine nth_o (l := y1.2.2.2.2.2.2.2.1) h16 (fun x19 _ h16 => ?_);refine R ?_;obtain ⟨y20, h21, h16⟩ := obnd_some h16;refine (c223 h21).go ?_;refine R ?_;refine aR ?_;refine R ?_;refine aR ?_;refine R ?_
         refine R ?_;refine app_o (l := e14.1) (m := ([y20] : List Int)) (f := eI) h16 (by rfl) (by rfl) (by rfl) (fun h16 => ?_);refine R ?_;refine aR ?_;refine R ?_;refine aR ?_;refine R ?_;cases h16;refine ⟨_, rfl, ?_⟩;refine Recast.trunc (nl rfl) ?_ ?_
         · repeat (first | exact .nil | refine .cons rfl (by first | exact OBnd.rwc (nl rfl) rfl | exact OBnd.tail (nl rfl) | trivial) ?_)
         · repeat (first | exact .nil | refine .cons rfl (by first | exact Bnd.ptr (nl rfl) | exact Bnd.vt (nl rfl) | exact Bnd.cl) ?_)
       · refine R ?_;cases h16;refine ⟨_, rfl, ?_⟩;rintro rfl;refine R ?_;exact cr
   · refine R ?_;cases H;show ∃ D, Fz _ D 0 (.tuple ⟨[(VT 1 _ 5), (iV 0)]⟩) _;exact ⟨fun _ => false, .tuplel (.cons .vtc (.cons .cl (.nil)))⟩
noncomputable def f215  (a0 : Int) : Option Bool :=
 obnd (f235 a0 (1000000 : Int)) fun (y1 : Bool) =>
 some y1
theorem c215  {a0 : Int} {x : Bool} (H : f215 a0 = some x) : ICalls E 215 [(iV a0)] AHeap.none fun v _ => v = (.bool x) := by
 refine icalls_fn (pfnw ?_);unfold f215 at H;refine R ?_;obtain ⟨y1, h2, H⟩ := obnd_some H;refine (c235 h2).go ?_;refine R ?_;cases H;rfl
noncomputable def f236  (a0 : Int) : Option Bool :=
 obnd (f215 a0) fun (y1 : Bool) =>
 some (!y1)
theorem c236  {a0 : Int} {x : Bool} (H : f236 a0 = some x) : ICalls E 236 [(iV a0)] AHeap.none fun v _ => v = (.bool x) := by
 refine icalls_fn (pfnw ?_);unfold f236 at H;refine R ?_;obtain ⟨y1, h2, H⟩ := obnd_some H;refine (c215 h2).go ?_;refine R ?_;cases H;rfl
noncomputable def f217 [LO]  (a0 : List Int) : Option Int :=
 obnd (f80 (fun (z0 : Int) => f236 z0) a0) fun (y1 : Bool) =>
 obnd (f214 ((ile ((a0.map eI).length : Int) (300 : Int))) (8 : Int)) fun (y3 : Int) =>
 obnd (f214 (!y1) (2 : Int)) fun (y5 : Int) =>
 obnd (f213 ([y3, y5] : List Int)) fun (y7 : Int) =>
 some y7
theorem c217 [LO]  {a0 : List Int} {x : Int} (H : f217 a0 = some x) : ICalls E 217 [(VS 1 (a0.map eI))] AHeap.none fun v _ => v = (iV x) := by
 refine icalls_fn (pfnw ?_);unfold f217 at H;refine R ?_;obtain ⟨y1, h2, H⟩ := obnd_some H;refine (c80 (fun _ _ h => (c236 h).asV) h2).go ?_;refine R ?_;obtain ⟨y3, h4, H⟩ := obnd_some H;refine (c214 h4).go ?_;refine R ?_;obtain ⟨y5, h6, H⟩ := obnd_some H;refine (c214 h6).go ?_;refine R ?_;obtain ⟨y7, h8, H⟩ := obnd_some H;refine ICalls.goW (c213 h8) (.cons (.vt _ _ _) .nil) ?_;refine R ?_;cases H;rfl
noncomputable def f218  (a0 : Int) : Option Int :=
 some (imax a0 (IntKind.i64.wrap (0 - a0)))
theorem c218  {a0 : Int} {x : Int} (H : f218 a0 = some x) : ICalls E 218 [(iV a0)] AHeap.none fun v _ => v = (iV x) := by
 refine icalls_fn (pfnw ?_);unfold f218 at H;refine R ?_;cases H;rfl
noncomputable def f201 [LO]  (a0 : List Int) (a1 : List Int) : Option (Int × Int × Int × Int) :=
 obnd (f217 a0) fun (y1 : Int) =>
 obnd (f217 a1) fun (y3 : Int) =>
 obnd (f214 ((ieq ((a0.map eI).length : Int) ((a1.map eI).length : Int))) (10 : Int)) fun (y5 : Int) =>
 obnd (f213 ([y1, y3, y5] : List Int)) fun (y7 : Int) =>
 oite ((!(ieq y7 (0 : Int)))) (
 some ((0 : Int), (0 : Int), (0 : Int), y7)
 ) (
 obnd (
 oloop (τ := Int × Int × Int × Int) (ρ := Int × Int × Int) (fun e14 =>
 oite ((ilt e14.1 ((a0.map eI).length : Int))) (
 ogrd ((ile 0 e14.1)) (
 obnd (a0[e14.1.toNat]?) fun (x19 : Int) =>
 obnd (a1[e14.1.toNat]?) fun (x20 : Int) =>
 obnd (
 obnd (
 obnd (
 oite ((ilt (0 : Int) x19)) (
 some (ilt (0 : Int) x20)
 ) (
 some false)
 ) fun (r29 : Bool) =>
 oite r29 (
 some true
 ) (
 obnd (
 oite ((ilt x19 (0 : Int))) (
 some (ilt x20 (0 : Int))
 ) (
 some false)
 ) fun (r33 : Bool) =>
 some r33)
 ) fun (r25 : Bool) =>
 oite r25 (
 obnd (f218 x19) fun (y37 : Int) =>
 obnd (f218 x20) fun (y39 : Int) =>
 some (imin y37 y39)
 ) (
 some (0 : Int))
 ) fun (r21 : Int) =>
 obnd (f218 x19) fun (y41 : Int) =>
 obnd (f218 x20) fun (y43 : Int) =>
 some (.inl (((IntKind.i64.wrap (e14.1 + (1 : Int))), (IntKind.i64.wrap (e14.2.1 + r21)), (IntKind.i64.wrap (e14.2.2.1 + (IntKind.i64.wrap (y41 - r21)))), (IntKind.i64.wrap (e14.2.2.2 + (IntKind.i64.wrap (y43 - r21))))))))
 ) (
 some (.inr ((e14.2.1, e14.2.2.1, e14.2.2.2))))
 ) (((0 : Int), (0 : Int), (0 : Int), (0 : Int)))
 ) fun (r10 : Int × Int × Int) =>
 some (r10.1, r10.2.1, r10.2.2, (0 : Int)))
theorem c201 [LO]  {a0 : List Int} {a1 : List Int} {x : Int × Int × Int × Int} (H : f201 a0 a1 = some x) : ICalls E 201 [(VS 1 (a0.map eI)), (VS 1 (a1.map eI))] AHeap.none fun v _ => v = (.tuple ⟨[(.agg ⟨[(iV x.1), (iV x.2.1), (iV x.2.2.1)]⟩), (iV x.2.2.2)]⟩) := by
  refine icalls_fn (pfnw ?_);unfold f201 at H;refine R ?_;refine pw_seq ?_;refine R ?_;obtain ⟨y1, h2, H⟩ := obnd_some H;refine (c217 h2).go ?_;refine R ?_;obtain ⟨y3, h4, H⟩ := obnd_some H;refine (c217 h4).go ?_;refine R ?_;obtain ⟨y5, h6, H⟩ := obnd_some H;refine (c214 h6).go ?_;refine R ?_;obtain ⟨y7, h8, H⟩ := obnd_some H;refine ICalls.goW (c213 h8) (.cons (.vt _ _ _) .nil) ?_;refine R ?_;refine pbr_oite H (fun g9 H => ?_) (fun g9 H => ?_)
  · refine R ?_;cases H;rfl
  · refine R ?_;obtain ⟨r10, h11, H⟩ := obnd_some H;refine pw_join (ρ := Int × Int × Int) (fun e => ⟨[(4, (pV 0 0)), (7, (pV 2 0))], ⟨3, [(2, .rw [(iV e.1), (iV e.2.1), (iV e.2.2)]), (1, .tail 3 1), (0, .rw [(iV 0), (iV 0), (iV 0)])], false⟩⟩) r10 ?_ ?_
    · refine R ?_;refine pw_loop (τ := Int × Int × Int × Int) (fun e => ⟨[(1, (VS 1 (a1.map eI))), (4, (pV 0 0)), (7, (pV 2 0)), (28, (VS 1 (a0.map eI))), (29, (iV ((a0.map eI).length : Int))), (30, (iV e.1))], ⟨3, [(2, .rw [(iV e.2.1), (iV e.2.2.1), (iV e.2.2.2)]), (1, .tail 3 1), (0, .rw [(iV 0), (iV 0), (iV 0)])], false⟩⟩) h11 ?_ (fun _ => nl rfl) ?_
      · exact sb
      · intro e14 x15 h16;refine R ?_;refine pw_seq ?_;refine R ?_;refine pbr_oite h16 (fun g17 h16 => ?_) (fun g17 h16 => ?_)
        · refine R ?_;refine pw_seq ?_;refine R ?_;refine pbr_ogrd h16 (fun g18 h16 => ?_);refine R ?_;refine nth_o (l := a0) h16 (fun x19 _ h16 => ?_);refine R ?_;refine nth_o (l := a1) h16 (fun x20 _ h16 => ?_);refine R ?_;obtain ⟨r21, h22, h16⟩ := obnd_some h16;refine pw_join (ρ := Int) (fun e => ⟨[(1, (VS 1 (a1.map eI))), (4, (pV 0 0)), (7, (pV 2 0)), (9, (iV x19)), (10, (iV x20)), (11, (iV e)), (28, (VS 1 (a0.map eI))), (29, (iV ((a0.map eI).length : Int))), (30, (iV e14.1))], ⟨3, [(2, .rw [(iV e14.2.1), (iV e14.2.2.1), (iV e14.2.2.2)]), (1, .tail 3 1), (0, .rw [(iV 0), (iV 0), (iV 0)])], false⟩⟩) r21 ?_ ?_
          · obtain ⟨r25, h26, h22⟩ := obnd_some h22;refine pw_join (ρ := Bool) (fun e => ⟨[(1, (VS 1 (a1.map eI))), (4, (pV 0 0)), (7, (pV 2 0)), (9, (iV x19)), (10, (iV x20)), (11, (iV 0)), (28, (VS 1 (a0.map eI))), (29, (iV ((a0.map eI).length : Int))), (30, (iV e14.1)), (52, (.bool e))], ⟨3, [(2, .rw [(iV e14.2.1), (iV e14.2.2.1), (iV e14.2.2.2)]), (1, .tail 3 1), (0, .rw [(iV 0), (iV 0), (iV 0)])], false⟩⟩) r25 ?_ ?_
            · refine pw_ops ?_;refine po_ops 3 ?_;(conv=>whnf);obtain ⟨r29, h30, h26⟩ := obnd_some h26;refine po_seg (τ := Bool) 3 (fun e => ⟨[(1, (VS 1 (a1.map eI))), (4, (pV 0 0)), (7, (pV 2 0)), (9, (iV x19)), (10, (iV x20)), (11, (iV 0)), (28, (VS 1 (a0.map eI))), (29, (iV ((a0.map eI).length : Int))), (30, (iV e14.1)), (44, (.bool e))], ⟨3, [(2, .rw [(iV e14.2.1), (iV e14.2.2.1), (iV e14.2.2.2)]), (1, .tail 3 1), (0, .rw [(iV 0), (iV 0), (iV 0)])], false⟩⟩) r29 ?_ ?_
              · refine R ?_;refine pbr_oite h30 (fun g31 h30 => ?_) (fun g31 h30 => ?_)
                · refine R ?_;cases h30;exact cr
                · refine R ?_;cases h30;exact cr
              · refine po_ops 4 ?_;refine R ?_;refine pbr_oite h26 (fun g32 h26 => ?_) (fun g32 h26 => ?_)
                · (conv=>whnf);refine pbr_t g32 ?_;(conv=>whnf);refine pbr_t g32 ?_;(conv=>whnf);refine po_ops 3 ?_;(conv=>whnf);refine pbr_t g32 ?_;(conv=>whnf);refine po_all ?_;(conv=>whnf);refine pbr_t g32 ?_;(conv=>whnf);cases h26;exact ⟨by (repeat refine .cons rfl ?_);exact .nil,rfl⟩
                · (conv=>whnf);refine pbr_f g32 ?_;(conv=>whnf);refine pbr_f g32 ?_;(conv=>whnf);obtain ⟨r33, h34, h26⟩ := obnd_some h26;refine po_seg (τ := Bool) 3 (fun e => ⟨[(1, (VS 1 (a1.map eI))), (4, (pV 0 0)), (7, (pV 2 0)), (9, (iV x19)), (10, (iV x20)), (11, (iV 0)), (28, (VS 1 (a0.map eI))), (29, (iV ((a0.map eI).length : Int))), (30, (iV e14.1)), (45, (.bool r29)), (46, (iV x19)), (47, (.bool (ilt x19 (0 : Int)))), (48, (.bool (ilt x19 (0 : Int)))), (51, (.bool e))], ⟨3, [(2, .rw [(iV e14.2.1), (iV e14.2.2.1), (iV e14.2.2.2)]), (1, .tail 3 1), (0, .rw [(iV 0), (iV 0), (iV 0)])], false⟩⟩) r33 ?_ ?_
                  · refine R ?_;refine pbr_oite h34 (fun g35 h34 => ?_) (fun g35 h34 => ?_)
                    · refine R ?_;cases h34;exact cr
                    · refine R ?_;cases h34;exact cr
                  · refine R ?_;cases h26;exact cr
            · refine R ?_;refine pbr_oite h22 (fun g36 h22 => ?_) (fun g36 h22 => ?_)
              · refine R ?_;obtain ⟨y37, h38, h22⟩ := obnd_some h22;refine (c218 h38).go ?_;refine R ?_;obtain ⟨y39, h40, h22⟩ := obnd_some h22;refine (c218 h40).go ?_;refine R ?_;cases h22;exact cr
              · refine R ?_;cases h22;exact cr
          · refine R ?_;obtain ⟨y41, h42, h16⟩ := obnd_some h16;refine (c218 h42).go ?_;refine R ?_;refine aR ?_;refine R ?_;refine aR ?_;refine R ?_;obtain ⟨y43, h44, h16⟩ := obnd_some h16;refine (c218 h44).go ?_;refine R ?_;refine aR ?_
            refine R ?_;refine aR ?_;refine R ?_;cases h16;refine ⟨_, rfl, ?_⟩;exact sb
        · refine R ?_;cases h16;refine ⟨_, rfl, ?_⟩;rintro rfl;refine R ?_;exact cr
    · refine R ?_;cases H;rfl
noncomputable def f211   : Option ((List (ByteArray × Int × Int))) :=
 some ([((⟨#[97]⟩ : ByteArray), (5 : Int), (3 : Int)), ((⟨#[98]⟩ : ByteArray), (4 : Int), (2 : Int)), ((⟨#[99]⟩ : ByteArray), (9 : Int), (5 : Int))] : List (ByteArray × Int × Int))
theorem c211   {x : (List (ByteArray × Int × Int))} (H : f211 = some x) : ICalls E 211 [] AHeap.none fun v _ => v = (VS 3 (x.map e_SII)) := by
 refine ICalls.frz ?_;refine icalls_fn (pfnw ?_);unfold f211 at H;refine R ?_;cases H;show ∃ D, Fz _ D 0 (VT 3 (([((⟨#[97]⟩ : ByteArray), (5 : Int), (3 : Int)), ((⟨#[98]⟩ : ByteArray), (4 : Int), (2 : Int)), ((⟨#[99]⟩ : ByteArray), (9 : Int), (5 : Int))] : List (ByteArray × Int × Int)).map e_SII) 0) _;exact ⟨fun _ => false, .vtc⟩
noncomputable def f232  (a0 : Int) (a1 : List ((List Int))) (a2 : Int) (a3 : Int) (a4 : Int) (a5 : List (ByteArray × Int × Int × Int)) (a6 : Int) (a7 : Int) (a8 : Int) (a9 : List (Int × Int × Int)) : Option Bool :=
 ogrd ((ile 0 a2)) (
 obnd (a1[a2.toNat]?) fun (x2 : (List Int)) =>
 obnd (f234 a3 a4 a5 a6 a7 a8 a9 a0 (0 : Int)) fun (y3 : Int) =>
 ogrd ((ile 0 y3)) (
 obnd (x2[y3.toNat]?) fun (x6 : Int) =>
 obnd (f233 x6) fun (y7 : Bool) =>
 some (!y7)))
theorem c232  {a0 : Int} {a1 : List ((List Int))} {a2 : Int} {a3 : Int} {a4 : Int} {a5 : List (ByteArray × Int × Int × Int)} {a6 : Int} {a7 : Int} {a8 : Int} {a9 : List (Int × Int × Int)} {x : Bool} (H : f232 a0 a1 a2 a3 a4 a5 a6 a7 a8 a9 = some x) : ICallV E (.func (.func (E.id 232)) ⟨[]⟩ ⟨[(VP (.agg ⟨[(VS 1 (a1.map e_L1I))]⟩) 0), (VP (.agg ⟨[(iV a2)]⟩) 0), (VP (.agg ⟨[(iV a3), (iV a4), (VS 4 (a5.map e_SIII)), (iV a6), (iV a7), (iV a8), (VS 3 (a9.map e_III))]⟩) 0)]⟩) [(iV a0)] AHeap.none fun v _ => v = (.bool x) := by
 refine icallv_fn (pfnw ?_);unfold f232 at H;refine R ?_;refine pbr_ogrd H (fun g1 H => ?_);refine R ?_;refine nth_o (l := a1) H (fun x2 _ H => ?_);refine R ?_;obtain ⟨y3, h4, H⟩ := obnd_some H;refine (c234 h4).go ?_;refine R ?_;refine aR ?_;refine R ?_;refine pbr_ogrd H (fun g5 H => ?_);refine R ?_;refine nth_o (l := x2) H (fun x6 _ H => ?_);refine R ?_;obtain ⟨y7, h8, H⟩ := obnd_some H;refine (c233 h8).go ?_
 refine R ?_;refine aR ?_;refine R ?_;cases H;rfl
namespace Wk
noncomputable def f212 [LO]  (a0 : Int) (a1 : Int) (a2 : List (ByteArray × Int × Int × Int)) (a3 : Int) (a4 : Int) (a5 : Int) (a6 : List (Int × Int × Int)) (a7 : Int) : Option ((List Int) × Int) :=
 obnd (f219 a0 a1 a2 a3 a4 a5 a6) fun (y1 : Int × Int × (List (ByteArray × Int × Int × Int)) × Int × Int × Int × (List (Int × Int × Int)) × Int) =>
 obnd (f216 a7 (0 : Int) ((a6.map e_III).length : Int)) fun (y3 : Bool) =>
 obnd (f214 y3 (2 : Int)) fun (y5 : Int) =>
 obnd (f213 ([y1.2.2.2.2.2.2.2, y5] : List Int)) fun (y7 : Int) =>
 oite ((!(ieq y7 (0 : Int)))) (
 some (([] : List Int), y7)
 ) (
 obnd (f229 y1.1 y1.2.1 y1.2.2.1 y1.2.2.2.1 y1.2.2.2.2.1 y1.2.2.2.2.2.1 y1.2.2.2.2.2.2.1 (-1 : Int) (0 : Int)) fun (y10 : (List ((List Int)))) =>
 obnd (f231 y1.1 y1.2.1 y1.2.2.1 y1.2.2.2.1 y1.2.2.2.2.1 y1.2.2.2.2.2.1 y1.2.2.2.2.2.2.1 a7) fun (y12 : (List Int)) =>
 obnd (f70 (fun (z0 : Int) => f232 z0 y10 a7 y1.1 y1.2.1 y1.2.2.1 y1.2.2.2.1 y1.2.2.2.2.1 y1.2.2.2.2.2.1 y1.2.2.2.2.2.2.1) y12) fun (y14 : Int) =>
 oite ((ieq y14 (-1 : Int))) (
 some (y12, (0 : Int))
 ) (
 none))
theorem c212 [LO]  {a0 : Int} {a1 : Int} {a2 : List (ByteArray × Int × Int × Int)} {a3 : Int} {a4 : Int} {a5 : Int} {a6 : List (Int × Int × Int)} {a7 : Int} {x : (List Int) × Int} (H : f212 a0 a1 a2 a3 a4 a5 a6 a7 = some x) : ICalls E 212 [(.agg ⟨[(iV a0), (iV a1), (VS 4 (a2.map e_SIII))]⟩), (.agg ⟨[(iV a3), (iV a4), (iV a5), (VS 3 (a6.map e_III))]⟩), (iV a7)] AHeap.none fun v _ => v = (.tuple ⟨[(VS 1 (x.1.map eI)), (iV x.2)]⟩) := by
 refine ICalls.frz ?_;refine icalls_fn (pfnw ?_);unfold f212 at H;refine R ?_;obtain ⟨y1, h2, H⟩ := obnd_some H;refine (c219 h2).go ?_;refine R ?_;refine pw_seq ?_;refine R ?_;obtain ⟨y3, h4, H⟩ := obnd_some H;refine (c216 h4).go ?_;refine R ?_;obtain ⟨y5, h6, H⟩ := obnd_some H;refine (c214 h6).go ?_;refine R ?_;obtain ⟨y7, h8, H⟩ := obnd_some H;refine ICalls.goW (c213 h8) (.cons (.vt _ _ _) .nil) ?_;refine R ?_
 refine pbr_oite H (fun g9 H => ?_) (fun g9 H => ?_)
 · refine R ?_;cases H;show ∃ D, Fz _ D 0 (.tuple ⟨[(.slice none 0 0), (iV y7)]⟩) _;exact ⟨fun _ => false, .tuplel (.cons (.nil _) (.cons .cl (.nil)))⟩
 · refine R ?_;obtain ⟨y10, h11, H⟩ := obnd_some H;refine (c229 h11).go ?_;refine R ?_;obtain ⟨y12, h13, H⟩ := obnd_some H;refine (c231 h13).go ?_;refine R ?_;refine pcalls_in ?_;refine R ?_;obtain ⟨y14, h15, H⟩ := obnd_some H;refine ICalls.goD (c70 (fun _ _ h => (c232 h)) h15) (.cons .cl (.cons (.func .nil (.cons (.ptr rfl (by intro v hv; simp only [List.mem_cons, List.not_mem_nil, or_false] at hv; rcases hv with rfl <;> rfl)) (.cons (.ptr rfl (by intro v hv; simp only [List.mem_cons, List.not_mem_nil, or_false] at hv; rcases hv with rfl <;> rfl)) (.cons (.ptr rfl (by intro v hv; simp only [List.mem_cons, List.not_mem_nil, or_false] at hv; rcases hv with rfl | rfl | rfl | rfl | rfl | rfl | rfl <;> rfl)) .nil)))) .nil)) rfl ?_
   refine R ?_;refine pw_seq ?_;refine R ?_;refine pbr_oite H (fun g16 H => ?_) (fun g16 H => ?_)
   · refine R ?_;cases H;show ∃ D, Fz _ D 0 (.tuple ⟨[(VS 1 _), (iV 0)]⟩) _;exact ⟨fun _ => false, .tuplel (.cons .cl (.cons .cl (.nil)))⟩
   · refine R ?_;cases H
end Wk
noncomputable def f26 [LO]  (a0 : List Int) (a1 : List Int) : Option Bool :=
 oite ((!(ieq ((a0.map eI).length : Int) ((a1.map eI).length : Int)))) (
 some false
 ) (
 obndS (
 oloop (τ := Int) (ρ := (Unit) ⊕ Bool) (fun e6 =>
 oite ((ilt e6 ((a0.map eI).length : Int))) (
 ogrd ((ile 0 e6)) (
 obnd (a0[e6.toNat]?) fun (x11 : Int) =>
 obnd (a1[e6.toNat]?) fun (x12 : Int) =>
 oite ((!(ieq x11 x12))) (
 some (.inr (.inr (false)))
 ) (
 some (.inl (IntKind.i64.wrap (e6 + (1 : Int))))))
 ) (
 some (.inr (.inl ())))
 ) (0 : Int)
 ) fun (_ : Unit) =>
 some true)
theorem c26 [LO]  {a0 : List Int} {a1 : List Int} {x : Bool} (H : f26 a0 a1 = some x) : ICalls E 26 [(VS 1 (a0.map eI)), (VS 1 (a1.map eI))] AHeap.none fun v _ => v = (.bool x) := by
 refine icalls_fn (pfnw ?_);unfold f26 at H;refine R ?_;refine pw_seq ?_;refine R ?_;refine pbr_oite H (fun g1 H => ?_) (fun g1 H => ?_)
 · refine R ?_;cases H;rfl
 · refine R ?_;obtain ⟨r2, h3, h4, h5⟩ := obndS_some H;refine pw_joinS (ρ := Unit) (fun e => ⟨[], ⟨0, [], false⟩⟩) r2 ?_ ?_
   · refine R ?_;refine pw_loop (τ := Int) (fun e => ⟨[(0, (VS 1 (a0.map eI))), (1, (VS 1 (a1.map eI))), (5, (iV e))], ⟨0, [], false⟩⟩) h3 ?_ (fun _ => nl rfl) ?_
     · exact sb
     · intro e6 x7 h8;refine pw_seq ?_;refine R ?_;refine pbr_oite h8 (fun g9 h8 => ?_) (fun g9 h8 => ?_)
       · refine R ?_;refine pw_seq ?_;refine R ?_;refine pbr_ogrd h8 (fun g10 h8 => ?_);refine R ?_;refine nth_o (l := a0) h8 (fun x11 _ h8 => ?_);refine R ?_;refine nth_o (l := a1) h8 (fun x12 _ h8 => ?_);refine R ?_;refine pbr_oite h8 (fun g13 h8 => ?_) (fun g13 h8 => ?_)
         · refine R ?_;cases h8;refine ⟨_, rfl, ?_⟩;rintro rfl;refine R ?_;obtain rfl := h5 _ rfl;rfl
         · refine R ?_;cases h8;refine ⟨_, rfl, ?_⟩;exact sb
       · refine R ?_;cases h8;refine ⟨_, rfl, ?_⟩;rintro rfl;refine R ?_;exact ⟨_, rfl, cr⟩
   · intro r16 hr;have H := h4 _ hr;refine R ?_;cases H;rfl
namespace Wk
noncomputable def f198 [LO]   : Option Bool :=
 obnd (f207) fun (y1 : Int × Int × (List (ByteArray × Int × Int × Int))) =>
 obnd (f208) fun (y3 : Int × Int × Int × (List (Int × Int × Int))) =>
 obnd (f206 y1.1 y1.2.1 y1.2.2 y3.1 y3.2.1 y3.2.2.1 y3.2.2.2) fun (y5 : (List Int) × Int × Int) =>
 obnd (f207) fun (y7 : Int × Int × (List (ByteArray × Int × Int × Int))) =>
 obnd (f208) fun (y9 : Int × Int × Int × (List (Int × Int × Int))) =>
 obnd (f209 y7.1 y7.2.1 y7.2.2 y9.1 y9.2.1 y9.2.2.1 y9.2.2.2 (([(0 : Int), (2 : Int)] : List Int)) (2 : Int)) fun (y11 : (List Int) × Int) =>
 obnd (f201 (([(12 : Int), (12 : Int), (3 : Int)] : List Int)) (([(5 : Int), (10 : Int), (5 : Int)] : List Int))) fun (y13 : Int × Int × Int × Int) =>
 obnd (f211) fun (y15 : (List (ByteArray × Int × Int))) =>
 obnd (f210 y15) fun (y17 : (List Int) × Int × Int) =>
 obnd (f207) fun (y19 : Int × Int × (List (ByteArray × Int × Int × Int))) =>
 obnd (f208) fun (y21 : Int × Int × Int × (List (Int × Int × Int))) =>
 obnd (f212 y19.1 y19.2.1 y19.2.2 y21.1 y21.2.1 y21.2.2.1 y21.2.2.2 (2 : Int)) fun (y23 : (List Int) × Int) =>
 oite ((ieq y5.2.2 (0 : Int))) (
 obnd (f26 y5.1 (([(0 : Int), (2 : Int)] : List Int))) fun (y27 : Bool) =>
 oite y27 (
 oite ((ieq y5.2.1 (30 : Int))) (
 oite ((ieq y11.2 (0 : Int))) (
 obnd (f26 y11.1 (([(1 : Int), (1 : Int)] : List Int))) fun (y32 : Bool) =>
 oite y32 (
 oite ((ieq y13.2.2.2 (0 : Int))) (
 oite (((ieq y13.1 (18 : Int)) && ((ieq y13.2.1 (9 : Int)) && ((ieq y13.2.2.1 (2 : Int)) && true)))) (
 oite ((ieq y17.2.2 (0 : Int))) (
 obnd (f26 y17.1 (([(0 : Int), (1 : Int), (2 : Int)] : List Int))) fun (y38 : Bool) =>
 oite y38 (
 oite ((ieq y17.2.1 (1 : Int))) (
 oite ((ieq y23.2 (0 : Int))) (
 obnd (f26 y23.1 (([(2 : Int), (5 : Int), (8 : Int)] : List Int))) fun (y43 : Bool) =>
 some y43
 ) (
 some false)
 ) (
 some false)
 ) (
 some false)
 ) (
 some false)
 ) (
 some false)
 ) (
 some false)
 ) (
 some false)
 ) (
 some false)
 ) (
 some false)
 ) (
 some false)
 ) (
 some false)
theorem c198 [LO]   {x : Bool} (H : f198 = some x) : ICalls E 198 [] AHeap.none fun v _ => v = (.bool x) := by
 refine icalls_fn (pfnw ?_);unfold f198 at H;refine R ?_;obtain ⟨y1, h2, H⟩ := obnd_some H;refine (c207 h2).go ?_;refine R ?_;obtain ⟨y3, h4, H⟩ := obnd_some H;refine (c208 h4).go ?_;refine R ?_;obtain ⟨y5, h6, H⟩ := obnd_some H;refine (c206 h6).go ?_;refine R ?_;obtain ⟨y7, h8, H⟩ := obnd_some H;refine (c207 h8).go ?_;refine R ?_;obtain ⟨y9, h10, H⟩ := obnd_some H;refine (c208 h10).go ?_;refine R ?_;obtain ⟨y11, h12, H⟩ := obnd_some H;refine ICalls.goW (c209 h12) (.cons (.refl _) (.cons (.refl _) (.cons (.aggl (.cons (.vt _ _ _) (.cons (.refl _) .nil))) .nil))) ?_
 refine R ?_;obtain ⟨y13, h14, H⟩ := obnd_some H;refine ICalls.goW (c201 h14) (.cons (.vt _ _ _) (.cons (.vt _ _ _) .nil)) ?_;refine R ?_;obtain ⟨y15, h16, H⟩ := obnd_some H;refine (c211 h16).go ?_;refine R ?_;obtain ⟨y17, h18, H⟩ := obnd_some H;refine (c210 h18).go ?_;refine R ?_;obtain ⟨y19, h20, H⟩ := obnd_some H;refine (c207 h20).go ?_;refine R ?_;obtain ⟨y21, h22, H⟩ := obnd_some H;refine (c208 h22).go ?_;refine R ?_;obtain ⟨y23, h24, H⟩ := obnd_some H;refine (c212 h24).go ?_
 (conv=>whnf);refine pw_so ?_;refine po_ops 3 ?_;(conv=>whnf);refine po_all ?_;(conv=>whnf);refine pbr_oite H (fun g26 H => ?_) (fun g26 H => ?_)
 · refine R ?_;obtain ⟨y27, h28, H⟩ := obnd_some H;refine ICalls.goW (c26 h28) (.cons (.refl _) (.cons (.vt _ _ _) .nil)) ?_;refine R ?_;refine pbr_oite H (fun g29 H => ?_) (fun g29 H => ?_)
   · refine R ?_;refine pbr_oite H (fun g30 H => ?_) (fun g30 H => ?_)
     · refine R ?_;refine pbr_oite H (fun g31 H => ?_) (fun g31 H => ?_)
       · refine R ?_;obtain ⟨y32, h33, H⟩ := obnd_some H;refine ICalls.goW (c26 h33) (.cons (.refl _) (.cons (.vt _ _ _) .nil)) ?_;refine R ?_;refine pbr_oite H (fun g34 H => ?_) (fun g34 H => ?_)
         · refine R ?_;refine pbr_oite H (fun g35 H => ?_) (fun g35 H => ?_)
           · refine R ?_;refine pbr_oite H (fun g36 H => ?_) (fun g36 H => ?_)
             · refine R ?_;refine pbr_oite H (fun g37 H => ?_) (fun g37 H => ?_)
               · refine R ?_;obtain ⟨y38, h39, H⟩ := obnd_some H;refine ICalls.goW (c26 h39) (.cons (.refl _) (.cons (.vt _ _ _) .nil)) ?_;refine R ?_;refine pbr_oite H (fun g40 H => ?_) (fun g40 H => ?_)
                 · refine R ?_;refine pbr_oite H (fun g41 H => ?_) (fun g41 H => ?_)
                   · refine R ?_;refine pbr_oite H (fun g42 H => ?_) (fun g42 H => ?_)
                     · refine R ?_;obtain ⟨y43, h44, H⟩ := obnd_some H;refine ICalls.goW (c26 h44) (.cons (.refl _) (.cons (.vt _ _ _) .nil)) ?_;refine R ?_;cases H;rfl
                     · refine R ?_;cases H;rfl
                   · refine R ?_;cases H;rfl
                 · refine R ?_;cases H;rfl
               · refine R ?_;cases H;rfl
             · refine R ?_;cases H;rfl
           · refine R ?_;cases H;rfl
         · refine R ?_;cases H;rfl
       · refine R ?_;cases H;rfl
     · refine R ?_;cases H;rfl
   · refine R ?_;cases H;rfl
 · refine R ?_;cases H;rfl
end Wk
end Go.Proofs.YtolapannkcdeeaaGreat.AM
