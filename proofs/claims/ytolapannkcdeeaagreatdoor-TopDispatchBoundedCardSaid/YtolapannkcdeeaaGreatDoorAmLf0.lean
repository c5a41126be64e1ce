/- Computations of functions, and that the functions do them (printed by tools/lift.py). Conditions: none. -/
import Derived.Test.YtolapannkcdeeaaGreatDoorAmRun
import Derived.Test.YtolapannkcdeeaaGreatDoorAmMan
namespace Go.Proofs.YtolapannkcdeeaaGreatDoor.AM
set_option linter.unusedSimpArgs false
set_option linter.unusedVariables false
set_option maxHeartbeats 1000000
open Go Go.RowKit
attribute [local irreducible] ICallV ICalls Recast rng
noncomputable def f307 [LO]  (_ : Int) (_ : Int) (a2 : List (ByteArray × Int × Int × Int)) : Option Bool :=
 oite ((ilt (7 : Int) ((a2.map e_SIII).length : Int))) (
 some false
 ) (
 obndS (
 oloop (τ := Int) (ρ := (Unit) ⊕ Bool) (fun e6 =>
 oite ((ilt e6 ((a2.map e_SIII).length : Int))) (
 ogrd ((ile 0 e6)) (
 obnd (a2[e6.toNat]?) fun (x11 : ByteArray × Int × Int × Int) =>
 oite ((ilt (20 : Int) (x11.1.size : Int))) (
 some (.inr (.inr (false)))
 ) (
 some (.inl (IntKind.i64.wrap (e6 + (1 : Int))))))
 ) (
 some (.inr (.inl ())))
 ) (0 : Int)
 ) fun (_ : Unit) =>
 some true)
theorem c307 [LO]  {a0 : Int} {a1 : Int} {a2 : List (ByteArray × Int × Int × Int)} {x : Bool} (H : f307 a0 a1 a2 = some x) : ICalls E 307 [(.agg ⟨[(iV a0), (iV a1), (VS 4 (a2.map e_SIII))]⟩)] AHeap.none fun v _ => v = (.bool x) := by
 refine icalls_fn (pfnw ?_);unfold f307 at H;refine R ?_;refine pw_seq ?_;refine R ?_;refine pbr_oite H (fun g1 H => ?_) (fun g1 H => ?_)
 · refine R ?_;cases H;rfl
 · refine R ?_;obtain ⟨r2, h3, h4, h5⟩ := obndS_some H;refine pw_joinS (ρ := Unit) (fun e => ⟨[], ⟨1, [(0, .rw [(iV a0), (iV a1), (VS 4 (a2.map e_SIII))])], false⟩⟩) r2 ?_ ?_
   · refine R ?_;refine pw_loop (τ := Int) (fun e => ⟨[(1, (pV 0 0)), (3, (iV e))], ⟨1, [(0, .rw [(iV a0), (iV a1), (VS 4 (a2.map e_SIII))])], false⟩⟩) h3 ?_ (fun _ => nl rfl) ?_
     · exact sb
     · intro e6 x7 h8;refine pw_seq ?_;refine R ?_;refine pbr_oite h8 (fun g9 h8 => ?_) (fun g9 h8 => ?_)
       · refine R ?_;refine pw_seq ?_;refine R ?_;refine pbr_ogrd h8 (fun g10 h8 => ?_);refine R ?_;refine nth_o (l := a2) h8 (fun x11 _ h8 => ?_);refine R ?_;refine pbr_oite h8 (fun g12 h8 => ?_) (fun g12 h8 => ?_)
         · refine R ?_;cases h8;refine ⟨_, rfl, ?_⟩;rintro rfl;refine R ?_;obtain rfl := h5 _ rfl;rfl
         · refine R ?_;cases h8;refine ⟨_, rfl, ?_⟩;exact sb
       · refine R ?_;cases h8;refine ⟨_, rfl, ?_⟩;rintro rfl;refine R ?_;exact ⟨_, rfl, cr⟩
   · intro r15 hr;have H := h4 _ hr;refine R ?_;cases H;rfl
noncomputable def f308  (_ : Int) (_ : Int) (_ : Int) (a3 : List (Int × Int × Int)) : Option Bool :=
 some (ile ((a3.map e_III).length : Int) (12 : Int))
theorem c308  {a0 : Int} {a1 : Int} {a2 : Int} {a3 : List (Int × Int × Int)} {x : Bool} (H : f308 a0 a1 a2 a3 = some x) : ICalls E 308 [(.agg ⟨[(iV a0), (iV a1), (iV a2), (VS 3 (a3.map e_III))]⟩)] AHeap.none fun v _ => v = (.bool x) := by
 refine icalls_fn (pfnw ?_);unfold f308 at H;refine R ?_;cases H;rfl
noncomputable def f15  (a0 : Int) (a1 : Int) (a2 : Int) : Option Bool :=
 obnd (
 oite ((ile a1 a0)) (
 some (ile a0 a2)
 ) (
 some false)
 ) fun (r1 : Bool) =>
 some r1
theorem c15  {a0 : Int} {a1 : Int} {a2 : Int} {x : Bool} (H : f15 a0 a1 a2 = some x) : ICalls E 15 [(iV a0), (iV a1), (iV a2)] AHeap.none fun v _ => v = (.bool x) := by
 refine icalls_fn (pfnw ?_); unfold f15 at H;(conv=>whnf);refine pwa ?_;(conv=>whnf);refine pw_so ?_;refine po_ops 4 ?_;(conv=>whnf);obtain ⟨r1, h2, H⟩ := obnd_some H;refine po_seg (τ := Bool) 4 (fun e => ⟨[(14, (.bool e))], ⟨0, [], false⟩⟩) r1 ?_ ?_
 · refine R ?_;refine pbr_oite h2 (fun g3 h2 => ?_) (fun g3 h2 => ?_)
   · refine R ?_;cases h2;exact cr
   · refine R ?_;cases h2;exact cr
 · refine R ?_;cases H;rfl
noncomputable def f91 [LO]  (a0 : ByteArray) : Option Bool :=
 obnd (
 oite ((ilt (a0.size : Int) (1 : Int))) (
 some true
 ) (
 some (ilt (12 : Int) (a0.size : Int)))
 ) fun (r1 : Bool) =>
 oite r1 (
 some false
 ) (
 obndS (
 oloop (τ := Int) (ρ := (Unit) ⊕ Bool) (fun e11 =>
 oite ((ilt e11 (a0.size : Int))) (
 ogrd ((ile 0 e11)) (
 obnd (a0.data.toList[e11.toNat]?) fun (x16 : UInt8) =>
 obnd (
 oite ((ile (97 : Int) (x16.toNat : Int))) (
 some (ile (x16.toNat : Int) (122 : Int))
 ) (
 some false)
 ) fun (r17 : Bool) =>
 obnd (
 oite r17 (
 some true
 ) (
 oite ((ile (65 : Int) (x16.toNat : Int))) (
 some (ile (x16.toNat : Int) (90 : Int))
 ) (
 some false))
 ) fun (r20 : Bool) =>
 obnd (
 oite (!r20) (
 obnd (
 oite ((ieq e11 (0 : Int))) (
 some true
 ) (
 oite ((!(ieq (x16.toNat : Int) (45 : Int)))) (
 oite ((ilt (x16.toNat : Int) (48 : Int))) (
 some true
 ) (
 some (ilt (57 : Int) (x16.toNat : Int)))
 ) (
 some false))
 ) fun (r29 : Bool) =>
 some r29
 ) (
 some false)
 ) fun (r24 : Bool) =>
 oite r24 (
 some (.inr (.inr (false)))
 ) (
 some (.inl (IntKind.i64.wrap (e11 + (1 : Int))))))
 ) (
 some (.inr (.inl ())))
 ) (0 : Int)
 ) fun (_ : Unit) =>
 some true)
theorem c91 [LO]  {a0 : ByteArray} {x : Bool} (H : f91 a0 = some x) : ICalls E 91 [(.string a0)] AHeap.none fun v _ => v = (.bool x) := by
  refine icalls_fn (pfnw ?_);unfold f91 at H;refine R ?_;refine pw_seq ?_;obtain ⟨r1, h2, H⟩ := obnd_some H;refine pw_join (ρ := Bool) (fun e => ⟨[(0, (.string a0)), (13, (.bool e))], ⟨0, [], false⟩⟩) r1 ?_ ?_
  · refine R ?_;refine pbr_oite h2 (fun g5 h2 => ?_) (fun g5 h2 => ?_)
    · refine R ?_;cases h2;exact cr
    · refine R ?_;cases h2;exact cr
  · refine R ?_;refine pbr_oite H (fun g6 H => ?_) (fun g6 H => ?_)
    · refine R ?_;cases H;rfl
    · refine R ?_;obtain ⟨r7, h8, h9, h10⟩ := obndS_some H;refine pw_joinS (ρ := Unit) (fun e => ⟨[], ⟨0, [], false⟩⟩) r7 ?_ ?_
      · refine R ?_;refine pw_loop (τ := Int) (fun e => ⟨[(0, (.string a0)), (3, (iV e))], ⟨0, [], false⟩⟩) h8 ?_ (fun _ => nl rfl) ?_
        · exact sb
        · intro e11 x12 h13;refine pw_seq ?_;refine R ?_;refine pbr_oite h13 (fun g14 h13 => ?_) (fun g14 h13 => ?_)
          · (conv=>whnf);refine pw_skip ?_;(conv=>whnf);refine pw_seq ?_;refine pw_block ?_;refine pwa ?_;(conv=>whnf);refine pbr_ogrd h13 (fun g15 h13 => ?_);(conv=>whnf);refine get_o h13 (fun x16 _ h13 => ?_);(conv=>whnf);refine pw_so ?_;refine po_ops 3 ?_;(conv=>whnf);obtain ⟨r17, h18, h13⟩ := obnd_some h13;refine po_seg (τ := Bool) 3 (fun e => ⟨[(0, (.string a0)), (3, (iV e11)), (4, (.int .u8 (x16.toNat : Int))), (28, (.bool e))], ⟨0, [], false⟩⟩) r17 ?_ ?_
            · refine R ?_;refine pbr_oite h18 (fun g19 h18 => ?_) (fun g19 h18 => ?_)
              · refine R ?_;cases h18;exact cr
              · refine R ?_;cases h18;exact cr
            · refine po_ops 1 ?_;(conv=>whnf);obtain ⟨r20, h21, h13⟩ := obnd_some h13;refine po_seg (τ := Bool) 7 (fun e => ⟨[(0, (.string a0)), (3, (iV e11)), (4, (.int .u8 (x16.toNat : Int))), (36, (.bool e))], ⟨0, [], false⟩⟩) r20 ?_ ?_
              · refine R ?_;refine pbr_oite h21 (fun g22 h21 => ?_) (fun g22 h21 => ?_)
                · refine R ?_;cases h21;exact cr
                · refine R ?_;refine pbr_oite h21 (fun g23 h21 => ?_) (fun g23 h21 => ?_)
                  · refine R ?_;cases h21;exact cr
                  · refine R ?_;cases h21;exact cr
              · refine po_all ?_;(conv=>whnf);obtain ⟨r24, h25, h13⟩ := obnd_some h13;refine pw_join (ρ := Bool) (fun e => ⟨[(0, (.string a0)), (3, (iV e11)), (54, (.bool e))], ⟨0, [], false⟩⟩) r24 ?_ ?_
                · refine pw_ops ?_;refine po_ops 6 ?_;(conv=>whnf);refine pbr_oite h25 (fun g28 h25 => ?_) (fun g28 h25 => ?_)
                  · (conv=>whnf);refine pbr_t g28 ?_;(conv=>whnf);refine pbr_t g28 ?_;(conv=>whnf);obtain ⟨r29, h30, h25⟩ := obnd_some h25;refine po_seg (τ := Bool) 11 (fun e => ⟨[(0, (.string a0)), (3, (iV e11)), (39, (.bool (!r20))), (40, (iV e11)), (41, (.bool (ieq e11 (0 : Int)))), (42, (.bool (ieq e11 (0 : Int)))), (53, (.bool e))], ⟨0, [], false⟩⟩) r29 ?_ ?_
                    · refine R ?_;refine pbr_oite h30 (fun g31 h30 => ?_) (fun g31 h30 => ?_)
                      · refine R ?_;cases h30;exact cr
                      · refine R ?_;refine pbr_oite h30 (fun g32 h30 => ?_) (fun g32 h30 => ?_)
                        · refine R ?_;refine pbr_oite h30 (fun g33 h30 => ?_) (fun g33 h30 => ?_)
                          · refine R ?_;cases h30;exact cr
                          · refine R ?_;cases h30;exact cr
                        · refine R ?_;cases h30;exact cr
                    · refine R ?_;cases h25;exact cr
                  · (conv=>whnf);refine pbr_f g28 ?_;(conv=>whnf);refine pbr_f g28 ?_;(conv=>whnf);refine po_ops 11 ?_;(conv=>whnf);refine pbr_f g28 ?_;(conv=>whnf);refine po_all ?_;(conv=>whnf);refine pbr_f g28 ?_;(conv=>whnf);cases h25;exact ⟨(.cons rfl (.cons rfl (.cons rfl .nil))), rfl⟩
                · refine R ?_;refine pbr_oite h13 (fun g34 h13 => ?_) (fun g34 h13 => ?_)
                  · refine R ?_;cases h13;refine ⟨_, rfl, ?_⟩;rintro rfl;refine R ?_;obtain rfl := h10 _ rfl;rfl
                  · refine R ?_;cases h13;refine ⟨_, rfl, ?_⟩;exact sb
          · refine R ?_;cases h13;refine ⟨_, rfl, ?_⟩;rintro rfl;refine R ?_;exact ⟨_, rfl, cr⟩
      · intro r37 hr;have H := h9 _ hr;refine R ?_;cases H;rfl
noncomputable def f364 [LO]  (a0 : List ByteArray) (a1 : ByteArray) : Option Bool :=
 obndS (
 oloop (τ := Int) (ρ := (Unit) ⊕ Bool) (fun e5 =>
 oite ((ilt e5 ((a0.map eS).length : Int))) (
 ogrd ((ile 0 e5)) (
 obnd (a0[e5.toNat]?) fun (x10 : ByteArray) =>
 oite ((x10.toList == a1.toList)) (
 some (.inr (.inr (true)))
 ) (
 some (.inl (IntKind.i64.wrap (e5 + (1 : Int))))))
 ) (
 some (.inr (.inl ())))
 ) (0 : Int)
 ) fun (_ : Unit) =>
 some false
theorem c364 [LO]  {a0 : List ByteArray} {a1 : ByteArray} {x : Bool} (H : f364 a0 a1 = some x) : ICalls E 364 [(VS 1 (a0.map eS)), (.string a1)] AHeap.none fun v _ => v = (.bool x) := by
 refine icalls_fn (pfnw ?_);unfold f364 at H;refine R ?_;obtain ⟨r1, h2, h3, h4⟩ := obndS_some H;refine pw_joinS (ρ := Unit) (fun e => ⟨[], ⟨0, [], false⟩⟩) r1 ?_ ?_
 · refine R ?_;refine pw_loop (τ := Int) (fun e => ⟨[(0, (VS 1 (a0.map eS))), (1, (.string a1)), (5, (iV e))], ⟨0, [], false⟩⟩) h2 ?_ (fun _ => nl rfl) ?_
   · exact sb
   · intro e5 x6 h7;refine pw_seq ?_;refine R ?_;refine pbr_oite h7 (fun g8 h7 => ?_) (fun g8 h7 => ?_)
     · refine R ?_;refine pw_seq ?_;refine R ?_;refine pbr_ogrd h7 (fun g9 h7 => ?_);refine R ?_;refine nth_o (l := a0) h7 (fun x10 _ h7 => ?_);refine R ?_;refine pbr_oite h7 (fun g11 h7 => ?_) (fun g11 h7 => ?_)
       · refine R ?_;cases h7;refine ⟨_, rfl, ?_⟩;rintro rfl;refine R ?_;obtain rfl := h4 _ rfl;rfl
       · refine R ?_;cases h7;refine ⟨_, rfl, ?_⟩;exact sb
     · refine R ?_;cases h7;refine ⟨_, rfl, ?_⟩;rintro rfl;refine R ?_;exact ⟨_, rfl, cr⟩
 · intro r14 hr;have H := h3 _ hr;refine R ?_;cases H;rfl
noncomputable def f354 [LO]  (a0 : ByteArray) (a1 : Int) (a2 : Int) (a3 : Int) (a4 : List ByteArray) : Option Int :=
 obnd (f91 a0) fun (y1 : Bool) =>
 oite (!y1) (
 some (4 : Int)
 ) (
 obnd (f364 a4 a0) fun (y4 : Bool) =>
 oite y4 (
 some (5 : Int)
 ) (
 obnd (
 obnd (f15 a1 (-10000 : Int) (10000 : Int)) fun (y11 : Bool) =>
 obnd (
 oite (!y11) (
 some true
 ) (
 obnd (f15 a2 (-10000 : Int) (10000 : Int)) fun (y16 : Bool) =>
 some (!y16))
 ) fun (r13 : Bool) =>
 oite r13 (
 some true
 ) (
 obnd (f15 a3 (0 : Int) (10000 : Int)) fun (y19 : Bool) =>
 some (!y19))
 ) fun (r7 : Bool) =>
 oite r7 (
 some (2 : Int)
 ) (
 some (0 : Int))))
theorem c354 [LO]  {a0 : ByteArray} {a1 : Int} {a2 : Int} {a3 : Int} {a4 : List ByteArray} {x : Int} (H : f354 a0 a1 a2 a3 a4 = some x) : ICalls E 354 [(.agg ⟨[(.string a0), (iV a1), (iV a2), (iV a3)]⟩), (VS 1 (a4.map eS))] AHeap.none fun v _ => v = (iV x) := by
 refine icalls_fn (pfnw ?_);unfold f354 at H;refine R ?_;refine pw_seq ?_;refine R ?_;obtain ⟨y1, h2, H⟩ := obnd_some H;refine (c91 h2).go ?_;refine R ?_;refine pbr_oite H (fun g3 H => ?_) (fun g3 H => ?_)
 · refine R ?_;cases H;rfl
 · refine R ?_;refine pw_seq ?_;refine R ?_;obtain ⟨y4, h5, H⟩ := obnd_some H;refine (c364 h5).go ?_;refine R ?_;refine pbr_oite H (fun g6 H => ?_) (fun g6 H => ?_)
   · refine R ?_;cases H;rfl
   · refine R ?_;refine pw_seq ?_;obtain ⟨r7, h8, H⟩ := obnd_some H;refine pw_join (ρ := Bool) (fun e => ⟨[(28, (.bool e))], ⟨1, [(0, .rw [(.string a0), (iV a1), (iV a2), (iV a3)])], false⟩⟩) r7 ?_ ?_
     · refine pw_ops ?_;refine po_ops 5 ?_;(conv=>whnf);obtain ⟨y11, h12, h8⟩ := obnd_some h8;refine (c15 h12).go ?_;(conv=>whnf);obtain ⟨r13, h14, h8⟩ := obnd_some h8;refine po_seg (τ := Bool) 5 (fun e => ⟨[(2, (pV 0 0)), (22, (.bool e))], ⟨1, [(0, .rw [(.string a0), (iV a1), (iV a2), (iV a3)])], false⟩⟩) r13 ?_ ?_
       · refine R ?_;refine pbr_oite h14 (fun g15 h14 => ?_) (fun g15 h14 => ?_)
         · refine R ?_;cases h14;exact cr
         · refine R ?_;obtain ⟨y16, h17, h14⟩ := obnd_some h14;refine (c15 h17).go ?_;refine R ?_;cases h14;exact cr
       · refine R ?_;refine pbr_oite h8 (fun g18 h8 => ?_) (fun g18 h8 => ?_)
         · refine R ?_;cases h8;exact cr
         · refine R ?_;obtain ⟨y19, h20, h8⟩ := obnd_some h8;refine (c15 h20).go ?_;refine R ?_;cases h8;exact cr
     · refine R ?_;refine pbr_oite H (fun g21 H => ?_) (fun g21 H => ?_)
       · refine R ?_;cases H;rfl
       · refine R ?_;cases H;rfl
noncomputable def f325 [LO]  (a0 : Int) (a1 : Int) (a2 : List (ByteArray × Int × Int × Int)) : Option (Int × Int) :=
 obnd (
 obnd (f15 a0 (0 : Int) (1000000 : Int)) fun (y5 : Bool) =>
 oite (!y5) (
 some true
 ) (
 obnd (f15 a1 (0 : Int) (1000000 : Int)) fun (y8 : Bool) =>
 some (!y8))
 ) fun (r1 : Bool) =>
 oite r1 (
 some ((0 : Int), (2 : Int))
 ) (
 oite ((ilt a1 a0)) (
 some ((0 : Int), (9 : Int))
 ) (
 oite ((ile (40 : Int) (IntKind.i64.wrap (a1 - a0)))) (
 some ((0 : Int), (8 : Int))
 ) (
 oite ((ieq ((a2.map e_SIII).length : Int) (0 : Int))) (
 some ((0 : Int), (10 : Int))
 ) (
 oite ((ilt (5 : Int) ((a2.map e_SIII).length : Int))) (
 some ((0 : Int), (8 : Int))
 ) (
 obndS (
 oloop (τ := (List ByteArray) × Int) (ρ := (Unit) ⊕ (Int × Int)) (fun e19 =>
 oite ((ilt e19.2 ((a2.map e_SIII).length : Int))) (
 ogrd ((ile 0 e19.2)) (
 obnd (a2[e19.2.toNat]?) fun (x24 : ByteArray × Int × Int × Int) =>
 obnd (f354 x24.1 x24.2.1 x24.2.2.1 x24.2.2.2 e19.1) fun (y25 : Int) =>
 oite ((!(ieq y25 (0 : Int)))) (
 some (.inr (.inr ((e19.2, y25))))
 ) (
 obnd (a2[e19.2.toNat]?) fun (x29 : ByteArray × Int × Int × Int) =>
 ogrd (fits 16 (e19.1.length + ([x29.1] : List ByteArray).length)) (
 some (.inl (((e19.1 ++ ([x29.1] : List ByteArray)), (IntKind.i64.wrap (e19.2 + (1 : Int)))))))))
 ) (
 some (.inr (.inl ())))
 ) ((([] : List ByteArray), (0 : Int)))
 ) fun (_ : Unit) =>
 some ((0 : Int), (0 : Int)))))))
theorem c325 [LO]  {a0 : Int} {a1 : Int} {a2 : List (ByteArray × Int × Int × Int)} {x : Int × Int} (H : f325 a0 a1 a2 = some x) : ICalls E 325 [(.agg ⟨[(iV a0), (iV a1), (VS 4 (a2.map e_SIII))]⟩)] AHeap.none fun v _ => v = (.tuple ⟨[(iV x.1), (iV x.2)]⟩) := by
 refine icalls_fn (pfnw ?_);unfold f325 at H;refine R ?_;refine pw_seq ?_;obtain ⟨r1, h2, H⟩ := obnd_some H;refine pw_join (ρ := Bool) (fun e => ⟨[(1, (pV 0 0)), (16, (.bool e))], ⟨1, [(0, .rw [(iV a0), (iV a1), (VS 4 (a2.map e_SIII))])], false⟩⟩) r1 ?_ ?_
 · refine R ?_;obtain ⟨y5, h6, h2⟩ := obnd_some h2;refine (c15 h6).go ?_;refine R ?_;refine pbr_oite h2 (fun g7 h2 => ?_) (fun g7 h2 => ?_)
   · refine R ?_;cases h2;exact cr
   · refine R ?_;obtain ⟨y8, h9, h2⟩ := obnd_some h2;refine (c15 h9).go ?_;refine R ?_;cases h2;exact cr
 · refine R ?_;refine pbr_oite H (fun g10 H => ?_) (fun g10 H => ?_)
   · refine R ?_;cases H;rfl
   · refine R ?_;refine pw_seq ?_;refine R ?_;refine pbr_oite H (fun g11 H => ?_) (fun g11 H => ?_)
     · refine R ?_;cases H;rfl
     · refine R ?_;refine pw_seq ?_;refine R ?_;refine pbr_oite H (fun g12 H => ?_) (fun g12 H => ?_)
       · refine R ?_;cases H;rfl
       · refine R ?_;refine pw_seq ?_;refine R ?_;refine pbr_oite H (fun g13 H => ?_) (fun g13 H => ?_)
         · refine R ?_;cases H;rfl
         · refine R ?_;refine pw_seq ?_;refine R ?_;refine pbr_oite H (fun g14 H => ?_) (fun g14 H => ?_)
           · refine R ?_;cases H;rfl
           · refine R ?_;obtain ⟨r15, h16, h17, h18⟩ := obndS_some H;refine pw_joinSR (ρ := Unit) (fun e => ⟨[], ⟨1, [(0, .rw [(iV a0), (iV a1), (VS 4 (a2.map e_SIII))])], false⟩⟩) r15 ?_ ?_
             · refine R ?_;refine pw_loop (τ := (List ByteArray) × Int) (fun e => ⟨[(1, (pV 0 0)), (4, (VT 1 (e.1.map eS) 1)), (5, (iV e.2))], ⟨2, [(1, .tail (e.1.map eS).length 1), (0, .rw [(iV a0), (iV a1), (VS 4 (a2.map e_SIII))])], false⟩⟩) h16 ?_ (fun _ => nl rfl) ?_
               · exact (Recast.nilTs 1 (nl rfl) (.same rfl (.turn rfl (.same rfl .nil))))
               · intro e19 x20 h21;refine pw_seq ?_;refine R ?_;refine pbr_oite h21 (fun g22 h21 => ?_) (fun g22 h21 => ?_)
                 · refine R ?_;refine pw_seq ?_;refine R ?_;refine pw_seq ?_;refine R ?_;refine pbr_ogrd h21 (fun g23 h21 => ?_);refine R ?_;refine nth_o (l := a2) h21 (fun x24 _ h21 => ?_);refine R ?_;obtain ⟨y25, h26, h21⟩ := obnd_some h21;refine ICalls.goW (c354 h26) (.cons (.refl _) (.cons (.vt _ _ _) .nil)) ?_;refine R ?_;refine pbr_oite h21 (fun g27 h21 => ?_) (fun g27 h21 => ?_)
                   · refine R ?_;cases h21;refine ⟨_, rfl, ?_⟩;rintro rfl;refine R ?_;obtain rfl := h18 _ rfl;rfl
                   · refine R ?_;refine nth_o (l := a2) h21 (fun x29 _ h21 => ?_);refine R ?_;refine app_o (l := e19.1) (m := ([x29.1] : List ByteArray)) (f := eS) h21 (by rfl) (by rfl) (by rfl) (fun h21 => ?_);refine R ?_;cases h21;refine ⟨_, rfl, ?_⟩;refine Recast.trunc (nl rfl) ?_ ?_
                     · repeat (first | exact .nil | refine .cons rfl (by first | exact OBnd.rwc (nl rfl) rfl | exact OBnd.tail (nl rfl) | trivial) ?_)
                     · repeat (first | exact .nil | refine .cons rfl (by first | exact Bnd.ptr (nl rfl) | exact Bnd.vt (nl rfl) | exact Bnd.cl) ?_)
                 · refine R ?_;cases h21;refine ⟨_, rfl, ?_⟩;rintro rfl;refine R ?_;refine ⟨_, rfl, ?_⟩;exact rfz
             · intro r31 hr;have H := h17 _ hr;refine R ?_;cases H;rfl
noncomputable def f347 [LO]  (a0 : Int) (a1 : Int) (a2 : List (ByteArray × Int × Int × Int)) : Option Int :=
 obnd (f325 a0 a1 a2) fun (y1 : Int × Int) =>
 some y1.2
theorem c347 [LO]  {a0 : Int} {a1 : Int} {a2 : List (ByteArray × Int × Int × Int)} {x : Int} (H : f347 a0 a1 a2 = some x) : ICalls E 347 [(.agg ⟨[(iV a0), (iV a1), (VS 4 (a2.map e_SIII))]⟩)] AHeap.none fun v _ => v = (iV x) := by
 refine icalls_fn (pfnw ?_);unfold f347 at H;refine R ?_;obtain ⟨y1, h2, H⟩ := obnd_some H;refine (c325 h2).go ?_;refine R ?_;cases H;rfl
noncomputable def f355  (a0 : Int) : Option Bool :=
 obnd (f15 a0 (-10000 : Int) (10000 : Int)) fun (y1 : Bool) =>
 some y1
theorem c355  {a0 : Int} {x : Bool} (H : f355 a0 = some x) : ICalls E 355 [(iV a0)] AHeap.none fun v _ => v = (.bool x) := by
 refine icalls_fn (pfnw ?_);unfold f355 at H;refine R ?_;obtain ⟨y1, h2, H⟩ := obnd_some H;refine (c15 h2).go ?_;refine R ?_;cases H;rfl
noncomputable def f326 [LO]  (a0 : Int) (a1 : Int) (a2 : List (ByteArray × Int × Int × Int)) (a3 : Int) (a4 : Int) (a5 : Int) (a6 : List (Int × Int × Int)) : Option (Int × Int) :=
 obnd (f347 a0 a1 a2) fun (y1 : Int) =>
 oite ((!(ieq y1 (0 : Int)))) (
 some ((0 : Int), y1)
 ) (
 obnd (f15 a3 a0 a1) fun (y4 : Bool) =>
 oite (!y4) (
 some ((0 : Int), (2 : Int))
 ) (
 obnd (f15 a4 (0 : Int) ((IntKind.i64.wrap (((a2.map e_SIII).length : Int) - (1 : Int))))) fun (y7 : Bool) =>
 oite (!y7) (
 some ((0 : Int), (6 : Int))
 ) (
 obnd (f355 a5) fun (y10 : Bool) =>
 oite (!y10) (
 some ((0 : Int), (2 : Int))
 ) (
 oite ((ieq ((a6.map e_III).length : Int) (0 : Int))) (
 some ((0 : Int), (10 : Int))
 ) (
 oite ((ilt (10 : Int) ((a6.map e_III).length : Int))) (
 some ((0 : Int), (8 : Int))
 ) (
 obndS (
 oloop (τ := Int) (ρ := (Unit) ⊕ (Int × Int)) (fun e19 =>
 oite ((ilt e19 ((a6.map e_III).length : Int))) (
 ogrd ((ile 0 e19)) (
 obnd (a6[e19.toNat]?) fun (x24 : Int × Int × Int) =>
 obnd (
 obnd (f355 x24.1) fun (y29 : Bool) =>
 obnd (
 oite (!y29) (
 some true
 ) (
 obnd (f355 x24.2.1) fun (y34 : Bool) =>
 some (!y34))
 ) fun (r31 : Bool) =>
 oite r31 (
 some true
 ) (
 obnd (f355 x24.2.2) fun (y37 : Bool) =>
 some (!y37))
 ) fun (r25 : Bool) =>
 oite r25 (
 some (.inr (.inr ((e19, (2 : Int)))))
 ) (
 oite ((ilt x24.1 x24.2.1)) (
 some (.inr (.inr ((e19, (9 : Int)))))
 ) (
 some (.inl (IntKind.i64.wrap (e19 + (1 : Int)))))))
 ) (
 some (.inr (.inl ())))
 ) (0 : Int)
 ) fun (_ : Unit) =>
 some ((0 : Int), (0 : Int))))))))
theorem c326 [LO]  {a0 : Int} {a1 : Int} {a2 : List (ByteArray × Int × Int × Int)} {a3 : Int} {a4 : Int} {a5 : Int} {a6 : List (Int × Int × Int)} {x : Int × Int} (H : f326 a0 a1 a2 a3 a4 a5 a6 = some x) : ICalls E 326 [(.agg ⟨[(iV a0), (iV a1), (VS 4 (a2.map e_SIII))]⟩), (.agg ⟨[(iV a3), (iV a4), (iV a5), (VS 3 (a6.map e_III))]⟩)] AHeap.none fun v _ => v = (.tuple ⟨[(iV x.1), (iV x.2)]⟩) := by
 refine icalls_fn (pfnw ?_);unfold f326 at H;refine R ?_;refine pw_seq ?_;refine R ?_;obtain ⟨y1, h2, H⟩ := obnd_some H;refine (c347 h2).go ?_;refine R ?_;refine pbr_oite H (fun g3 H => ?_) (fun g3 H => ?_)
 · refine R ?_;cases H;rfl
 · refine R ?_;refine pw_seq ?_;refine R ?_;obtain ⟨y4, h5, H⟩ := obnd_some H;refine (c15 h5).go ?_;refine R ?_;refine pbr_oite H (fun g6 H => ?_) (fun g6 H => ?_)
   · refine R ?_;cases H;rfl
   · refine R ?_;refine pw_seq ?_;refine R ?_;obtain ⟨y7, h8, H⟩ := obnd_some H;refine (c15 h8).go ?_;refine R ?_;refine pbr_oite H (fun g9 H => ?_) (fun g9 H => ?_)
     · refine R ?_;cases H;rfl
     · refine R ?_;refine pw_seq ?_;refine R ?_;obtain ⟨y10, h11, H⟩ := obnd_some H;refine (c355 h11).go ?_;refine R ?_;refine pbr_oite H (fun g12 H => ?_) (fun g12 H => ?_)
       · refine R ?_;cases H;rfl
       · refine R ?_;refine pw_seq ?_;refine R ?_;refine pbr_oite H (fun g13 H => ?_) (fun g13 H => ?_)
         · refine R ?_;cases H;rfl
         · refine R ?_;refine pw_seq ?_;refine R ?_;refine pbr_oite H (fun g14 H => ?_) (fun g14 H => ?_)
           · refine R ?_;cases H;rfl
           · refine R ?_;obtain ⟨r15, h16, h17, h18⟩ := obndS_some H;refine pw_joinS (ρ := Unit) (fun e => ⟨[], ⟨2, [(1, .rw [(iV a3), (iV a4), (iV a5), (VS 3 (a6.map e_III))]), (0, .rw [(iV a0), (iV a1), (VS 4 (a2.map e_SIII))])], false⟩⟩) r15 ?_ ?_
             · refine R ?_;refine pw_loop (τ := Int) (fun e => ⟨[(3, (pV 1 0)), (7, (iV e))], ⟨2, [(1, .rw [(iV a3), (iV a4), (iV a5), (VS 3 (a6.map e_III))]), (0, .rw [(iV a0), (iV a1), (VS 4 (a2.map e_SIII))])], false⟩⟩) h16 ?_ (fun _ => nl rfl) ?_
               · exact sb
               · intro e19 x20 h21;refine pw_seq ?_;refine R ?_;refine pbr_oite h21 (fun g22 h21 => ?_) (fun g22 h21 => ?_)
                 · refine R ?_;refine pw_seq ?_;refine R ?_;refine pbr_ogrd h21 (fun g23 h21 => ?_);refine R ?_;refine nth_o (l := a6) h21 (fun x24 _ h21 => ?_);refine R ?_;refine pw_seq ?_;obtain ⟨r25, h26, h21⟩ := obnd_some h21;refine pw_join (ρ := Bool) (fun e => ⟨[(3, (pV 1 0)), (7, (iV e19)), (8, (pV 2 0)), (69, (.bool e))], ⟨3, [(2, .rw [(iV x24.1), (iV x24.2.1), (iV x24.2.2)]), (1, .rw [(iV a3), (iV a4), (iV a5), (VS 3 (a6.map e_III))]), (0, .rw [(iV a0), (iV a1), (VS 4 (a2.map e_SIII))])], false⟩⟩) r25 ?_ ?_
                   · refine pw_ops ?_;refine po_ops 5 ?_;(conv=>whnf);obtain ⟨y29, h30, h26⟩ := obnd_some h26;refine (c355 h30).go ?_;(conv=>whnf);obtain ⟨r31, h32, h26⟩ := obnd_some h26;refine po_seg (τ := Bool) 5 (fun e => ⟨[(3, (pV 1 0)), (7, (iV e19)), (8, (pV 2 0)), (63, (.bool e))], ⟨3, [(2, .rw [(iV x24.1), (iV x24.2.1), (iV x24.2.2)]), (1, .rw [(iV a3), (iV a4), (iV a5), (VS 3 (a6.map e_III))]), (0, .rw [(iV a0), (iV a1), (VS 4 (a2.map e_SIII))])], false⟩⟩) r31 ?_ ?_
                     · refine R ?_;refine pbr_oite h32 (fun g33 h32 => ?_) (fun g33 h32 => ?_)
                       · refine R ?_;cases h32;exact cr
                       · refine R ?_;obtain ⟨y34, h35, h32⟩ := obnd_some h32;refine (c355 h35).go ?_;refine R ?_;cases h32;exact cr
                     · refine R ?_;refine pbr_oite h26 (fun g36 h26 => ?_) (fun g36 h26 => ?_)
                       · refine R ?_;cases h26;exact cr
                       · refine R ?_;obtain ⟨y37, h38, h26⟩ := obnd_some h26;refine (c355 h38).go ?_;refine R ?_;cases h26;exact cr
                   · refine R ?_;refine pbr_oite h21 (fun g39 h21 => ?_) (fun g39 h21 => ?_)
                     · refine R ?_;cases h21;refine ⟨_, rfl, ?_⟩;rintro rfl;refine R ?_;obtain rfl := h18 _ rfl;rfl
                     · refine R ?_;refine pbr_oite h21 (fun g41 h21 => ?_) (fun g41 h21 => ?_)
                       · refine R ?_;cases h21;refine ⟨_, rfl, ?_⟩;rintro rfl;refine R ?_;obtain rfl := h18 _ rfl;rfl
                       · refine R ?_;cases h21;refine ⟨_, rfl, ?_⟩;refine Recast.trunc (nl rfl) ?_ ?_
                         · repeat (first | exact .nil | refine .cons rfl (by first | exact OBnd.rwc (nl rfl) rfl | exact OBnd.tail (nl rfl) | trivial) ?_)
                         · repeat (first | exact .nil | refine .cons rfl (by first | exact Bnd.ptr (nl rfl) | exact Bnd.vt (nl rfl) | exact Bnd.cl) ?_)
                 · refine R ?_;cases h21;refine ⟨_, rfl, ?_⟩;rintro rfl;refine R ?_;exact ⟨_, rfl, cr⟩
             · intro r44 hr;have H := h17 _ hr;refine R ?_;cases H;rfl
noncomputable def f311 [LO]  (a0 : Int) (a1 : Int) (a2 : List (ByteArray × Int × Int × Int)) (a3 : Int) (a4 : Int) (a5 : Int) (a6 : List (Int × Int × Int)) : Option Int :=
 obnd (f326 a0 a1 a2 a3 a4 a5 a6) fun (y1 : Int × Int) =>
 some y1.2
theorem c311 [LO]  {a0 : Int} {a1 : Int} {a2 : List (ByteArray × Int × Int × Int)} {a3 : Int} {a4 : Int} {a5 : Int} {a6 : List (Int × Int × Int)} {x : Int} (H : f311 a0 a1 a2 a3 a4 a5 a6 = some x) : ICalls E 311 [(.agg ⟨[(iV a0), (iV a1), (VS 4 (a2.map e_SIII))]⟩), (.agg ⟨[(iV a3), (iV a4), (iV a5), (VS 3 (a6.map e_III))]⟩)] AHeap.none fun v _ => v = (iV x) := by
 refine icalls_fn (pfnw ?_);unfold f311 at H;refine R ?_;obtain ⟨y1, h2, H⟩ := obnd_some H;refine (c326 h2).go ?_;refine R ?_;cases H;rfl
noncomputable def f309  (a0 : Int) (a1 : Int) (a2 : List (ByteArray × Int × Int × Int)) : Option (Int × Int × (List (ByteArray × Int × Int × Int))) :=
 ogrd (fits 40 (([] : List (ByteArray × Int × Int × Int)).length + a2.length)) (
 some (a0, a1, (([] : List (ByteArray × Int × Int × Int)) ++ a2)))
theorem c309  {a0 : Int} {a1 : Int} {a2 : List (ByteArray × Int × Int × Int)} {x : Int × Int × (List (ByteArray × Int × Int × Int))} (H : f309 a0 a1 a2 = some x) : ICalls E 309 [(.agg ⟨[(iV a0), (iV a1), (VS 4 (a2.map e_SIII))]⟩)] AHeap.none fun v _ => v = (.agg ⟨[(iV x.1), (iV x.2.1), (VS 4 (x.2.2.map e_SIII))]⟩) := by
 refine ICalls.frz ?_;refine icalls_fn (pfnw ?_);unfold f309 at H;refine R ?_;refine app_o (l := ([] : List (ByteArray × Int × Int × Int))) (m := a2) (f := e_SIII) H (by rfl) (by rfl) (by rfl) (fun H => ?_);refine R ?_;cases H;show ∃ D, Fz _ D 0 (.agg ⟨[(iV a0), (iV a1), (VT 4 _ 2)]⟩) _;exact ⟨fun _ => false, .aggl (.cons .cl (.cons .cl (.cons .vtc (.nil))))⟩
noncomputable def f471 [LO]  (a0 : List Int) : Option ByteArray :=
 obnd (
 oloop (τ := (List ByteArray) × Int) (ρ := (List ByteArray)) (fun e5 =>
 oite ((ilt e5.2 ((a0.map eI).length : Int))) (
 ogrd ((ile 0 e5.2)) (
 obnd (a0[e5.2.toNat]?) fun (x10 : Int) =>
 obnd (f385 x10) fun (y11 : ByteArray) =>
 ogrd (fits 16 (e5.1.length + ([y11] : List ByteArray).length)) (
 some (.inl (((e5.1 ++ ([y11] : List ByteArray)), (IntKind.i64.wrap (e5.2 + (1 : Int))))))))
 ) (
 some (.inr (e5.1)))
 ) ((([] : List ByteArray), (0 : Int)))
 ) fun (r1 : (List ByteArray)) =>
 obnd (f384 r1 (⟨#[32]⟩ : ByteArray)) fun (y14 : ByteArray) =>
 some y14
theorem c471 [LO]  {a0 : List Int} {x : ByteArray} (H : f471 a0 = some x) : ICalls E 471 [(VS 1 (a0.map eI))] AHeap.none fun v _ => v = (.string x) := by
 refine icalls_fn (pfnw ?_);unfold f471 at H;refine R ?_;obtain ⟨r1, h2, H⟩ := obnd_some H;refine pw_join (ρ := (List ByteArray)) (fun e => ⟨[(3, (VT 1 (e.map eS) 0))], ⟨1, [(0, .tail (e.map eS).length 1)], false⟩⟩) r1 ?_ ?_
 · refine R ?_;refine pw_loop (τ := (List ByteArray) × Int) (fun e => ⟨[(3, (VT 1 (e.1.map eS) 0)), (6, (VS 1 (a0.map eI))), (7, (iV ((a0.map eI).length : Int))), (8, (iV e.2))], ⟨1, [(0, .tail (e.1.map eS).length 1)], false⟩⟩) h2 ?_ (fun _ => nl rfl) ?_
   · exact (Recast.nilTs 1 (nl rfl) (.turn rfl (.same rfl (.same rfl (.same rfl .nil)))))
   · intro e5 x6 h7;refine R ?_;refine pw_seq ?_;refine R ?_;refine pbr_oite h7 (fun g8 h7 => ?_) (fun g8 h7 => ?_)
     · refine R ?_;refine pw_seq ?_;refine R ?_;refine pbr_ogrd h7 (fun g9 h7 => ?_);refine R ?_;refine nth_o (l := a0) h7 (fun x10 _ h7 => ?_);refine R ?_;obtain ⟨y11, h12, h7⟩ := obnd_some h7;refine (c385 h12).go ?_;refine R ?_;refine app_o (l := e5.1) (m := ([y11] : List ByteArray)) (f := eS) h7 (by rfl) (by rfl) (by rfl) (fun h7 => ?_);refine R ?_;cases h7;refine ⟨_, rfl, ?_⟩;refine Recast.trunc (nl rfl) ?_ ?_
       · repeat (first | exact .nil | refine .cons rfl (by first | exact OBnd.rwc (nl rfl) rfl | exact OBnd.tail (nl rfl) | trivial) ?_)
       · repeat (first | exact .nil | refine .cons rfl (by first | exact Bnd.ptr (nl rfl) | exact Bnd.vt (nl rfl) | exact Bnd.cl) ?_)
     · refine R ?_;cases h7;refine ⟨_, rfl, ?_⟩;rintro rfl;refine R ?_;exact cr
 · refine R ?_;obtain ⟨y14, h15, H⟩ := obnd_some H;refine ICalls.goW (c384 h15) (.cons (.vt _ _ _) (.cons (.refl _) .nil)) ?_;refine R ?_;cases H;rfl
noncomputable def f460 [LO]  (a0 : Int) (a1 : Int) (a2 : List (ByteArray × Int × Int × Int)) : Option ByteArray :=
 obnd (f471 ([a0, a1] : List Int)) fun (y1 : ByteArray) =>
 obnd (
 oloop (τ := (List ByteArray) × Int) (ρ := (List ByteArray)) (fun e7 =>
 oite ((ilt e7.2 ((a2.map e_SIII).length : Int))) (
 ogrd ((ile 0 e7.2)) (
 obnd (a2[e7.2.toNat]?) fun (x12 : ByteArray × Int × Int × Int) =>
 ogrd ((Nat.ble (x12.1.size + (⟨#[32]⟩ : ByteArray).size) 9223372036854775807)) (
 obnd (f471 ([x12.2.1, x12.2.2.1, x12.2.2.2] : List Int)) fun (y14 : ByteArray) =>
 ogrd ((Nat.ble ((x12.1 ++ (⟨#[32]⟩ : ByteArray)).size + y14.size) 9223372036854775807)) (
 ogrd (fits 16 (e7.1.length + ([((x12.1 ++ (⟨#[32]⟩ : ByteArray)) ++ y14)] : List ByteArray).length)) (
 some (.inl (((e7.1 ++ ([((x12.1 ++ (⟨#[32]⟩ : ByteArray)) ++ y14)] : List ByteArray)), (IntKind.i64.wrap (e7.2 + (1 : Int))))))))))
 ) (
 some (.inr (e7.1)))
 ) ((([y1] : List ByteArray), (0 : Int)))
 ) fun (r3 : (List ByteArray)) =>
 obnd (f384 r3 (⟨#[59]⟩ : ByteArray)) fun (y18 : ByteArray) =>
 some y18
theorem c460 [LO]  {a0 : Int} {a1 : Int} {a2 : List (ByteArray × Int × Int × Int)} {x : ByteArray} (H : f460 a0 a1 a2 = some x) : ICalls E 460 [(.agg ⟨[(iV a0), (iV a1), (VS 4 (a2.map e_SIII))]⟩)] AHeap.none fun v _ => v = (.string x) := by
 refine icalls_fn (pfnw ?_);unfold f460 at H;refine R ?_;obtain ⟨y1, h2, H⟩ := obnd_some H;refine ICalls.goW (c471 h2) (.cons (.vt _ _ _) .nil) ?_;refine R ?_;obtain ⟨r3, h4, H⟩ := obnd_some H;refine pw_join (ρ := (List ByteArray)) (fun e => ⟨[(3, (VT 1 (e.map eS) 2))], ⟨3, [(2, .tail (e.map eS).length 1), (1, .tail 2 1), (0, .rw [(iV a0), (iV a1), (VS 4 (a2.map e_SIII))])], false⟩⟩) r3 ?_ ?_
 · refine R ?_;refine pw_loop (τ := (List ByteArray) × Int) (fun e => ⟨[(3, (VT 1 (e.1.map eS) 2)), (14, (VS 4 (a2.map e_SIII))), (15, (iV ((a2.map e_SIII).length : Int))), (16, (iV e.2))], ⟨3, [(2, .tail (e.1.map eS).length 1), (1, .tail 2 1), (0, .rw [(iV a0), (iV a1), (VS 4 (a2.map e_SIII))])], false⟩⟩) h4 ?_ (fun _ => nl rfl) ?_
   · exact sb
   · intro e7 x8 h9;refine R ?_;refine pw_seq ?_;refine R ?_;refine pbr_oite h9 (fun g10 h9 => ?_) (fun g10 h9 => ?_)
     · refine R ?_;refine pw_seq ?_;refine R ?_;refine pbr_ogrd h9 (fun g11 h9 => ?_);refine R ?_;refine nth_o (l := a2) h9 (fun x12 _ h9 => ?_);refine R ?_;refine pbr_ogrd h9 (fun g13 h9 => ?_);refine R ?_;refine aR ?_;refine R ?_;obtain ⟨y14, h15, h9⟩ := obnd_some h9;refine ICalls.goW (c471 h15) (.cons (.vt _ _ _) .nil) ?_;refine R ?_;refine aR ?_
       refine R ?_;refine pbr_ogrd h9 (fun g16 h9 => ?_);refine R ?_;refine aR ?_;refine R ?_;refine app_o (l := e7.1) (m := ([((x12.1 ++ (⟨#[32]⟩ : ByteArray)) ++ y14)] : List ByteArray)) (f := eS) h9 (by rfl) (by rfl) (by rfl) (fun h9 => ?_);refine R ?_;refine aR ?_;refine R ?_;refine aR ?_;refine R ?_
       refine R ?_;cases h9;refine ⟨_, rfl, ?_⟩;refine Recast.trunc (nl rfl) ?_ ?_
       · repeat (first | exact .nil | refine .cons rfl (by first | exact OBnd.rwc (nl rfl) rfl | exact OBnd.tail (nl rfl) | trivial) ?_)
       · repeat (first | exact .nil | refine .cons rfl (by first | exact Bnd.ptr (nl rfl) | exact Bnd.vt (nl rfl) | exact Bnd.cl) ?_)
     · refine R ?_;cases h9;refine ⟨_, rfl, ?_⟩;rintro rfl;refine R ?_;exact cr
 · refine R ?_;obtain ⟨y18, h19, H⟩ := obnd_some H;refine ICalls.goW (c384 h19) (.cons (.vt _ _ _) (.cons (.refl _) .nil)) ?_;refine R ?_;cases H;rfl
noncomputable def f462 [LO]  (a0 : ByteArray) : Option (Int × Int × (List (ByteArray × Int × Int × Int)) × Int) :=
 oite ((ilt (60000 : Int) (a0.size : Int))) (
 some ((0 : Int), (0 : Int), ([] : List (ByteArray × Int × Int × Int)), (8 : Int))
 ) (
 obnd (f382 a0 (⟨#[59]⟩ : ByteArray)) fun (y2 : (List ByteArray)) =>
 obnd (
 obnd (y2[(0 : Int).toNat]?) fun (x8 : ByteArray) =>
 obnd (f382 x8 (⟨#[32]⟩ : ByteArray)) fun (y9 : (List ByteArray)) =>
 oite ((!(ieq ((y9.map eS).length : Int) (2 : Int)))) (
 some (false, (0 : Int), (0 : Int))
 ) (
 obndS (
 obnd (y9[(0 : Int).toNat]?) fun (x16 : ByteArray) =>
 obnd (f394 x16) fun (y17 : Int × Bool) =>
 obnd (
 oite y17.2 (
 obnd (y9[(0 : Int).toNat]?) fun (x24 : ByteArray) =>
 obnd (f385 y17.1) fun (y25 : ByteArray) =>
 oite ((!(y25.toList == x24.toList))) (
 some true
 ) (
 oite ((ilt y17.1 (0 : Int))) (
 some true
 ) (
 obnd (y9[(0 : Int).toNat]?) fun (x29 : ByteArray) =>
 obnd (f395 x29 (⟨#[45]⟩ : ByteArray)) fun (y30 : ByteArray) =>
 some (ilt (7 : Int) (y30.size : Int))))
 ) (
 some true)
 ) fun (r19 : Bool) =>
 oite r19 (
 some (.inr ((false, (0 : Int), (0 : Int))))
 ) (
 obnd (y9[(1 : Int).toNat]?) fun (x33 : ByteArray) =>
 obnd (f394 x33) fun (y34 : Int × Bool) =>
 obnd (
 oite y34.2 (
 obnd (y9[(1 : Int).toNat]?) fun (x41 : ByteArray) =>
 obnd (f385 y34.1) fun (y42 : ByteArray) =>
 oite ((!(y42.toList == x41.toList))) (
 some true
 ) (
 oite ((ilt y34.1 (0 : Int))) (
 some true
 ) (
 obnd (y9[(1 : Int).toNat]?) fun (x46 : ByteArray) =>
 obnd (f395 x46 (⟨#[45]⟩ : ByteArray)) fun (y47 : ByteArray) =>
 some (ilt (7 : Int) (y47.size : Int))))
 ) (
 some true)
 ) fun (r36 : Bool) =>
 oite r36 (
 some (.inr ((false, y17.1, (0 : Int))))
 ) (
 some (.inl (y17.1, y34.1))))
 ) fun (r50 : Int × Int) =>
 some (true, r50.1, r50.2))
 ) fun (r4 : Bool × Int × Int) =>
 obnd (
 obnd (oslL y2 (1 : Int)) fun (m55 : List ByteArray) =>
 oloop (τ := Bool × Int × (List (ByteArray × Int × Int × Int))) (ρ := Bool × (List (ByteArray × Int × Int × Int))) (fun e58 =>
 oite ((ilt e58.2.1 ((m55.map eS).length : Int))) (
 ogrd ((ile 0 e58.2.1)) (
 obnd (m55[e58.2.1.toNat]?) fun (x63 : ByteArray) =>
 obnd (f382 x63 (⟨#[32]⟩ : ByteArray)) fun (y64 : (List ByteArray)) =>
 obnd (y64[(0 : Int).toNat]?) fun (x66 : ByteArray) =>
 obnd (
 obnd (y64[(0 : Int).toNat]?) fun (x71 : ByteArray) =>
 oite ((!(x71.toList == (⟨#[]⟩ : ByteArray).toList))) (
 obnd (oslL y64 (1 : Int)) fun (m74 : List ByteArray) =>
 oite ((!(ieq ((m74.map eS).length : Int) (3 : Int)))) (
 some (false, (0 : Int), (0 : Int), (0 : Int))
 ) (
 obndS (
 obnd (m74[(0 : Int).toNat]?) fun (x82 : ByteArray) =>
 obnd (f394 x82) fun (y83 : Int × Bool) =>
 obnd (
 oite y83.2 (
 obnd (m74[(0 : Int).toNat]?) fun (x90 : ByteArray) =>
 obnd (f385 y83.1) fun (y91 : ByteArray) =>
 oite ((!(y91.toList == x90.toList))) (
 some true
 ) (
 oite ((ilt y83.1 (0 : Int))) (
 obnd (m74[(0 : Int).toNat]?) fun (x95 : ByteArray) =>
 obnd (f395 x95 (⟨#[45]⟩ : ByteArray)) fun (y96 : ByteArray) =>
 some (ilt (7 : Int) (y96.size : Int))
 ) (
 obnd (m74[(0 : Int).toNat]?) fun (x98 : ByteArray) =>
 obnd (f395 x98 (⟨#[45]⟩ : ByteArray)) fun (y99 : ByteArray) =>
 some (ilt (7 : Int) (y99.size : Int))))
 ) (
 some true)
 ) fun (r85 : Bool) =>
 oite r85 (
 some (.inr ((false, (0 : Int), (0 : Int), (0 : Int))))
 ) (
 obnd (m74[(1 : Int).toNat]?) fun (x102 : ByteArray) =>
 obnd (f394 x102) fun (y103 : Int × Bool) =>
 obnd (
 oite y103.2 (
 obnd (m74[(1 : Int).toNat]?) fun (x110 : ByteArray) =>
 obnd (f385 y103.1) fun (y111 : ByteArray) =>
 oite ((!(y111.toList == x110.toList))) (
 some true
 ) (
 oite ((ilt y103.1 (0 : Int))) (
 obnd (m74[(1 : Int).toNat]?) fun (x115 : ByteArray) =>
 obnd (f395 x115 (⟨#[45]⟩ : ByteArray)) fun (y116 : ByteArray) =>
 some (ilt (7 : Int) (y116.size : Int))
 ) (
 obnd (m74[(1 : Int).toNat]?) fun (x118 : ByteArray) =>
 obnd (f395 x118 (⟨#[45]⟩ : ByteArray)) fun (y119 : ByteArray) =>
 some (ilt (7 : Int) (y119.size : Int))))
 ) (
 some true)
 ) fun (r105 : Bool) =>
 oite r105 (
 some (.inr ((false, y83.1, (0 : Int), (0 : Int))))
 ) (
 obnd (m74[(2 : Int).toNat]?) fun (x122 : ByteArray) =>
 obnd (f394 x122) fun (y123 : Int × Bool) =>
 obnd (
 oite y123.2 (
 obnd (m74[(2 : Int).toNat]?) fun (x130 : ByteArray) =>
 obnd (f385 y123.1) fun (y131 : ByteArray) =>
 oite ((!(y131.toList == x130.toList))) (
 some true
 ) (
 oite ((ilt y123.1 (0 : Int))) (
 obnd (m74[(2 : Int).toNat]?) fun (x135 : ByteArray) =>
 obnd (f395 x135 (⟨#[45]⟩ : ByteArray)) fun (y136 : ByteArray) =>
 some (ilt (7 : Int) (y136.size : Int))
 ) (
 obnd (m74[(2 : Int).toNat]?) fun (x138 : ByteArray) =>
 obnd (f395 x138 (⟨#[45]⟩ : ByteArray)) fun (y139 : ByteArray) =>
 some (ilt (7 : Int) (y139.size : Int))))
 ) (
 some true)
 ) fun (r125 : Bool) =>
 oite r125 (
 some (.inr ((false, y83.1, y103.1, (0 : Int))))
 ) (
 some (.inl (y83.1, y103.1, y123.1)))))
 ) fun (r142 : Int × Int × Int) =>
 some (e58.1, r142.1, r142.2.1, r142.2.2))
 ) (
 some (false, (0 : Int), (0 : Int), (0 : Int)))
 ) fun (r67 : Bool × Int × Int × Int) =>
 ogrd (fits 40 (e58.2.2.length + ([(x66, r67.2.1, r67.2.2.1, r67.2.2.2)] : List (ByteArray × Int × Int × Int)).length)) (
 some (.inl ((r67.1, (IntKind.i64.wrap (e58.2.1 + (1 : Int))), (e58.2.2 ++ ([(x66, r67.2.1, r67.2.2.1, r67.2.2.2)] : List (ByteArray × Int × Int × Int))))))))
 ) (
 some (.inr ((e58.1, e58.2.2))))
 ) ((r4.1, (0 : Int), ([] : List (ByteArray × Int × Int × Int))))
 ) fun (r51 : Bool × (List (ByteArray × Int × Int × Int))) =>
 oite (!r51.1) (
 some ((0 : Int), (0 : Int), ([] : List (ByteArray × Int × Int × Int)), (7 : Int))
 ) (
 obnd (f249 r4.2.1 r4.2.2 r51.2) fun (y145 : Int × Int) =>
 oite ((!(ieq y145.2 (0 : Int)))) (
 some ((0 : Int), (0 : Int), ([] : List (ByteArray × Int × Int × Int)), y145.2)
 ) (
 some (r4.2.1, r4.2.2, r51.2, (0 : Int)))))
theorem c462 [LO]  {a0 : ByteArray} {x : Int × Int × (List (ByteArray × Int × Int × Int)) × Int} (H : f462 a0 = some x) : ICalls E 462 [(.string a0)] AHeap.none fun v _ => v = (.tuple ⟨[(.agg ⟨[(iV x.1), (iV x.2.1), (VS 4 (x.2.2.1.map e_SIII))]⟩), (iV x.2.2.2)]⟩) := by
  refine ICalls.frz ?_;refine icalls_fn (pfnw ?_);unfold f462 at H;refine R ?_;refine pw_seq ?_;refine R ?_;refine pbr_oite H (fun g1 H => ?_) (fun g1 H => ?_)
  · refine R ?_;cases H;show ∃ D, Fz _ D 0 (.tuple ⟨[(.agg ⟨[(iV 0), (iV 0), (.slice none 0 0)]⟩), (iV 8)]⟩) _;exact ⟨fun _ => false, .tuplel (.cons (.aggl (.cons .cl (.cons .cl (.cons (.nil _) (.nil))))) (.cons .cl (.nil)))⟩
  · (conv=>whnf);refine pw_skip ?_;(conv=>whnf);refine pwa ?_;(conv=>whnf);refine pwa ?_;(conv=>whnf);obtain ⟨y2, h3, H⟩ := obnd_some H;refine (c382 h3).go ?_;(conv=>whnf);obtain ⟨r4, h5, H⟩ := obnd_some H;refine pw_joinR (ρ := Bool × Int × Int) (fun e => ⟨[(2, (pV 0 0)), (4, (pV 1 0)), (5, (VS 1 (y2.map eS))), (6, (.bool e.1))], ⟨2, [(1, .rw [(iV e.2.1), (iV e.2.2), (.slice none 0 0)]), (0, .rw [(iV 0), (iV 0), (.slice none 0 0)])], false⟩⟩) r4 ?_ ?_
    · refine R ?_;refine nth_o (l := y2) h5 (fun x8 _ h5 => ?_);refine R ?_;obtain ⟨y9, h10, h5⟩ := obnd_some h5;refine (c382 h10).go ?_;refine R ?_;refine pcalls_in ?_;refine R ?_;refine pw_seq ?_;refine R ?_;refine pbr_oite h5 (fun g11 h5 => ?_) (fun g11 h5 => ?_)
      · refine R ?_;cases h5;exact rfz
      · refine R ?_;obtain ⟨r12, h13, h14, h15⟩ := obndS_some h5;refine pw_joinS (ρ := Int × Int) (fun e => ⟨[], ⟨5, [(4, .rw [(pV 1 1), (.bool false)]), (3, .rw [(pV 1 0), (.bool false)]), (2, .tail 2 2), (1, .rw [(iV e.1), (iV e.2), (.slice none 0 0)]), (0, .rw [(iV 0), (iV 0), (.slice none 0 0)])], false⟩⟩) r12 ?_ ?_
        · refine R ?_;refine pw_unroll 3 ?_;refine R ?_;refine pw_seq ?_;refine R ?_;refine pw_seq ?_;refine R ?_;refine nth_o (l := y9) h13 (fun x16 _ h13 => ?_);refine R ?_;obtain ⟨y17, h18, h13⟩ := obnd_some h13;refine (c394 h18).go ?_;refine R ?_;refine pw_seq ?_;obtain ⟨r19, h20, h13⟩ := obnd_some h13;refine pw_join (ρ := Bool) (fun e => ⟨[(0, (VS 1 (y9.map eS))), (6, (pV 3 0)), (7, (iV y17.1)), (14, (VT 2 [(.agg ⟨[(pV 1 0), (.bool false)]⟩), (.agg ⟨[(pV 1 1), (.bool false)]⟩)] 2)), (15, (iV 2)), (16, (iV 0)), (57, (.bool e))], ⟨4, [(3, .rw [(pV 1 0), (.bool false)]), (2, .tail 2 2), (1, .rw [(iV 0), (iV 0), (.slice none 0 0)]), (0, .rw [(iV 0), (iV 0), (.slice none 0 0)])], false⟩⟩) r19 ?_ ?_
          · refine R ?_;refine oite_o2 h20 (fun g23 h20 => ?_) (fun g23 h20 => ?_)
            · rw [ifv_t g23];refine R ?_;refine nth_o (l := y9) h20 (fun x24 _ h20 => ?_);refine R ?_;obtain ⟨y25, h26, h20⟩ := obnd_some h20;refine (c385 h26).go ?_;refine R ?_;refine aR ?_;refine R ?_;refine pbr_oite h20 (fun g27 h20 => ?_) (fun g27 h20 => ?_)
              · refine R ?_;cases h20;exact cr
              · refine R ?_;refine pbr_oite h20 (fun g28 h20 => ?_) (fun g28 h20 => ?_)
                · refine R ?_;cases h20;exact cr
                · refine R ?_;refine nth_o (l := y9) h20 (fun x29 _ h20 => ?_);refine R ?_;obtain ⟨y30, h31, h20⟩ := obnd_some h20;refine (c395 h31).go ?_;refine R ?_;refine aR ?_;refine R ?_;cases h20;exact cr
            · rw [ifv_f g23];refine R ?_;cases h20;exact cr
          · refine R ?_;refine pbr_oite h13 (fun g32 h13 => ?_) (fun g32 h13 => ?_)
            · refine R ?_;cases h13;obtain rfl := h15 _ rfl;exact rfz
            · refine R ?_;refine ⟨_, .refl, nl rfl, ?_⟩;refine R ?_;refine pw_seq ?_;refine R ?_;refine pw_seq ?_;refine R ?_;refine nth_o (l := y9) h13 (fun x33 _ h13 => ?_);refine R ?_;obtain ⟨y34, h35, h13⟩ := obnd_some h13;refine (c394 h35).go ?_;refine R ?_;refine pw_seq ?_;obtain ⟨r36, h37, h13⟩ := obnd_some h13
              refine pw_join (ρ := Bool) (fun e => ⟨[(0, (VS 1 (y9.map eS))), (6, (pV 4 0)), (7, (iV y34.1)), (14, (VT 2 [(.agg ⟨[(pV 1 0), (.bool false)]⟩), (.agg ⟨[(pV 1 1), (.bool false)]⟩)] 2)), (15, (iV 2)), (16, (iV 1)), (57, (.bool e))], ⟨5, [(4, .rw [(pV 1 1), (.bool false)]), (3, .rw [(pV 1 0), (.bool false)]), (2, .tail 2 2), (1, .rw [(iV y17.1), (iV 0), (.slice none 0 0)]), (0, .rw [(iV 0), (iV 0), (.slice none 0 0)])], false⟩⟩) r36 ?_ ?_
              · refine R ?_;refine oite_o2 h37 (fun g40 h37 => ?_) (fun g40 h37 => ?_)
                · rw [ifv_t g40];refine R ?_;refine nth_o (l := y9) h37 (fun x41 _ h37 => ?_);refine R ?_;obtain ⟨y42, h43, h37⟩ := obnd_some h37;refine (c385 h43).go ?_;refine R ?_;refine aR ?_;refine R ?_;refine pbr_oite h37 (fun g44 h37 => ?_) (fun g44 h37 => ?_)
                  · refine R ?_;cases h37;exact cr
                  · refine R ?_;refine pbr_oite h37 (fun g45 h37 => ?_) (fun g45 h37 => ?_)
                    · refine R ?_;cases h37;exact cr
                    · refine R ?_;refine nth_o (l := y9) h37 (fun x46 _ h37 => ?_);refine R ?_;obtain ⟨y47, h48, h37⟩ := obnd_some h37;refine (c395 h48).go ?_;refine R ?_;refine aR ?_;refine R ?_;cases h37;exact cr
                · rw [ifv_f g40];refine R ?_;cases h37;exact cr
              · refine R ?_;refine pbr_oite h13 (fun g49 h13 => ?_) (fun g49 h13 => ?_)
                · refine R ?_;cases h13;obtain rfl := h15 _ rfl;exact rfz
                · refine R ?_;refine ⟨_, .refl, nl rfl, ?_⟩;refine R ?_;refine pw_seq ?_;refine R ?_;cases h13;exact ⟨_, rfl, cr⟩
        · intro r50 hr;have h5 := h14 _ hr;refine R ?_;cases h5;exact rfz
    · obtain ⟨r51, h52, H⟩ := obnd_some H;refine pw_join (ρ := Bool × (List (ByteArray × Int × Int × Int))) (fun e => ⟨[(2, (pV 0 0)), (4, (pV 1 0)), (6, (.bool e.1))], ⟨3, [(2, .tail (e.2.map e_SIII).length 4), (1, .rw [(iV r4.2.1), (iV r4.2.2), (VT 4 (e.2.map e_SIII) 2)]), (0, .rw [(iV 0), (iV 0), (.slice none 0 0)])], false⟩⟩) r51 ?_ ?_
      · refine R ?_;refine oslL_o (f := eS) h52 (fun m55 _ h52 h56 h57 => ?_);refine pbr_t (ile_t (by simpa only [List.length_map] using h56.2)) ?_;rw [h57];refine R ?_;refine pw_loop (τ := Bool × Int × (List (ByteArray × Int × Int × Int))) (fun e => ⟨[(2, (pV 0 0)), (4, (pV 1 0)), (6, (.bool e.1)), (30, (VS 1 (m55.map eS))), (31, (iV ((m55.map eS).length : Int))), (32, (iV e.2.1))], ⟨3, [(2, .tail (e.2.2.map e_SIII).length 4), (1, .rw [(iV r4.2.1), (iV r4.2.2), (VT 4 (e.2.2.map e_SIII) 2)]), (0, .rw [(iV 0), (iV 0), (.slice none 0 0)])], false⟩⟩) h52 ?_ (fun _ => nl rfl) ?_
        · exact ((Recast.sub' (nl rfl) (.cons rfl (.cons rfl (.cons rfl (.cons rfl (.cons rfl (.cons rfl .nil)))))) : Recast _ _ ⟨[(2, (pV 0 0)), (4, (pV 1 0)), (6, (.bool r4.1)), (30, (VS 1 (m55.map eS))), (31, (iV ((m55.map eS).length : Int))), (32, (iV 0))], ⟨2, [(1, .rw [(iV r4.2.1), (iV r4.2.2), (.slice none 0 0)]), (0, .rw [(iV 0), (iV 0), (.slice none 0 0)])], false⟩⟩).trans (Recast.nilM 4 1 (nl rfl) rfl (nl rfl) rfl (.same (.same (.turn .nil))) rfl))
        · intro e58 x59 h60;refine R ?_;refine pw_seq ?_;refine R ?_;refine pbr_oite h60 (fun g61 h60 => ?_) (fun g61 h60 => ?_)
          · (conv=>whnf);refine pw_skip ?_;(conv=>whnf);refine pw_seq ?_;refine pw_block ?_;refine pwa ?_;(conv=>whnf);refine pbr_ogrd h60 (fun g62 h60 => ?_);(conv=>whnf);refine nth_o (l := m55) h60 (fun x63 _ h60 => ?_);(conv=>whnf);refine pwa ?_;(conv=>whnf);obtain ⟨y64, h65, h60⟩ := obnd_some h60;refine (c382 h65).go ?_;(conv=>whnf);refine pwa ?_;(conv=>whnf);refine nth_o (l := y64) h60 (fun x66 _ h60 => ?_);(conv=>whnf);obtain ⟨r67, h68, h60⟩ := obnd_some h60;refine pw_joinR (ρ := Bool × Int × Int × Int) (fun e => ⟨[(2, (pV 0 0)), (4, (pV 1 0)), (6, (.bool e.1)), (10, (pV 3 0)), (30, (VS 1 (m55.map eS))), (31, (iV ((m55.map eS).length : Int))), (32, (iV e58.2.1))], ⟨4, [(3, .rw [(.string x66), (iV e.2.1), (iV e.2.2.1), (iV e.2.2.2)]), (2, .tail (e58.2.2.map e_SIII).length 4), (1, .rw [(iV r4.2.1), (iV r4.2.2), (VT 4 (e58.2.2.map e_SIII) 2)]), (0, .rw [(iV 0), (iV 0), (.slice none 0 0)])], false⟩⟩) r67 ?_ ?_
            · refine pw_ops ?_;refine po_ops 5 ?_;(conv=>whnf);refine nth_o (l := y64) h68 (fun x71 _ h68 => ?_);(conv=>whnf);refine po_all ?_;(conv=>whnf);refine pbr_oite h68 (fun g73 h68 => ?_) (fun g73 h68 => ?_)
              · refine R ?_;refine oslL_o (f := eS) h68 (fun m74 _ h68 h75 h76 => ?_);refine pbr_t (ile_t (by simpa only [List.length_map] using h75.2)) ?_;rw [h76];refine R ?_;refine pcalls_in ?_;refine R ?_;refine pw_seq ?_;refine R ?_
                refine R ?_;refine pbr_oite h68 (fun g77 h68 => ?_) (fun g77 h68 => ?_)
                · refine R ?_;cases h68;exact rfz
                · refine R ?_;obtain ⟨r78, h79, h80, h81⟩ := obndS_some h68;refine pw_joinS (ρ := Int × Int × Int) (fun e => ⟨[], ⟨8, [(7, .rw [(pV 3 3), (.bool true)]), (6, .rw [(pV 3 2), (.bool true)]), (5, .rw [(pV 3 1), (.bool true)]), (4, .tail 3 2), (3, .rw [(.string x66), (iV e.1), (iV e.2.1), (iV e.2.2)]), (2, .tail (e58.2.2.map e_SIII).length 4), (1, .rw [(iV r4.2.1), (iV r4.2.2), (VT 4 (e58.2.2.map e_SIII) 2)]), (0, .rw [(iV 0), (iV 0), (.slice none 0 0)])], false⟩⟩) r78 ?_ ?_
                  · refine R ?_;refine pw_unroll 4 ?_;refine R ?_;refine pw_seq ?_;refine R ?_;refine pw_seq ?_;refine R ?_;refine nth_o (l := m74) h79 (fun x82 _ h79 => ?_);refine R ?_;obtain ⟨y83, h84, h79⟩ := obnd_some h79;refine (c394 h84).go ?_;refine R ?_;refine pw_seq ?_;obtain ⟨r85, h86, h79⟩ := obnd_some h79;refine pw_join (ρ := Bool) (fun e => ⟨[(0, (VS 1 (m74.map eS))), (6, (pV 5 0)), (7, (iV y83.1)), (14, (VT 2 [(.agg ⟨[(pV 3 1), (.bool true)]⟩), (.agg ⟨[(pV 3 2), (.bool true)]⟩), (.agg ⟨[(pV 3 3), (.bool true)]⟩)] 4)), (15, (iV 3)), (16, (iV 0)), (57, (.bool e))], ⟨6, [(5, .rw [(pV 3 1), (.bool true)]), (4, .tail 3 2), (3, .rw [(.string x66), (iV 0), (iV 0), (iV 0)]), (2, .tail (e58.2.2.map e_SIII).length 4), (1, .rw [(iV r4.2.1), (iV r4.2.2), (VT 4 (e58.2.2.map e_SIII) 2)]), (0, .rw [(iV 0), (iV 0), (.slice none 0 0)])], false⟩⟩) r85 ?_ ?_
                    · refine R ?_;refine oite_o2 h86 (fun g89 h86 => ?_) (fun g89 h86 => ?_)
                      · rw [ifv_t g89];refine R ?_;refine nth_o (l := m74) h86 (fun x90 _ h86 => ?_);refine R ?_;obtain ⟨y91, h92, h86⟩ := obnd_some h86;refine (c385 h92).go ?_;refine R ?_;refine aR ?_;refine R ?_;refine pbr_oite h86 (fun g93 h86 => ?_) (fun g93 h86 => ?_)
                        · refine R ?_;cases h86;exact cr
                        · refine R ?_;refine pbr_oite h86 (fun g94 h86 => ?_) (fun g94 h86 => ?_)
                          · refine R ?_;refine nth_o (l := m74) h86 (fun x95 _ h86 => ?_);refine R ?_;obtain ⟨y96, h97, h86⟩ := obnd_some h86;refine (c395 h97).go ?_;refine R ?_;refine aR ?_;refine R ?_;cases h86;exact cr
                          · refine R ?_;refine nth_o (l := m74) h86 (fun x98 _ h86 => ?_);refine R ?_;obtain ⟨y99, h100, h86⟩ := obnd_some h86;refine (c395 h100).go ?_;refine R ?_;refine aR ?_;refine R ?_;cases h86;exact cr
                      · rw [ifv_f g89];refine R ?_;cases h86;exact cr
                    · refine R ?_;refine pbr_oite h79 (fun g101 h79 => ?_) (fun g101 h79 => ?_)
                      · refine R ?_;cases h79;obtain rfl := h81 _ rfl;exact rfz
                      · refine R ?_;refine ⟨_, .refl, nl rfl, ?_⟩;refine R ?_;refine pw_seq ?_;refine R ?_;refine pw_seq ?_;refine R ?_;refine nth_o (l := m74) h79 (fun x102 _ h79 => ?_);refine R ?_;obtain ⟨y103, h104, h79⟩ := obnd_some h79;refine (c394 h104).go ?_;refine R ?_;refine pw_seq ?_
                        obtain ⟨r105, h106, h79⟩ := obnd_some h79;refine pw_join (ρ := Bool) (fun e => ⟨[(0, (VS 1 (m74.map eS))), (6, (pV 6 0)), (7, (iV y103.1)), (14, (VT 2 [(.agg ⟨[(pV 3 1), (.bool true)]⟩), (.agg ⟨[(pV 3 2), (.bool true)]⟩), (.agg ⟨[(pV 3 3), (.bool true)]⟩)] 4)), (15, (iV 3)), (16, (iV 1)), (57, (.bool e))], ⟨7, [(6, .rw [(pV 3 2), (.bool true)]), (5, .rw [(pV 3 1), (.bool true)]), (4, .tail 3 2), (3, .rw [(.string x66), (iV y83.1), (iV 0), (iV 0)]), (2, .tail (e58.2.2.map e_SIII).length 4), (1, .rw [(iV r4.2.1), (iV r4.2.2), (VT 4 (e58.2.2.map e_SIII) 2)]), (0, .rw [(iV 0), (iV 0), (.slice none 0 0)])], false⟩⟩) r105 ?_ ?_
                        · refine R ?_;refine oite_o2 h106 (fun g109 h106 => ?_) (fun g109 h106 => ?_)
                          · rw [ifv_t g109];refine R ?_;refine nth_o (l := m74) h106 (fun x110 _ h106 => ?_);refine R ?_;obtain ⟨y111, h112, h106⟩ := obnd_some h106;refine (c385 h112).go ?_;refine R ?_;refine aR ?_;refine R ?_;refine pbr_oite h106 (fun g113 h106 => ?_) (fun g113 h106 => ?_)
                            · refine R ?_;cases h106;exact cr
                            · refine R ?_;refine pbr_oite h106 (fun g114 h106 => ?_) (fun g114 h106 => ?_)
                              · refine R ?_;refine nth_o (l := m74) h106 (fun x115 _ h106 => ?_);refine R ?_;obtain ⟨y116, h117, h106⟩ := obnd_some h106;refine (c395 h117).go ?_;refine R ?_;refine aR ?_;refine R ?_;cases h106;exact cr
                              · refine R ?_;refine nth_o (l := m74) h106 (fun x118 _ h106 => ?_);refine R ?_;obtain ⟨y119, h120, h106⟩ := obnd_some h106;refine (c395 h120).go ?_;refine R ?_;refine aR ?_;refine R ?_;cases h106;exact cr
                          · rw [ifv_f g109];refine R ?_;cases h106;exact cr
                        · refine R ?_;refine pbr_oite h79 (fun g121 h79 => ?_) (fun g121 h79 => ?_)
                          · refine R ?_;cases h79;obtain rfl := h81 _ rfl;exact rfz
                          · refine R ?_;refine ⟨_, .refl, nl rfl, ?_⟩;refine R ?_;refine pw_seq ?_;refine R ?_;refine pw_seq ?_;refine R ?_;refine nth_o (l := m74) h79 (fun x122 _ h79 => ?_);refine R ?_;obtain ⟨y123, h124, h79⟩ := obnd_some h79;refine (c394 h124).go ?_;refine R ?_;refine pw_seq ?_
                            obtain ⟨r125, h126, h79⟩ := obnd_some h79;refine pw_join (ρ := Bool) (fun e => ⟨[(0, (VS 1 (m74.map eS))), (6, (pV 7 0)), (7, (iV y123.1)), (14, (VT 2 [(.agg ⟨[(pV 3 1), (.bool true)]⟩), (.agg ⟨[(pV 3 2), (.bool true)]⟩), (.agg ⟨[(pV 3 3), (.bool true)]⟩)] 4)), (15, (iV 3)), (16, (iV 2)), (57, (.bool e))], ⟨8, [(7, .rw [(pV 3 3), (.bool true)]), (6, .rw [(pV 3 2), (.bool true)]), (5, .rw [(pV 3 1), (.bool true)]), (4, .tail 3 2), (3, .rw [(.string x66), (iV y83.1), (iV y103.1), (iV 0)]), (2, .tail (e58.2.2.map e_SIII).length 4), (1, .rw [(iV r4.2.1), (iV r4.2.2), (VT 4 (e58.2.2.map e_SIII) 2)]), (0, .rw [(iV 0), (iV 0), (.slice none 0 0)])], false⟩⟩) r125 ?_ ?_
                            · refine R ?_;refine oite_o2 h126 (fun g129 h126 => ?_) (fun g129 h126 => ?_)
                              · rw [ifv_t g129];refine R ?_;refine nth_o (l := m74) h126 (fun x130 _ h126 => ?_);refine R ?_;obtain ⟨y131, h132, h126⟩ := obnd_some h126;refine (c385 h132).go ?_;refine R ?_;refine aR ?_;refine R ?_;refine pbr_oite h126 (fun g133 h126 => ?_) (fun g133 h126 => ?_)
                                · refine R ?_;cases h126;exact cr
                                · refine R ?_;refine pbr_oite h126 (fun g134 h126 => ?_) (fun g134 h126 => ?_)
                                  · refine R ?_;refine nth_o (l := m74) h126 (fun x135 _ h126 => ?_);refine R ?_;obtain ⟨y136, h137, h126⟩ := obnd_some h126;refine (c395 h137).go ?_;refine R ?_;refine aR ?_;refine R ?_;cases h126;exact cr
                                  · refine R ?_;refine nth_o (l := m74) h126 (fun x138 _ h126 => ?_);refine R ?_;obtain ⟨y139, h140, h126⟩ := obnd_some h126;refine (c395 h140).go ?_;refine R ?_;refine aR ?_;refine R ?_;cases h126;exact cr
                              · rw [ifv_f g129];refine R ?_;cases h126;exact cr
                            · refine R ?_;refine pbr_oite h79 (fun g141 h79 => ?_) (fun g141 h79 => ?_)
                              · refine R ?_;cases h79;obtain rfl := h81 _ rfl;exact rfz
                              · refine R ?_;refine ⟨_, .refl, nl rfl, ?_⟩;refine R ?_;refine pw_seq ?_;refine R ?_;cases h79;exact ⟨_, rfl, cr⟩
                  · intro r142 hr;have h68 := h80 _ hr;refine R ?_;cases h68;exact rfz
              · refine R ?_;cases h68;exact rfz
            · refine R ?_;refine app_o (l := e58.2.2) (m := ([(x66, r67.2.1, r67.2.2.1, r67.2.2.2)] : List (ByteArray × Int × Int × Int))) (f := e_SIII) h60 (by rfl) (by rfl) (by rfl) (fun h60 => ?_);refine R ?_;cases h60;refine ⟨_, rfl, ?_⟩;exact rfz
          · refine R ?_;cases h60;refine ⟨_, rfl, ?_⟩;rintro rfl;refine R ?_;exact cr
      · refine pw_seq ?_;refine R ?_;refine pbr_oite H (fun g144 H => ?_) (fun g144 H => ?_)
        · refine R ?_;cases H;show ∃ D, Fz _ D 0 (.tuple ⟨[(.agg ⟨[(iV 0), (iV 0), (.slice none 0 0)]⟩), (iV 7)]⟩) _;exact ⟨fun _ => false, .tuplel (.cons (.aggl (.cons .cl (.cons .cl (.cons (.nil _) (.nil))))) (.cons .cl (.nil)))⟩
        · refine R ?_;refine pw_seq ?_;refine R ?_;obtain ⟨y145, h146, H⟩ := obnd_some H;refine ICalls.goW (c249 h146) (.cons (.aggl (.cons (.refl _) (.cons (.refl _) (.cons (.vt _ _ _) .nil)))) .nil) ?_;refine R ?_;refine pbr_oite H (fun g147 H => ?_) (fun g147 H => ?_)
          · refine R ?_;cases H;show ∃ D, Fz _ D 0 (.tuple ⟨[(.agg ⟨[(iV 0), (iV 0), (.slice none 0 0)]⟩), (iV y145.2)]⟩) _;exact ⟨fun _ => false, .tuplel (.cons (.aggl (.cons .cl (.cons .cl (.cons (.nil _) (.nil))))) (.cons .cl (.nil)))⟩
          · refine R ?_;cases H;show ∃ D, Fz _ D 0 (.tuple ⟨[(.agg ⟨[(iV r4.2.1), (iV r4.2.2), (VT 4 _ 2)]⟩), (iV 0)]⟩) _;exact ⟨fun _ => false, .tuplel (.cons (.aggl (.cons .cl (.cons .cl (.cons .vtc (.nil))))) (.cons .cl (.nil)))⟩
noncomputable def f310  (a0 : Int) (a1 : Int) (a2 : Int) (a3 : List (Int × Int × Int)) : Option (Int × Int × Int × (List (Int × Int × Int))) :=
 ogrd (fits 24 (([] : List (Int × Int × Int)).length + a3.length)) (
 some (a0, a1, a2, (([] : List (Int × Int × Int)) ++ a3)))
theorem c310  {a0 : Int} {a1 : Int} {a2 : Int} {a3 : List (Int × Int × Int)} {x : Int × Int × Int × (List (Int × Int × Int))} (H : f310 a0 a1 a2 a3 = some x) : ICalls E 310 [(.agg ⟨[(iV a0), (iV a1), (iV a2), (VS 3 (a3.map e_III))]⟩)] AHeap.none fun v _ => v = (.agg ⟨[(iV x.1), (iV x.2.1), (iV x.2.2.1), (VS 3 (x.2.2.2.map e_III))]⟩) := by
 refine ICalls.frz ?_;refine icalls_fn (pfnw ?_);unfold f310 at H;refine R ?_;refine app_o (l := ([] : List (Int × Int × Int))) (m := a3) (f := e_III) H (by rfl) (by rfl) (by rfl) (fun H => ?_);refine R ?_;cases H;show ∃ D, Fz _ D 0 (.agg ⟨[(iV a0), (iV a1), (iV a2), (VT 3 _ 2)]⟩) _;exact ⟨fun _ => false, .aggl (.cons .cl (.cons .cl (.cons .cl (.cons .vtc (.nil)))))⟩
noncomputable def f461 [LO]  (a0 : Int) (a1 : Int) (a2 : Int) (a3 : List (Int × Int × Int)) : Option ByteArray :=
 obnd (f471 ([a0, a1, a2] : List Int)) fun (y1 : ByteArray) =>
 obnd (
 oloop (τ := (List ByteArray) × Int) (ρ := (List ByteArray)) (fun e7 =>
 oite ((ilt e7.2 ((a3.map e_III).length : Int))) (
 ogrd ((ile 0 e7.2)) (
 obnd (a3[e7.2.toNat]?) fun (x12 : Int × Int × Int) =>
 obnd (f471 ([x12.1, x12.2.1, x12.2.2] : List Int)) fun (y13 : ByteArray) =>
 ogrd (fits 16 (e7.1.length + ([y13] : List ByteArray).length)) (
 some (.inl (((e7.1 ++ ([y13] : List ByteArray)), (IntKind.i64.wrap (e7.2 + (1 : Int))))))))
 ) (
 some (.inr (e7.1)))
 ) ((([y1] : List ByteArray), (0 : Int)))
 ) fun (r3 : (List ByteArray)) =>
 obnd (f384 r3 (⟨#[59]⟩ : ByteArray)) fun (y16 : ByteArray) =>
 some y16
theorem c461 [LO]  {a0 : Int} {a1 : Int} {a2 : Int} {a3 : List (Int × Int × Int)} {x : ByteArray} (H : f461 a0 a1 a2 a3 = some x) : ICalls E 461 [(.agg ⟨[(iV a0), (iV a1), (iV a2), (VS 3 (a3.map e_III))]⟩)] AHeap.none fun v _ => v = (.string x) := by
 refine icalls_fn (pfnw ?_);unfold f461 at H;refine R ?_;obtain ⟨y1, h2, H⟩ := obnd_some H;refine ICalls.goW (c471 h2) (.cons (.vt _ _ _) .nil) ?_;refine R ?_;obtain ⟨r3, h4, H⟩ := obnd_some H;refine pw_join (ρ := (List ByteArray)) (fun e => ⟨[(3, (VT 1 (e.map eS) 2))], ⟨3, [(2, .tail (e.map eS).length 1), (1, .tail 3 1), (0, .rw [(iV a0), (iV a1), (iV a2), (VS 3 (a3.map e_III))])], false⟩⟩) r3 ?_ ?_
 · refine R ?_;refine pw_loop (τ := (List ByteArray) × Int) (fun e => ⟨[(3, (VT 1 (e.1.map eS) 2)), (16, (VS 3 (a3.map e_III))), (17, (iV ((a3.map e_III).length : Int))), (18, (iV e.2))], ⟨3, [(2, .tail (e.1.map eS).length 1), (1, .tail 3 1), (0, .rw [(iV a0), (iV a1), (iV a2), (VS 3 (a3.map e_III))])], false⟩⟩) h4 ?_ (fun _ => nl rfl) ?_
   · exact sb
   · intro e7 x8 h9;refine R ?_;refine pw_seq ?_;refine R ?_;refine pbr_oite h9 (fun g10 h9 => ?_) (fun g10 h9 => ?_)
     · refine R ?_;refine pw_seq ?_;refine R ?_;refine pbr_ogrd h9 (fun g11 h9 => ?_);refine R ?_;refine nth_o (l := a3) h9 (fun x12 _ h9 => ?_);refine R ?_;obtain ⟨y13, h14, h9⟩ := obnd_some h9;refine ICalls.goW (c471 h14) (.cons (.vt _ _ _) .nil) ?_;refine R ?_;refine app_o (l := e7.1) (m := ([y13] : List ByteArray)) (f := eS) h9 (by rfl) (by rfl) (by rfl) (fun h9 => ?_);refine R ?_;cases h9;refine ⟨_, rfl, ?_⟩;refine Recast.trunc (nl rfl) ?_ ?_
       · repeat (first | exact .nil | refine .cons rfl (by first | exact OBnd.rwc (nl rfl) rfl | exact OBnd.tail (nl rfl) | trivial) ?_)
       · repeat (first | exact .nil | refine .cons rfl (by first | exact Bnd.ptr (nl rfl) | exact Bnd.vt (nl rfl) | exact Bnd.cl) ?_)
     · refine R ?_;cases h9;refine ⟨_, rfl, ?_⟩;rintro rfl;refine R ?_;exact cr
 · refine R ?_;obtain ⟨y16, h17, H⟩ := obnd_some H;refine ICalls.goW (c384 h17) (.cons (.vt _ _ _) (.cons (.refl _) .nil)) ?_;refine R ?_;cases H;rfl
noncomputable def f463 [LO]  (a0 : ByteArray) : Option (Int × Int × Int × (List (Int × Int × Int)) × Int) :=
 oite ((ilt (60000 : Int) (a0.size : Int))) (
 some ((0 : Int), (0 : Int), (0 : Int), ([] : List (Int × Int × Int)), (8 : Int))
 ) (
 obnd (f382 a0 (⟨#[59]⟩ : ByteArray)) fun (y2 : (List ByteArray)) =>
 obnd (
 obnd (y2[(0 : Int).toNat]?) fun (x8 : ByteArray) =>
 obnd (f382 x8 (⟨#[32]⟩ : ByteArray)) fun (y9 : (List ByteArray)) =>
 oite ((!(ieq ((y9.map eS).length : Int) (3 : Int)))) (
 some (false, (0 : Int), (0 : Int), (0 : Int))
 ) (
 obndS (
 obnd (y9[(0 : Int).toNat]?) fun (x16 : ByteArray) =>
 obnd (f394 x16) fun (y17 : Int × Bool) =>
 obnd (
 oite y17.2 (
 obnd (y9[(0 : Int).toNat]?) fun (x24 : ByteArray) =>
 obnd (f385 y17.1) fun (y25 : ByteArray) =>
 oite ((!(y25.toList == x24.toList))) (
 some true
 ) (
 oite ((ilt y17.1 (0 : Int))) (
 some true
 ) (
 obnd (y9[(0 : Int).toNat]?) fun (x29 : ByteArray) =>
 obnd (f395 x29 (⟨#[45]⟩ : ByteArray)) fun (y30 : ByteArray) =>
 some (ilt (7 : Int) (y30.size : Int))))
 ) (
 some true)
 ) fun (r19 : Bool) =>
 oite r19 (
 some (.inr ((false, (0 : Int), (0 : Int), (0 : Int))))
 ) (
 obnd (y9[(1 : Int).toNat]?) fun (x33 : ByteArray) =>
 obnd (f394 x33) fun (y34 : Int × Bool) =>
 obnd (
 oite y34.2 (
 obnd (y9[(1 : Int).toNat]?) fun (x41 : ByteArray) =>
 obnd (f385 y34.1) fun (y42 : ByteArray) =>
 oite ((!(y42.toList == x41.toList))) (
 some true
 ) (
 oite ((ilt y34.1 (0 : Int))) (
 some true
 ) (
 obnd (y9[(1 : Int).toNat]?) fun (x46 : ByteArray) =>
 obnd (f395 x46 (⟨#[45]⟩ : ByteArray)) fun (y47 : ByteArray) =>
 some (ilt (7 : Int) (y47.size : Int))))
 ) (
 some true)
 ) fun (r36 : Bool) =>
 oite r36 (
 some (.inr ((false, y17.1, (0 : Int), (0 : Int))))
 ) (
 obnd (y9[(2 : Int).toNat]?) fun (x50 : ByteArray) =>
 obnd (f394 x50) fun (y51 : Int × Bool) =>
 obnd (
 oite y51.2 (
 obnd (y9[(2 : Int).toNat]?) fun (x58 : ByteArray) =>
 obnd (f385 y51.1) fun (y59 : ByteArray) =>
 oite ((!(y59.toList == x58.toList))) (
 some true
 ) (
 oite ((ilt y51.1 (0 : Int))) (
 obnd (y9[(2 : Int).toNat]?) fun (x63 : ByteArray) =>
 obnd (f395 x63 (⟨#[45]⟩ : ByteArray)) fun (y64 : ByteArray) =>
 some (ilt (7 : Int) (y64.size : Int))
 ) (
 obnd (y9[(2 : Int).toNat]?) fun (x66 : ByteArray) =>
 obnd (f395 x66 (⟨#[45]⟩ : ByteArray)) fun (y67 : ByteArray) =>
 some (ilt (7 : Int) (y67.size : Int))))
 ) (
 some true)
 ) fun (r53 : Bool) =>
 oite r53 (
 some (.inr ((false, y17.1, y34.1, (0 : Int))))
 ) (
 some (.inl (y17.1, y34.1, y51.1)))))
 ) fun (r70 : Int × Int × Int) =>
 some (true, r70.1, r70.2.1, r70.2.2))
 ) fun (r4 : Bool × Int × Int × Int) =>
 obnd (
 obnd (oslL y2 (1 : Int)) fun (m75 : List ByteArray) =>
 oloop (τ := Bool × Int × (List (Int × Int × Int))) (ρ := Bool × (List (Int × Int × Int))) (fun e78 =>
 oite ((ilt e78.2.1 ((m75.map eS).length : Int))) (
 ogrd ((ile 0 e78.2.1)) (
 obnd (m75[e78.2.1.toNat]?) fun (x83 : ByteArray) =>
 obnd (
 obnd (f382 x83 (⟨#[32]⟩ : ByteArray)) fun (y88 : (List ByteArray)) =>
 oite ((!(ieq ((y88.map eS).length : Int) (3 : Int)))) (
 some (false, (0 : Int), (0 : Int), (0 : Int))
 ) (
 obndS (
 obnd (y88[(0 : Int).toNat]?) fun (x95 : ByteArray) =>
 obnd (f394 x95) fun (y96 : Int × Bool) =>
 obnd (
 oite y96.2 (
 obnd (y88[(0 : Int).toNat]?) fun (x103 : ByteArray) =>
 obnd (f385 y96.1) fun (y104 : ByteArray) =>
 oite ((!(y104.toList == x103.toList))) (
 some true
 ) (
 oite ((ilt y96.1 (0 : Int))) (
 obnd (y88[(0 : Int).toNat]?) fun (x108 : ByteArray) =>
 obnd (f395 x108 (⟨#[45]⟩ : ByteArray)) fun (y109 : ByteArray) =>
 some (ilt (7 : Int) (y109.size : Int))
 ) (
 obnd (y88[(0 : Int).toNat]?) fun (x111 : ByteArray) =>
 obnd (f395 x111 (⟨#[45]⟩ : ByteArray)) fun (y112 : ByteArray) =>
 some (ilt (7 : Int) (y112.size : Int))))
 ) (
 some true)
 ) fun (r98 : Bool) =>
 oite r98 (
 some (.inr ((false, (0 : Int), (0 : Int), (0 : Int))))
 ) (
 obnd (y88[(1 : Int).toNat]?) fun (x115 : ByteArray) =>
 obnd (f394 x115) fun (y116 : Int × Bool) =>
 obnd (
 oite y116.2 (
 obnd (y88[(1 : Int).toNat]?) fun (x123 : ByteArray) =>
 obnd (f385 y116.1) fun (y124 : ByteArray) =>
 oite ((!(y124.toList == x123.toList))) (
 some true
 ) (
 oite ((ilt y116.1 (0 : Int))) (
 obnd (y88[(1 : Int).toNat]?) fun (x128 : ByteArray) =>
 obnd (f395 x128 (⟨#[45]⟩ : ByteArray)) fun (y129 : ByteArray) =>
 some (ilt (7 : Int) (y129.size : Int))
 ) (
 obnd (y88[(1 : Int).toNat]?) fun (x131 : ByteArray) =>
 obnd (f395 x131 (⟨#[45]⟩ : ByteArray)) fun (y132 : ByteArray) =>
 some (ilt (7 : Int) (y132.size : Int))))
 ) (
 some true)
 ) fun (r118 : Bool) =>
 oite r118 (
 some (.inr ((false, y96.1, (0 : Int), (0 : Int))))
 ) (
 obnd (y88[(2 : Int).toNat]?) fun (x135 : ByteArray) =>
 obnd (f394 x135) fun (y136 : Int × Bool) =>
 obnd (
 oite y136.2 (
 obnd (y88[(2 : Int).toNat]?) fun (x143 : ByteArray) =>
 obnd (f385 y136.1) fun (y144 : ByteArray) =>
 oite ((!(y144.toList == x143.toList))) (
 some true
 ) (
 oite ((ilt y136.1 (0 : Int))) (
 obnd (y88[(2 : Int).toNat]?) fun (x148 : ByteArray) =>
 obnd (f395 x148 (⟨#[45]⟩ : ByteArray)) fun (y149 : ByteArray) =>
 some (ilt (7 : Int) (y149.size : Int))
 ) (
 obnd (y88[(2 : Int).toNat]?) fun (x151 : ByteArray) =>
 obnd (f395 x151 (⟨#[45]⟩ : ByteArray)) fun (y152 : ByteArray) =>
 some (ilt (7 : Int) (y152.size : Int))))
 ) (
 some true)
 ) fun (r138 : Bool) =>
 oite r138 (
 some (.inr ((false, y96.1, y116.1, (0 : Int))))
 ) (
 some (.inl (y96.1, y116.1, y136.1)))))
 ) fun (r155 : Int × Int × Int) =>
 some (e78.1, r155.1, r155.2.1, r155.2.2))
 ) fun (r84 : Bool × Int × Int × Int) =>
 ogrd (fits 24 (e78.2.2.length + ([(r84.2.1, r84.2.2.1, r84.2.2.2)] : List (Int × Int × Int)).length)) (
 some (.inl ((r84.1, (IntKind.i64.wrap (e78.2.1 + (1 : Int))), (e78.2.2 ++ ([(r84.2.1, r84.2.2.1, r84.2.2.2)] : List (Int × Int × Int))))))))
 ) (
 some (.inr ((e78.1, e78.2.2))))
 ) ((r4.1, (0 : Int), ([] : List (Int × Int × Int))))
 ) fun (r71 : Bool × (List (Int × Int × Int))) =>
 oite (!r71.1) (
 some ((0 : Int), (0 : Int), (0 : Int), ([] : List (Int × Int × Int)), (7 : Int))
 ) (
 some (r4.2.1, r4.2.2.1, r4.2.2.2, r71.2, (0 : Int))))
theorem c463 [LO]  {a0 : ByteArray} {x : Int × Int × Int × (List (Int × Int × Int)) × Int} (H : f463 a0 = some x) : ICalls E 463 [(.string a0)] AHeap.none fun v _ => v = (.tuple ⟨[(.agg ⟨[(iV x.1), (iV x.2.1), (iV x.2.2.1), (VS 3 (x.2.2.2.1.map e_III))]⟩), (iV x.2.2.2.2)]⟩) := by
  refine ICalls.frz ?_;refine icalls_fn (pfnw ?_);unfold f463 at H;refine R ?_;refine pw_seq ?_;refine R ?_;refine pbr_oite H (fun g1 H => ?_) (fun g1 H => ?_)
  · refine R ?_;cases H;show ∃ D, Fz _ D 0 (.tuple ⟨[(.agg ⟨[(iV 0), (iV 0), (iV 0), (.slice none 0 0)]⟩), (iV 8)]⟩) _;exact ⟨fun _ => false, .tuplel (.cons (.aggl (.cons .cl (.cons .cl (.cons .cl (.cons (.nil _) (.nil)))))) (.cons .cl (.nil)))⟩
  · (conv=>whnf);refine pw_skip ?_;(conv=>whnf);refine pwa ?_;(conv=>whnf);refine pwa ?_;(conv=>whnf);obtain ⟨y2, h3, H⟩ := obnd_some H;refine (c382 h3).go ?_;(conv=>whnf);obtain ⟨r4, h5, H⟩ := obnd_some H;refine pw_joinR (ρ := Bool × Int × Int × Int) (fun e => ⟨[(2, (pV 0 0)), (4, (pV 1 0)), (5, (VS 1 (y2.map eS))), (6, (.bool e.1))], ⟨2, [(1, .rw [(iV e.2.1), (iV e.2.2.1), (iV e.2.2.2), (.slice none 0 0)]), (0, .rw [(iV 0), (iV 0), (iV 0), (.slice none 0 0)])], false⟩⟩) r4 ?_ ?_
    · refine R ?_;refine nth_o (l := y2) h5 (fun x8 _ h5 => ?_);refine R ?_;obtain ⟨y9, h10, h5⟩ := obnd_some h5;refine (c382 h10).go ?_;refine R ?_;refine pcalls_in ?_;refine R ?_;refine pw_seq ?_;refine R ?_;refine pbr_oite h5 (fun g11 h5 => ?_) (fun g11 h5 => ?_)
      · refine R ?_;cases h5;exact rfz
      · refine R ?_;obtain ⟨r12, h13, h14, h15⟩ := obndS_some h5;refine pw_joinS (ρ := Int × Int × Int) (fun e => ⟨[], ⟨6, [(5, .rw [(pV 1 2), (.bool true)]), (4, .rw [(pV 1 1), (.bool false)]), (3, .rw [(pV 1 0), (.bool false)]), (2, .tail 3 2), (1, .rw [(iV e.1), (iV e.2.1), (iV e.2.2), (.slice none 0 0)]), (0, .rw [(iV 0), (iV 0), (iV 0), (.slice none 0 0)])], false⟩⟩) r12 ?_ ?_
        · refine R ?_;refine pw_unroll 4 ?_;refine R ?_;refine pw_seq ?_;refine R ?_;refine pw_seq ?_;refine R ?_;refine nth_o (l := y9) h13 (fun x16 _ h13 => ?_);refine R ?_;obtain ⟨y17, h18, h13⟩ := obnd_some h13;refine (c394 h18).go ?_;refine R ?_;refine pw_seq ?_;obtain ⟨r19, h20, h13⟩ := obnd_some h13;refine pw_join (ρ := Bool) (fun e => ⟨[(0, (VS 1 (y9.map eS))), (6, (pV 3 0)), (7, (iV y17.1)), (14, (VT 2 [(.agg ⟨[(pV 1 0), (.bool false)]⟩), (.agg ⟨[(pV 1 1), (.bool false)]⟩), (.agg ⟨[(pV 1 2), (.bool true)]⟩)] 2)), (15, (iV 3)), (16, (iV 0)), (57, (.bool e))], ⟨4, [(3, .rw [(pV 1 0), (.bool false)]), (2, .tail 3 2), (1, .rw [(iV 0), (iV 0), (iV 0), (.slice none 0 0)]), (0, .rw [(iV 0), (iV 0), (iV 0), (.slice none 0 0)])], false⟩⟩) r19 ?_ ?_
          · refine R ?_;refine oite_o2 h20 (fun g23 h20 => ?_) (fun g23 h20 => ?_)
            · rw [ifv_t g23];refine R ?_;refine nth_o (l := y9) h20 (fun x24 _ h20 => ?_);refine R ?_;obtain ⟨y25, h26, h20⟩ := obnd_some h20;refine (c385 h26).go ?_;refine R ?_;refine aR ?_;refine R ?_;refine pbr_oite h20 (fun g27 h20 => ?_) (fun g27 h20 => ?_)
              · refine R ?_;cases h20;exact cr
              · refine R ?_;refine pbr_oite h20 (fun g28 h20 => ?_) (fun g28 h20 => ?_)
                · refine R ?_;cases h20;exact cr
                · refine R ?_;refine nth_o (l := y9) h20 (fun x29 _ h20 => ?_);refine R ?_;obtain ⟨y30, h31, h20⟩ := obnd_some h20;refine (c395 h31).go ?_;refine R ?_;refine aR ?_;refine R ?_;cases h20;exact cr
            · rw [ifv_f g23];refine R ?_;cases h20;exact cr
          · refine R ?_;refine pbr_oite h13 (fun g32 h13 => ?_) (fun g32 h13 => ?_)
            · refine R ?_;cases h13;obtain rfl := h15 _ rfl;exact rfz
            · refine R ?_;refine ⟨_, .refl, nl rfl, ?_⟩;refine R ?_;refine pw_seq ?_;refine R ?_;refine pw_seq ?_;refine R ?_;refine nth_o (l := y9) h13 (fun x33 _ h13 => ?_);refine R ?_;obtain ⟨y34, h35, h13⟩ := obnd_some h13;refine (c394 h35).go ?_;refine R ?_;refine pw_seq ?_;obtain ⟨r36, h37, h13⟩ := obnd_some h13
              refine pw_join (ρ := Bool) (fun e => ⟨[(0, (VS 1 (y9.map eS))), (6, (pV 4 0)), (7, (iV y34.1)), (14, (VT 2 [(.agg ⟨[(pV 1 0), (.bool false)]⟩), (.agg ⟨[(pV 1 1), (.bool false)]⟩), (.agg ⟨[(pV 1 2), (.bool true)]⟩)] 2)), (15, (iV 3)), (16, (iV 1)), (57, (.bool e))], ⟨5, [(4, .rw [(pV 1 1), (.bool false)]), (3, .rw [(pV 1 0), (.bool false)]), (2, .tail 3 2), (1, .rw [(iV y17.1), (iV 0), (iV 0), (.slice none 0 0)]), (0, .rw [(iV 0), (iV 0), (iV 0), (.slice none 0 0)])], false⟩⟩) r36 ?_ ?_
              · refine R ?_;refine oite_o2 h37 (fun g40 h37 => ?_) (fun g40 h37 => ?_)
                · rw [ifv_t g40];refine R ?_;refine nth_o (l := y9) h37 (fun x41 _ h37 => ?_);refine R ?_;obtain ⟨y42, h43, h37⟩ := obnd_some h37;refine (c385 h43).go ?_;refine R ?_;refine aR ?_;refine R ?_;refine pbr_oite h37 (fun g44 h37 => ?_) (fun g44 h37 => ?_)
                  · refine R ?_;cases h37;exact cr
                  · refine R ?_;refine pbr_oite h37 (fun g45 h37 => ?_) (fun g45 h37 => ?_)
                    · refine R ?_;cases h37;exact cr
                    · refine R ?_;refine nth_o (l := y9) h37 (fun x46 _ h37 => ?_);refine R ?_;obtain ⟨y47, h48, h37⟩ := obnd_some h37;refine (c395 h48).go ?_;refine R ?_;refine aR ?_;refine R ?_;cases h37;exact cr
                · rw [ifv_f g40];refine R ?_;cases h37;exact cr
              · refine R ?_;refine pbr_oite h13 (fun g49 h13 => ?_) (fun g49 h13 => ?_)
                · refine R ?_;cases h13;obtain rfl := h15 _ rfl;exact rfz
                · refine R ?_;refine ⟨_, .refl, nl rfl, ?_⟩;refine R ?_;refine pw_seq ?_;refine R ?_;refine pw_seq ?_;refine R ?_;refine nth_o (l := y9) h13 (fun x50 _ h13 => ?_);refine R ?_;obtain ⟨y51, h52, h13⟩ := obnd_some h13;refine (c394 h52).go ?_;refine R ?_;refine pw_seq ?_;obtain ⟨r53, h54, h13⟩ := obnd_some h13
                  refine pw_join (ρ := Bool) (fun e => ⟨[(0, (VS 1 (y9.map eS))), (6, (pV 5 0)), (7, (iV y51.1)), (14, (VT 2 [(.agg ⟨[(pV 1 0), (.bool false)]⟩), (.agg ⟨[(pV 1 1), (.bool false)]⟩), (.agg ⟨[(pV 1 2), (.bool true)]⟩)] 2)), (15, (iV 3)), (16, (iV 2)), (57, (.bool e))], ⟨6, [(5, .rw [(pV 1 2), (.bool true)]), (4, .rw [(pV 1 1), (.bool false)]), (3, .rw [(pV 1 0), (.bool false)]), (2, .tail 3 2), (1, .rw [(iV y17.1), (iV y34.1), (iV 0), (.slice none 0 0)]), (0, .rw [(iV 0), (iV 0), (iV 0), (.slice none 0 0)])], false⟩⟩) r53 ?_ ?_
                  · refine R ?_;refine oite_o2 h54 (fun g57 h54 => ?_) (fun g57 h54 => ?_)
                    · rw [ifv_t g57];refine R ?_;refine nth_o (l := y9) h54 (fun x58 _ h54 => ?_);refine R ?_;obtain ⟨y59, h60, h54⟩ := obnd_some h54;refine (c385 h60).go ?_;refine R ?_;refine aR ?_;refine R ?_;refine pbr_oite h54 (fun g61 h54 => ?_) (fun g61 h54 => ?_)
                      · refine R ?_;cases h54;exact cr
                      · refine R ?_;refine pbr_oite h54 (fun g62 h54 => ?_) (fun g62 h54 => ?_)
                        · refine R ?_;refine nth_o (l := y9) h54 (fun x63 _ h54 => ?_);refine R ?_;obtain ⟨y64, h65, h54⟩ := obnd_some h54;refine (c395 h65).go ?_;refine R ?_;refine aR ?_;refine R ?_;cases h54;exact cr
                        · refine R ?_;refine nth_o (l := y9) h54 (fun x66 _ h54 => ?_);refine R ?_;obtain ⟨y67, h68, h54⟩ := obnd_some h54;refine (c395 h68).go ?_;refine R ?_;refine aR ?_;refine R ?_;cases h54;exact cr
                    · rw [ifv_f g57];refine R ?_;cases h54;exact cr
                  · refine R ?_;refine pbr_oite h13 (fun g69 h13 => ?_) (fun g69 h13 => ?_)
                    · refine R ?_;cases h13;obtain rfl := h15 _ rfl;exact rfz
                    · refine R ?_;refine ⟨_, .refl, nl rfl, ?_⟩;refine R ?_;refine pw_seq ?_;refine R ?_;cases h13;exact ⟨_, rfl, cr⟩
        · intro r70 hr;have h5 := h14 _ hr;refine R ?_;cases h5;exact rfz
    · obtain ⟨r71, h72, H⟩ := obnd_some H;refine pw_join (ρ := Bool × (List (Int × Int × Int))) (fun e => ⟨[(2, (pV 0 0)), (4, (pV 1 0)), (6, (.bool e.1))], ⟨3, [(2, .tail (e.2.map e_III).length 3), (1, .rw [(iV r4.2.1), (iV r4.2.2.1), (iV r4.2.2.2), (VT 3 (e.2.map e_III) 2)]), (0, .rw [(iV 0), (iV 0), (iV 0), (.slice none 0 0)])], false⟩⟩) r71 ?_ ?_
      · refine R ?_;refine oslL_o (f := eS) h72 (fun m75 _ h72 h76 h77 => ?_);refine pbr_t (ile_t (by simpa only [List.length_map] using h76.2)) ?_;rw [h77];refine R ?_;refine pw_loop (τ := Bool × Int × (List (Int × Int × Int))) (fun e => ⟨[(2, (pV 0 0)), (4, (pV 1 0)), (6, (.bool e.1)), (29, (VS 1 (m75.map eS))), (30, (iV ((m75.map eS).length : Int))), (31, (iV e.2.1))], ⟨3, [(2, .tail (e.2.2.map e_III).length 3), (1, .rw [(iV r4.2.1), (iV r4.2.2.1), (iV r4.2.2.2), (VT 3 (e.2.2.map e_III) 2)]), (0, .rw [(iV 0), (iV 0), (iV 0), (.slice none 0 0)])], false⟩⟩) h72 ?_ (fun _ => nl rfl) ?_
        · exact ((Recast.sub' (nl rfl) (.cons rfl (.cons rfl (.cons rfl (.cons rfl (.cons rfl (.cons rfl .nil)))))) : Recast _ _ ⟨[(2, (pV 0 0)), (4, (pV 1 0)), (6, (.bool r4.1)), (29, (VS 1 (m75.map eS))), (30, (iV ((m75.map eS).length : Int))), (31, (iV 0))], ⟨2, [(1, .rw [(iV r4.2.1), (iV r4.2.2.1), (iV r4.2.2.2), (.slice none 0 0)]), (0, .rw [(iV 0), (iV 0), (iV 0), (.slice none 0 0)])], false⟩⟩).trans (Recast.nilM 3 1 (nl rfl) rfl (nl rfl) rfl (.same (.same (.same (.turn .nil)))) rfl))
        · intro e78 x79 h80;refine R ?_;refine pw_seq ?_;refine R ?_;refine pbr_oite h80 (fun g81 h80 => ?_) (fun g81 h80 => ?_)
          · (conv=>whnf);refine pw_skip ?_;(conv=>whnf);refine pw_seq ?_;refine pw_block ?_;refine pwa ?_;(conv=>whnf);refine pbr_ogrd h80 (fun g82 h80 => ?_);(conv=>whnf);refine nth_o (l := m75) h80 (fun x83 _ h80 => ?_);(conv=>whnf);refine pwa ?_;(conv=>whnf);obtain ⟨r84, h85, h80⟩ := obnd_some h80;refine pw_joinR (ρ := Bool × Int × Int × Int) (fun e => ⟨[(2, (pV 0 0)), (4, (pV 1 0)), (6, (.bool e.1)), (9, (pV 3 0)), (29, (VS 1 (m75.map eS))), (30, (iV ((m75.map eS).length : Int))), (31, (iV e78.2.1))], ⟨4, [(3, .rw [(iV e.2.1), (iV e.2.2.1), (iV e.2.2.2)]), (2, .tail (e78.2.2.map e_III).length 3), (1, .rw [(iV r4.2.1), (iV r4.2.2.1), (iV r4.2.2.2), (VT 3 (e78.2.2.map e_III) 2)]), (0, .rw [(iV 0), (iV 0), (iV 0), (.slice none 0 0)])], false⟩⟩) r84 ?_ ?_
            · refine pw_ops ?_;refine po_ops 11 ?_;(conv=>whnf);obtain ⟨y88, h89, h85⟩ := obnd_some h85;refine (c382 h89).go ?_;(conv=>whnf);refine pcalls_in ?_;(conv=>whnf);refine pwa ?_;(conv=>whnf);refine pw_seq ?_;refine pwa ?_;(conv=>whnf);refine pw_cond ?_;(conv=>whnf);refine pbr_oite h85 (fun g90 h85 => ?_) (fun g90 h85 => ?_)
              · (conv=>whnf);refine pwa ?_;(conv=>whnf);refine pw_ret ?_;(conv=>whnf);refine po_ops 2 ?_;(conv=>whnf);refine po_all ?_;(conv=>whnf);cases h85;exact Recast.fz (fun _ => false) (nl rfl) (.cons (.same rfl rfl (OBnd.rwl (nl rfl) rfl (.cons .cl (.cons .cl (.cons .cl .nil))))) (.cons (.same rfl rfl (OBnd.tail (nl rfl))) (.cons (.same rfl rfl (OBnd.rwl (nl rfl) rfl (.cons .cl (.cons .cl (.cons .cl (.cons (.vt (nl rfl)) .nil)))))) (.cons (.same rfl rfl (OBnd.rwl (nl rfl) rfl (.cons .cl (.cons .cl (.cons .cl (.cons .cl .nil)))))) .nil)))) (.cons rfl (.same _ (.ptr (nl rfl))) (.cons rfl (.same _ (.ptr (nl rfl))) (.cons rfl (.same _ .cl) (.cons rfl (.same _ (.ptr (nl rfl))) (.cons rfl (.same _ .cl) (.cons rfl (.same _ .cl) (.cons rfl (.same _ .cl) .nil)))))))
              · refine R ?_;obtain ⟨r91, h92, h93, h94⟩ := obndS_some h85;refine pw_joinS (ρ := Int × Int × Int) (fun e => ⟨[], ⟨8, [(7, .rw [(pV 3 2), (.bool true)]), (6, .rw [(pV 3 1), (.bool true)]), (5, .rw [(pV 3 0), (.bool true)]), (4, .tail 3 2), (3, .rw [(iV e.1), (iV e.2.1), (iV e.2.2)]), (2, .tail (e78.2.2.map e_III).length 3), (1, .rw [(iV r4.2.1), (iV r4.2.2.1), (iV r4.2.2.2), (VT 3 (e78.2.2.map e_III) 2)]), (0, .rw [(iV 0), (iV 0), (iV 0), (.slice none 0 0)])], false⟩⟩) r91 ?_ ?_
                · refine R ?_;refine pw_unroll 4 ?_;refine R ?_;refine pw_seq ?_;refine R ?_;refine pw_seq ?_;refine R ?_;refine nth_o (l := y88) h92 (fun x95 _ h92 => ?_);refine R ?_;obtain ⟨y96, h97, h92⟩ := obnd_some h92;refine (c394 h97).go ?_;refine R ?_;refine pw_seq ?_;obtain ⟨r98, h99, h92⟩ := obnd_some h92;refine pw_join (ρ := Bool) (fun e => ⟨[(0, (VS 1 (y88.map eS))), (6, (pV 5 0)), (7, (iV y96.1)), (14, (VT 2 [(.agg ⟨[(pV 3 0), (.bool true)]⟩), (.agg ⟨[(pV 3 1), (.bool true)]⟩), (.agg ⟨[(pV 3 2), (.bool true)]⟩)] 4)), (15, (iV 3)), (16, (iV 0)), (57, (.bool e))], ⟨6, [(5, .rw [(pV 3 0), (.bool true)]), (4, .tail 3 2), (3, .rw [(iV 0), (iV 0), (iV 0)]), (2, .tail (e78.2.2.map e_III).length 3), (1, .rw [(iV r4.2.1), (iV r4.2.2.1), (iV r4.2.2.2), (VT 3 (e78.2.2.map e_III) 2)]), (0, .rw [(iV 0), (iV 0), (iV 0), (.slice none 0 0)])], false⟩⟩) r98 ?_ ?_
                  · refine R ?_;refine oite_o2 h99 (fun g102 h99 => ?_) (fun g102 h99 => ?_)
                    · rw [ifv_t g102];refine R ?_;refine nth_o (l := y88) h99 (fun x103 _ h99 => ?_);refine R ?_;obtain ⟨y104, h105, h99⟩ := obnd_some h99;refine (c385 h105).go ?_;refine R ?_;refine aR ?_;refine R ?_;refine pbr_oite h99 (fun g106 h99 => ?_) (fun g106 h99 => ?_)
                      · refine R ?_;cases h99;exact cr
                      · refine R ?_;refine pbr_oite h99 (fun g107 h99 => ?_) (fun g107 h99 => ?_)
                        · refine R ?_;refine nth_o (l := y88) h99 (fun x108 _ h99 => ?_);refine R ?_;obtain ⟨y109, h110, h99⟩ := obnd_some h99;refine (c395 h110).go ?_;refine R ?_;refine aR ?_;refine R ?_;cases h99;exact cr
                        · refine R ?_;refine nth_o (l := y88) h99 (fun x111 _ h99 => ?_);refine R ?_;obtain ⟨y112, h113, h99⟩ := obnd_some h99;refine (c395 h113).go ?_;refine R ?_;refine aR ?_;refine R ?_;cases h99;exact cr
                    · rw [ifv_f g102];refine R ?_;cases h99;exact cr
                  · refine R ?_;refine pbr_oite h92 (fun g114 h92 => ?_) (fun g114 h92 => ?_)
                    · (conv=>whnf);refine pwa ?_;(conv=>whnf);refine pw_ret ?_;(conv=>whnf);refine po_ops 2 ?_;(conv=>whnf);refine po_all ?_;(conv=>whnf);cases h92;obtain rfl := h94 _ rfl;exact Recast.fz (fun _ => false) (nl rfl) (.cons (.same rfl rfl (OBnd.rwl (nl rfl) rfl (.cons .cl (.cons .cl (.cons .cl .nil))))) (.cons (.same rfl rfl (OBnd.tail (nl rfl))) (.cons (.same rfl rfl (OBnd.rwl (nl rfl) rfl (.cons .cl (.cons .cl (.cons .cl (.cons (.vt (nl rfl)) .nil)))))) (.cons (.same rfl rfl (OBnd.rwl (nl rfl) rfl (.cons .cl (.cons .cl (.cons .cl (.cons .cl .nil)))))) .nil)))) (.cons rfl (.same _ (.ptr (nl rfl))) (.cons rfl (.same _ (.ptr (nl rfl))) (.cons rfl (.same _ .cl) (.cons rfl (.same _ (.ptr (nl rfl))) (.cons rfl (.same _ .cl) (.cons rfl (.same _ .cl) (.cons rfl (.same _ .cl) .nil)))))))
                    · refine R ?_;refine ⟨_, .refl, nl rfl, ?_⟩;refine R ?_;refine pw_seq ?_;refine R ?_;refine pw_seq ?_;refine R ?_;refine nth_o (l := y88) h92 (fun x115 _ h92 => ?_);refine R ?_;obtain ⟨y116, h117, h92⟩ := obnd_some h92;refine (c394 h117).go ?_;refine R ?_;refine pw_seq ?_
                      obtain ⟨r118, h119, h92⟩ := obnd_some h92;refine pw_join (ρ := Bool) (fun e => ⟨[(0, (VS 1 (y88.map eS))), (6, (pV 6 0)), (7, (iV y116.1)), (14, (VT 2 [(.agg ⟨[(pV 3 0), (.bool true)]⟩), (.agg ⟨[(pV 3 1), (.bool true)]⟩), (.agg ⟨[(pV 3 2), (.bool true)]⟩)] 4)), (15, (iV 3)), (16, (iV 1)), (57, (.bool e))], ⟨7, [(6, .rw [(pV 3 1), (.bool true)]), (5, .rw [(pV 3 0), (.bool true)]), (4, .tail 3 2), (3, .rw [(iV y96.1), (iV 0), (iV 0)]), (2, .tail (e78.2.2.map e_III).length 3), (1, .rw [(iV r4.2.1), (iV r4.2.2.1), (iV r4.2.2.2), (VT 3 (e78.2.2.map e_III) 2)]), (0, .rw [(iV 0), (iV 0), (iV 0), (.slice none 0 0)])], false⟩⟩) r118 ?_ ?_
                      · refine R ?_;refine oite_o2 h119 (fun g122 h119 => ?_) (fun g122 h119 => ?_)
                        · rw [ifv_t g122];refine R ?_;refine nth_o (l := y88) h119 (fun x123 _ h119 => ?_);refine R ?_;obtain ⟨y124, h125, h119⟩ := obnd_some h119;refine (c385 h125).go ?_;refine R ?_;refine aR ?_;refine R ?_;refine pbr_oite h119 (fun g126 h119 => ?_) (fun g126 h119 => ?_)
                          · refine R ?_;cases h119;exact cr
                          · refine R ?_;refine pbr_oite h119 (fun g127 h119 => ?_) (fun g127 h119 => ?_)
                            · refine R ?_;refine nth_o (l := y88) h119 (fun x128 _ h119 => ?_);refine R ?_;obtain ⟨y129, h130, h119⟩ := obnd_some h119;refine (c395 h130).go ?_;refine R ?_;refine aR ?_;refine R ?_;cases h119;exact cr
                            · refine R ?_;refine nth_o (l := y88) h119 (fun x131 _ h119 => ?_);refine R ?_;obtain ⟨y132, h133, h119⟩ := obnd_some h119;refine (c395 h133).go ?_;refine R ?_;refine aR ?_;refine R ?_;cases h119;exact cr
                        · rw [ifv_f g122];refine R ?_;cases h119;exact cr
                      · refine pw_cond ?_;(conv=>whnf);refine pbr_oite h92 (fun g134 h92 => ?_) (fun g134 h92 => ?_)
                        · (conv=>whnf);refine pwa ?_;(conv=>whnf);refine pw_ret ?_;(conv=>whnf);refine po_ops 2 ?_;(conv=>whnf);refine po_all ?_;(conv=>whnf);cases h92;obtain rfl := h94 _ rfl;exact Recast.fz (fun _ => false) (nl rfl) (.cons (.same rfl rfl (OBnd.rwl (nl rfl) rfl (.cons .cl (.cons .cl (.cons .cl .nil))))) (.cons (.same rfl rfl (OBnd.tail (nl rfl))) (.cons (.same rfl rfl (OBnd.rwl (nl rfl) rfl (.cons .cl (.cons .cl (.cons .cl (.cons (.vt (nl rfl)) .nil)))))) (.cons (.same rfl rfl (OBnd.rwl (nl rfl) rfl (.cons .cl (.cons .cl (.cons .cl (.cons .cl .nil)))))) .nil)))) (.cons rfl (.same _ (.ptr (nl rfl))) (.cons rfl (.same _ (.ptr (nl rfl))) (.cons rfl (.same _ .cl) (.cons rfl (.same _ (.ptr (nl rfl))) (.cons rfl (.same _ .cl) (.cons rfl (.same _ .cl) (.cons rfl (.same _ .cl) .nil)))))))
                        · refine R ?_;refine ⟨_, .refl, nl rfl, ?_⟩;refine R ?_;refine pw_seq ?_;refine R ?_;refine pw_seq ?_;refine R ?_;refine nth_o (l := y88) h92 (fun x135 _ h92 => ?_);refine R ?_;obtain ⟨y136, h137, h92⟩ := obnd_some h92;refine (c394 h137).go ?_;refine R ?_;refine pw_seq ?_
                          obtain ⟨r138, h139, h92⟩ := obnd_some h92;refine pw_join (ρ := Bool) (fun e => ⟨[(0, (VS 1 (y88.map eS))), (6, (pV 7 0)), (7, (iV y136.1)), (14, (VT 2 [(.agg ⟨[(pV 3 0), (.bool true)]⟩), (.agg ⟨[(pV 3 1), (.bool true)]⟩), (.agg ⟨[(pV 3 2), (.bool true)]⟩)] 4)), (15, (iV 3)), (16, (iV 2)), (57, (.bool e))], ⟨8, [(7, .rw [(pV 3 2), (.bool true)]), (6, .rw [(pV 3 1), (.bool true)]), (5, .rw [(pV 3 0), (.bool true)]), (4, .tail 3 2), (3, .rw [(iV y96.1), (iV y116.1), (iV 0)]), (2, .tail (e78.2.2.map e_III).length 3), (1, .rw [(iV r4.2.1), (iV r4.2.2.1), (iV r4.2.2.2), (VT 3 (e78.2.2.map e_III) 2)]), (0, .rw [(iV 0), (iV 0), (iV 0), (.slice none 0 0)])], false⟩⟩) r138 ?_ ?_
                          · refine R ?_;refine oite_o2 h139 (fun g142 h139 => ?_) (fun g142 h139 => ?_)
                            · rw [ifv_t g142];refine R ?_;refine nth_o (l := y88) h139 (fun x143 _ h139 => ?_);refine R ?_;obtain ⟨y144, h145, h139⟩ := obnd_some h139;refine (c385 h145).go ?_;refine R ?_;refine aR ?_;refine R ?_;refine pbr_oite h139 (fun g146 h139 => ?_) (fun g146 h139 => ?_)
                              · refine R ?_;cases h139;exact cr
                              · refine R ?_;refine pbr_oite h139 (fun g147 h139 => ?_) (fun g147 h139 => ?_)
                                · refine R ?_;refine nth_o (l := y88) h139 (fun x148 _ h139 => ?_);refine R ?_;obtain ⟨y149, h150, h139⟩ := obnd_some h139;refine (c395 h150).go ?_;refine R ?_;refine aR ?_;refine R ?_;cases h139;exact cr
                                · refine R ?_;refine nth_o (l := y88) h139 (fun x151 _ h139 => ?_);refine R ?_;obtain ⟨y152, h153, h139⟩ := obnd_some h139;refine (c395 h153).go ?_;refine R ?_;refine aR ?_;refine R ?_;cases h139;exact cr
                            · rw [ifv_f g142];refine R ?_;cases h139;exact cr
                          · refine pw_cond ?_;(conv=>whnf);refine pbr_oite h92 (fun g154 h92 => ?_) (fun g154 h92 => ?_)
                            · (conv=>whnf);refine pwa ?_;(conv=>whnf);refine pw_ret ?_;(conv=>whnf);refine po_ops 2 ?_;(conv=>whnf);refine po_all ?_;(conv=>whnf);cases h92;obtain rfl := h94 _ rfl;exact Recast.fz (fun _ => false) (nl rfl) (.cons (.same rfl rfl (OBnd.rwl (nl rfl) rfl (.cons .cl (.cons .cl (.cons .cl .nil))))) (.cons (.same rfl rfl (OBnd.tail (nl rfl))) (.cons (.same rfl rfl (OBnd.rwl (nl rfl) rfl (.cons .cl (.cons .cl (.cons .cl (.cons (.vt (nl rfl)) .nil)))))) (.cons (.same rfl rfl (OBnd.rwl (nl rfl) rfl (.cons .cl (.cons .cl (.cons .cl (.cons .cl .nil)))))) .nil)))) (.cons rfl (.same _ (.ptr (nl rfl))) (.cons rfl (.same _ (.ptr (nl rfl))) (.cons rfl (.same _ .cl) (.cons rfl (.same _ (.ptr (nl rfl))) (.cons rfl (.same _ .cl) (.cons rfl (.same _ .cl) (.cons rfl (.same _ .cl) .nil)))))))
                            · refine R ?_;refine ⟨_, .refl, nl rfl, ?_⟩;refine R ?_;refine pw_seq ?_;refine R ?_;cases h92;exact ⟨_, rfl, cr⟩
                · intro r155 hr; have h85 := h93 _ hr;refine pwa ?_;(conv=>whnf);refine pw_ret ?_;(conv=>whnf);refine po_ops 2 ?_;(conv=>whnf);refine po_all ?_;(conv=>whnf);cases h85;exact Recast.fz (fun _ => false) (nl rfl) (.cons (.same rfl rfl (OBnd.rwl (nl rfl) rfl (.cons .cl (.cons .cl (.cons .cl .nil))))) (.cons (.same rfl rfl (OBnd.tail (nl rfl))) (.cons (.same rfl rfl (OBnd.rwl (nl rfl) rfl (.cons .cl (.cons .cl (.cons .cl (.cons (.vt (nl rfl)) .nil)))))) (.cons (.same rfl rfl (OBnd.rwl (nl rfl) rfl (.cons .cl (.cons .cl (.cons .cl (.cons .cl .nil)))))) .nil)))) (.cons rfl (.same _ (.ptr (nl rfl))) (.cons rfl (.same _ (.ptr (nl rfl))) (.cons rfl (.same _ .cl) (.cons rfl (.same _ (.ptr (nl rfl))) (.cons rfl (.same _ .cl) (.cons rfl (.same _ .cl) (.cons rfl (.same _ .cl) .nil)))))))
            · refine R ?_;refine app_o (l := e78.2.2) (m := ([(r84.2.1, r84.2.2.1, r84.2.2.2)] : List (Int × Int × Int))) (f := e_III) h80 (by rfl) (by rfl) (by rfl) (fun h80 => ?_);refine R ?_;cases h80;refine ⟨_, rfl, ?_⟩;exact rfz
          · refine R ?_;cases h80;refine ⟨_, rfl, ?_⟩;rintro rfl;refine R ?_;exact cr
      · refine pw_seq ?_;refine R ?_;refine pbr_oite H (fun g157 H => ?_) (fun g157 H => ?_)
        · refine R ?_;cases H;show ∃ D, Fz _ D 0 (.tuple ⟨[(.agg ⟨[(iV 0), (iV 0), (iV 0), (.slice none 0 0)]⟩), (iV 7)]⟩) _;exact ⟨fun _ => false, .tuplel (.cons (.aggl (.cons .cl (.cons .cl (.cons .cl (.cons (.nil _) (.nil)))))) (.cons .cl (.nil)))⟩
        · refine R ?_;cases H;show ∃ D, Fz _ D 0 (.tuple ⟨[(.agg ⟨[(iV r4.2.1), (iV r4.2.2.1), (iV r4.2.2.2), (VT 3 _ 2)]⟩), (iV 0)]⟩) _;exact ⟨fun _ => false, .tuplel (.cons (.aggl (.cons .cl (.cons .cl (.cons .cl (.cons .vtc (.nil)))))) (.cons .cl (.nil)))⟩
noncomputable def f468 [LO]  (a0 : Int) (a1 : Int) (a2 : List (ByteArray × Int × Int × Int)) (a3 : Int) (a4 : Int) (a5 : List (ByteArray × Int × Int × Int)) : Option Bool :=
 obnd (
 obnd (
 oite ((!(ieq a0 a3))) (
 some true
 ) (
 some (!(ieq a1 a4)))
 ) fun (r5 : Bool) =>
 oite r5 (
 some true
 ) (
 some (!(ieq ((a2.map e_SIII).length : Int) ((a5.map e_SIII).length : Int))))
 ) fun (r1 : Bool) =>
 oite r1 (
 some false
 ) (
 obndS (
 oloop (τ := Int) (ρ := (Unit) ⊕ Bool) (fun e14 =>
 oite ((ilt e14 ((a2.map e_SIII).length : Int))) (
 ogrd ((ile 0 e14)) (
 obnd (a2[e14.toNat]?) fun (x19 : ByteArray × Int × Int × Int) =>
 obnd (a5[e14.toNat]?) fun (x20 : ByteArray × Int × Int × Int) =>
 oite ((!((x19.1 == x20.1) && ((ieq x19.2.1 x20.2.1) && ((ieq x19.2.2.1 x20.2.2.1) && ((ieq x19.2.2.2 x20.2.2.2) && true)))))) (
 some (.inr (.inr (false)))
 ) (
 some (.inl (IntKind.i64.wrap (e14 + (1 : Int))))))
 ) (
 some (.inr (.inl ())))
 ) (0 : Int)
 ) fun (_ : Unit) =>
 some true)
theorem c468 [LO]  {a0 : Int} {a1 : Int} {a2 : List (ByteArray × Int × Int × Int)} {a3 : Int} {a4 : Int} {a5 : List (ByteArray × Int × Int × Int)} {x : Bool} (H : f468 a0 a1 a2 a3 a4 a5 = some x) : ICalls E 468 [(.agg ⟨[(iV a0), (iV a1), (VS 4 (a2.map e_SIII))]⟩), (.agg ⟨[(iV a3), (iV a4), (VS 4 (a5.map e_SIII))]⟩)] AHeap.none fun v _ => v = (.bool x) := by
 refine icalls_fn (pfnw ?_);unfold f468 at H;refine R ?_;refine pw_seq ?_;obtain ⟨r1, h2, H⟩ := obnd_some H;refine pw_join (ρ := Bool) (fun e => ⟨[(2, (pV 0 0)), (3, (pV 1 0)), (26, (.bool e))], ⟨2, [(1, .rw [(iV a3), (iV a4), (VS 4 (a5.map e_SIII))]), (0, .rw [(iV a0), (iV a1), (VS 4 (a2.map e_SIII))])], false⟩⟩) r1 ?_ ?_
 · refine pw_ops ?_;refine po_ops 6 ?_;(conv=>whnf);obtain ⟨r5, h6, h2⟩ := obnd_some h2;refine po_seg (τ := Bool) 6 (fun e => ⟨[(2, (pV 0 0)), (3, (pV 1 0)), (17, (.bool e))], ⟨2, [(1, .rw [(iV a3), (iV a4), (VS 4 (a5.map e_SIII))]), (0, .rw [(iV a0), (iV a1), (VS 4 (a2.map e_SIII))])], false⟩⟩) r5 ?_ ?_
   · refine R ?_;refine pbr_oite h6 (fun g7 h6 => ?_) (fun g7 h6 => ?_)
     · refine R ?_;cases h6;exact cr
     · refine R ?_;cases h6;exact cr
   · refine R ?_;refine pbr_oite h2 (fun g8 h2 => ?_) (fun g8 h2 => ?_)
     · refine R ?_;cases h2;exact cr
     · refine R ?_;cases h2;exact cr
 · refine R ?_;refine pbr_oite H (fun g9 H => ?_) (fun g9 H => ?_)
   · refine R ?_;cases H;rfl
   · refine R ?_;obtain ⟨r10, h11, h12, h13⟩ := obndS_some H;refine pw_joinS (ρ := Unit) (fun e => ⟨[], ⟨2, [(1, .rw [(iV a3), (iV a4), (VS 4 (a5.map e_SIII))]), (0, .rw [(iV a0), (iV a1), (VS 4 (a2.map e_SIII))])], false⟩⟩) r10 ?_ ?_
     · refine R ?_;refine pw_loop (τ := Int) (fun e => ⟨[(2, (pV 0 0)), (3, (pV 1 0)), (5, (iV e))], ⟨2, [(1, .rw [(iV a3), (iV a4), (VS 4 (a5.map e_SIII))]), (0, .rw [(iV a0), (iV a1), (VS 4 (a2.map e_SIII))])], false⟩⟩) h11 ?_ (fun _ => nl rfl) ?_
       · exact sb
       · intro e14 x15 h16;refine pw_seq ?_;refine R ?_;refine pbr_oite h16 (fun g17 h16 => ?_) (fun g17 h16 => ?_)
         · refine R ?_;refine pw_seq ?_;refine R ?_;refine pbr_ogrd h16 (fun g18 h16 => ?_);refine R ?_;refine nth_o (l := a2) h16 (fun x19 _ h16 => ?_);refine R ?_;refine nth_o (l := a5) h16 (fun x20 _ h16 => ?_);refine R ?_;refine pbr_oite h16 (fun g21 h16 => ?_) (fun g21 h16 => ?_)
           · refine R ?_;cases h16;refine ⟨_, rfl, ?_⟩;rintro rfl;refine R ?_;obtain rfl := h13 _ rfl;rfl
           · refine R ?_;cases h16;refine ⟨_, rfl, ?_⟩;exact sb
         · refine R ?_;cases h16;refine ⟨_, rfl, ?_⟩;rintro rfl;refine R ?_;exact ⟨_, rfl, cr⟩
     · intro r24 hr;have H := h12 _ hr;refine R ?_;cases H;rfl
noncomputable def f469 [LO]  (a0 : Int) (a1 : Int) (a2 : Int) (a3 : List (Int × Int × Int)) (a4 : Int) (a5 : Int) (a6 : Int) (a7 : List (Int × Int × Int)) : Option Bool :=
 obnd (
 obnd (
 oite ((!(ieq a0 a4))) (
 some true
 ) (
 some (!(ieq a1 a5)))
 ) fun (r5 : Bool) =>
 obnd (
 oite r5 (
 some true
 ) (
 some (!(ieq a2 a6)))
 ) fun (r8 : Bool) =>
 oite r8 (
 some true
 ) (
 some (!(ieq ((a3.map e_III).length : Int) ((a7.map e_III).length : Int))))
 ) fun (r1 : Bool) =>
 oite r1 (
 some false
 ) (
 obndS (
 oloop (τ := Int) (ρ := (Unit) ⊕ Bool) (fun e17 =>
 oite ((ilt e17 ((a3.map e_III).length : Int))) (
 ogrd ((ile 0 e17)) (
 obnd (a3[e17.toNat]?) fun (x22 : Int × Int × Int) =>
 obnd (a7[e17.toNat]?) fun (x23 : Int × Int × Int) =>
 oite ((!((ieq x22.1 x23.1) && ((ieq x22.2.1 x23.2.1) && ((ieq x22.2.2 x23.2.2) && true))))) (
 some (.inr (.inr (false)))
 ) (
 some (.inl (IntKind.i64.wrap (e17 + (1 : Int))))))
 ) (
 some (.inr (.inl ())))
 ) (0 : Int)
 ) fun (_ : Unit) =>
 some true)
theorem c469 [LO]  {a0 : Int} {a1 : Int} {a2 : Int} {a3 : List (Int × Int × Int)} {a4 : Int} {a5 : Int} {a6 : Int} {a7 : List (Int × Int × Int)} {x : Bool} (H : f469 a0 a1 a2 a3 a4 a5 a6 a7 = some x) : ICalls E 469 [(.agg ⟨[(iV a0), (iV a1), (iV a2), (VS 3 (a3.map e_III))]⟩), (.agg ⟨[(iV a4), (iV a5), (iV a6), (VS 3 (a7.map e_III))]⟩)] AHeap.none fun v _ => v = (.bool x) := by
 refine icalls_fn (pfnw ?_);unfold f469 at H;refine R ?_;refine pw_seq ?_;obtain ⟨r1, h2, H⟩ := obnd_some H;refine pw_join (ρ := Bool) (fun e => ⟨[(2, (pV 0 0)), (3, (pV 1 0)), (33, (.bool e))], ⟨2, [(1, .rw [(iV a4), (iV a5), (iV a6), (VS 3 (a7.map e_III))]), (0, .rw [(iV a0), (iV a1), (iV a2), (VS 3 (a3.map e_III))])], false⟩⟩) r1 ?_ ?_
 · refine pw_ops ?_;refine po_ops 6 ?_;(conv=>whnf);obtain ⟨r5, h6, h2⟩ := obnd_some h2;refine po_seg (τ := Bool) 6 (fun e => ⟨[(2, (pV 0 0)), (3, (pV 1 0)), (17, (.bool e))], ⟨2, [(1, .rw [(iV a4), (iV a5), (iV a6), (VS 3 (a7.map e_III))]), (0, .rw [(iV a0), (iV a1), (iV a2), (VS 3 (a3.map e_III))])], false⟩⟩) r5 ?_ ?_
   · refine R ?_;refine pbr_oite h6 (fun g7 h6 => ?_) (fun g7 h6 => ?_)
     · refine R ?_;cases h6;exact cr
     · refine R ?_;cases h6;exact cr
   · refine po_ops 1 ?_;(conv=>whnf);obtain ⟨r8, h9, h2⟩ := obnd_some h2;refine po_seg (τ := Bool) 6 (fun e => ⟨[(2, (pV 0 0)), (3, (pV 1 0)), (24, (.bool e))], ⟨2, [(1, .rw [(iV a4), (iV a5), (iV a6), (VS 3 (a7.map e_III))]), (0, .rw [(iV a0), (iV a1), (iV a2), (VS 3 (a3.map e_III))])], false⟩⟩) r8 ?_ ?_
     · refine R ?_;refine pbr_oite h9 (fun g10 h9 => ?_) (fun g10 h9 => ?_)
       · refine R ?_;cases h9;exact cr
       · refine R ?_;cases h9;exact cr
     · refine R ?_;refine pbr_oite h2 (fun g11 h2 => ?_) (fun g11 h2 => ?_)
       · refine R ?_;cases h2;exact cr
       · refine R ?_;cases h2;exact cr
 · refine R ?_;refine pbr_oite H (fun g12 H => ?_) (fun g12 H => ?_)
   · refine R ?_;cases H;rfl
   · refine R ?_;obtain ⟨r13, h14, h15, h16⟩ := obndS_some H;refine pw_joinS (ρ := Unit) (fun e => ⟨[], ⟨2, [(1, .rw [(iV a4), (iV a5), (iV a6), (VS 3 (a7.map e_III))]), (0, .rw [(iV a0), (iV a1), (iV a2), (VS 3 (a3.map e_III))])], false⟩⟩) r13 ?_ ?_
     · refine R ?_;refine pw_loop (τ := Int) (fun e => ⟨[(2, (pV 0 0)), (3, (pV 1 0)), (5, (iV e))], ⟨2, [(1, .rw [(iV a4), (iV a5), (iV a6), (VS 3 (a7.map e_III))]), (0, .rw [(iV a0), (iV a1), (iV a2), (VS 3 (a3.map e_III))])], false⟩⟩) h14 ?_ (fun _ => nl rfl) ?_
       · exact sb
       · intro e17 x18 h19;refine pw_seq ?_;refine R ?_;refine pbr_oite h19 (fun g20 h19 => ?_) (fun g20 h19 => ?_)
         · refine R ?_;refine pw_seq ?_;refine R ?_;refine pbr_ogrd h19 (fun g21 h19 => ?_);refine R ?_;refine nth_o (l := a3) h19 (fun x22 _ h19 => ?_);refine R ?_;refine nth_o (l := a7) h19 (fun x23 _ h19 => ?_);refine R ?_;refine pbr_oite h19 (fun g24 h19 => ?_) (fun g24 h19 => ?_)
           · refine R ?_;cases h19;refine ⟨_, rfl, ?_⟩;rintro rfl;refine R ?_;obtain rfl := h16 _ rfl;rfl
           · refine R ?_;cases h19;refine ⟨_, rfl, ?_⟩;exact sb
         · refine R ?_;cases h19;refine ⟨_, rfl, ?_⟩;rintro rfl;refine R ?_;exact ⟨_, rfl, cr⟩
     · intro r27 hr;have H := h15 _ hr;refine R ?_;cases H;rfl
noncomputable def f38  (a0 : List Int) : Option ((List Int)) :=
 ogrd (fits 8 (([] : List Int).length + a0.length)) (
 some (([] : List Int) ++ a0))
theorem c38  {a0 : List Int} {x : (List Int)} (H : f38 a0 = some x) : ICalls E 38 [(VS 1 (a0.map eI))] AHeap.none fun v _ => v = (VS 1 (x.map eI)) := by
 refine ICalls.frz ?_;refine icalls_fn (pfnw ?_);unfold f38 at H;refine R ?_;refine app_o (l := ([] : List Int)) (m := a0) (f := eI) H (by rfl) (by rfl) (by rfl) (fun H => ?_);refine R ?_;cases H;show ∃ D, Fz _ D 0 (VT 1 _ 0) _;exact ⟨fun _ => false, .vtc⟩
noncomputable def f222  (_ : Int) (_ : Int) (a2 : List (ByteArray × Int × Int × Int)) (_ : Int) (_ : Int) (_ : Int) (_ : List (Int × Int × Int)) (a7 : Int) : Option Bool :=
 obnd (f216 a7 (0 : Int) ((IntKind.i64.wrap (((a2.map e_SIII).length : Int) - (1 : Int))))) fun (y1 : Bool) =>
 some y1
theorem c222  {a0 : Int} {a1 : Int} {a2 : List (ByteArray × Int × Int × Int)} {a3 : Int} {a4 : Int} {a5 : Int} {a6 : List (Int × Int × Int)} {a7 : Int} {x : Bool} (H : f222 a0 a1 a2 a3 a4 a5 a6 a7 = some x) : ICalls E 222 [(.agg ⟨[(iV a0), (iV a1), (VS 4 (a2.map e_SIII)), (iV a3), (iV a4), (iV a5), (VS 3 (a6.map e_III))]⟩), (iV a7)] AHeap.none fun v _ => v = (.bool x) := by
 refine icalls_fn (pfnw ?_);unfold f222 at H;refine R ?_;obtain ⟨y1, h2, H⟩ := obnd_some H;refine (c216 h2).go ?_;refine R ?_;cases H;rfl
noncomputable def f240  (a0 : Int) (a1 : Int) (a2 : Int) (a3 : List (ByteArray × Int × Int × Int)) (a4 : Int) (a5 : Int) (a6 : Int) (a7 : List (Int × Int × Int)) : Option Bool :=
 obnd (f222 a1 a2 a3 a4 a5 a6 a7 a0) fun (y1 : Bool) =>
 some (!y1)
theorem c240  {a0 : Int} {a1 : Int} {a2 : Int} {a3 : List (ByteArray × Int × Int × Int)} {a4 : Int} {a5 : Int} {a6 : Int} {a7 : List (Int × Int × Int)} {x : Bool} (H : f240 a0 a1 a2 a3 a4 a5 a6 a7 = some x) : ICallV E (.func (.func (E.id 240)) ⟨[]⟩ ⟨[(VP (.agg ⟨[(iV a1), (iV a2), (VS 4 (a3.map e_SIII)), (iV a4), (iV a5), (iV a6), (VS 3 (a7.map e_III))]⟩) 0)]⟩) [(iV a0)] AHeap.none fun v _ => v = (.bool x) := by
 refine icallv_fn (pfnw ?_);unfold f240 at H;refine R ?_;obtain ⟨y1, h2, H⟩ := obnd_some H;refine (c222 h2).go ?_;refine R ?_;cases H;rfl
noncomputable def f241 [LO]  (a0 : Int) (a1 : Int) (a2 : List (ByteArray × Int × Int × Int)) (a3 : Int) (a4 : Int) (a5 : Int) (a6 : List (Int × Int × Int)) (a7 : List Int) : Option ((List Int) × Bool) :=
 obndS (
 oloop (τ := (List Int) × Int) (ρ := ((List Int)) ⊕ ((List Int) × Bool)) (fun e5 =>
 oite ((ilt e5.2 ((a7.map eI).length : Int))) (
 ogrd ((ile 0 e5.2)) (
 obnd (a7[e5.2.toNat]?) fun (x10 : Int) =>
 obnd (e5.1[e5.2.toNat]?) fun (x11 : Int) =>
 obnd (f242 a0 a1 a2 a3 a4 a5 a6 x11 e5.2 x10) fun (y12 : Int) =>
 obnd (f243 a0 a1 a2 a3 a4 a5 a6 y12) fun (y14 : Bool) =>
 oite (!y14) (
 some (.inr (.inr ((([] : List Int), false))))
 ) (
 ogrd (fits 8 (e5.1.length + ([y12] : List Int).length)) (
 some (.inl (((e5.1 ++ ([y12] : List Int)), (IntKind.i64.wrap (e5.2 + (1 : Int)))))))))
 ) (
 some (.inr (.inl e5.1)))
 ) ((([a3] : List Int), (0 : Int)))
 ) fun (r19 : (List Int)) =>
 some (r19, true)
theorem c241 [LO]  {a0 : Int} {a1 : Int} {a2 : List (ByteArray × Int × Int × Int)} {a3 : Int} {a4 : Int} {a5 : Int} {a6 : List (Int × Int × Int)} {a7 : List Int} {x : (List Int) × Bool} (H : f241 a0 a1 a2 a3 a4 a5 a6 a7 = some x) : ICalls E 241 [(.agg ⟨[(iV a0), (iV a1), (VS 4 (a2.map e_SIII)), (iV a3), (iV a4), (iV a5), (VS 3 (a6.map e_III))]⟩), (VS 1 (a7.map eI))] AHeap.none fun v _ => v = (.tuple ⟨[(VS 1 (x.1.map eI)), (.bool x.2)]⟩) := by
 refine ICalls.frz ?_;refine icalls_fn (pfnw ?_);unfold f241 at H;refine R ?_;obtain ⟨r1, h2, h3, h4⟩ := obndS_some H;refine pw_joinS (ρ := (List Int)) (fun e => ⟨[(6, (VT 1 (e.map eI) 1))], ⟨2, [(1, .tail (e.map eI).length 1), (0, .rw [(iV a0), (iV a1), (VS 4 (a2.map e_SIII)), (iV a3), (iV a4), (iV a5), (VS 3 (a6.map e_III))])], false⟩⟩) r1 ?_ ?_
 · refine R ?_;refine pw_loop (τ := (List Int) × Int) (fun e => ⟨[(2, (pV 0 0)), (6, (VT 1 (e.1.map eI) 1)), (14, (VS 1 (a7.map eI))), (15, (iV ((a7.map eI).length : Int))), (16, (iV e.2))], ⟨2, [(1, .tail (e.1.map eI).length 1), (0, .rw [(iV a0), (iV a1), (VS 4 (a2.map e_SIII)), (iV a3), (iV a4), (iV a5), (VS 3 (a6.map e_III))])], false⟩⟩) h2 ?_ (fun _ => nl rfl) ?_
   · exact sb
   · intro e5 x6 h7;refine R ?_;refine pw_seq ?_;refine R ?_;refine pbr_oite h7 (fun g8 h7 => ?_) (fun g8 h7 => ?_)
     · refine R ?_;refine pw_seq ?_;refine R ?_;refine pbr_ogrd h7 (fun g9 h7 => ?_);refine R ?_;refine nth_o (l := a7) h7 (fun x10 _ h7 => ?_);refine R ?_;refine nth_o (l := e5.1) h7 (fun x11 _ h7 => ?_);refine R ?_;obtain ⟨y12, h13, h7⟩ := obnd_some h7;refine (c242 h13).go ?_;refine R ?_;refine aR ?_;refine R ?_;refine pw_seq ?_;refine R ?_
       obtain ⟨y14, h15, h7⟩ := obnd_some h7;refine (c243 h15).go ?_;refine R ?_;refine pbr_oite h7 (fun g16 h7 => ?_) (fun g16 h7 => ?_)
       · refine R ?_;cases h7;refine ⟨_, rfl, ?_⟩;rintro rfl;refine R ?_;obtain rfl := h4 _ rfl;show ∃ D, Fz _ D 0 (.tuple ⟨[(.slice none 0 0), (.bool false)]⟩) _;exact ⟨fun _ => false, .tuplel (.cons (.nil _) (.cons .cl (.nil)))⟩
       · refine R ?_;refine app_o (l := e5.1) (m := ([y12] : List Int)) (f := eI) h7 (by rfl) (by rfl) (by rfl) (fun h7 => ?_);refine R ?_;cases h7;refine ⟨_, rfl, ?_⟩;refine Recast.trunc (nl rfl) ?_ ?_
         · repeat (first | exact .nil | refine .cons rfl (by first | exact OBnd.rwc (nl rfl) rfl | exact OBnd.tail (nl rfl) | trivial) ?_)
         · repeat (first | exact .nil | refine .cons rfl (by first | exact Bnd.ptr (nl rfl) | exact Bnd.vt (nl rfl) | exact Bnd.cl) ?_)
     · refine R ?_;cases h7;refine ⟨_, rfl, ?_⟩;rintro rfl;refine R ?_;exact ⟨_, rfl, cr⟩
 · intro r19 hr;have H := h3 _ hr;refine R ?_;cases H;show ∃ D, Fz _ D 0 (.tuple ⟨[(VT 1 _ 1), (.bool true)]⟩) _;exact ⟨fun _ => false, .tuplel (.cons .vtc (.cons .cl (.nil)))⟩
noncomputable def f221 [LO]  (a0 : Int) (a1 : Int) (a2 : List (ByteArray × Int × Int × Int)) (a3 : Int) (a4 : Int) (a5 : Int) (a6 : List (Int × Int × Int)) (a7 : List Int) : Option (Int × Int × (List (ByteArray × Int × Int × Int)) × Int × Int × Int × (List (Int × Int × Int)) × (List Int) × Int) :=
 obnd (f219 a0 a1 a2 a3 a4 a5 a6) fun (y1 : Int × Int × (List (ByteArray × Int × Int × Int)) × Int × Int × Int × (List (Int × Int × Int)) × Int) =>
 obnd (f80 (fun (z0 : Int) => f240 z0 y1.1 y1.2.1 y1.2.2.1 y1.2.2.2.1 y1.2.2.2.2.1 y1.2.2.2.2.2.1 y1.2.2.2.2.2.2.1) a7) fun (y3 : Bool) =>
 obnd (f214 ((ieq ((a7.map eI).length : Int) ((a6.map e_III).length : Int))) (10 : Int)) fun (y5 : Int) =>
 obnd (f214 (!y3) (6 : Int)) fun (y7 : Int) =>
 obnd (f213 ([y1.2.2.2.2.2.2.2, y5, y7] : List Int)) fun (y9 : Int) =>
 oite ((!(ieq y9 (0 : Int)))) (
 some (y1.1, y1.2.1, y1.2.2.1, y1.2.2.2.1, y1.2.2.2.2.1, y1.2.2.2.2.2.1, y1.2.2.2.2.2.2.1, ([] : List Int), y9)
 ) (
 obnd (f241 y1.1 y1.2.1 y1.2.2.1 y1.2.2.2.1 y1.2.2.2.2.1 y1.2.2.2.2.2.1 y1.2.2.2.2.2.2.1 a7) fun (y12 : (List Int) × Bool) =>
 obnd (f214 y12.2 (22 : Int)) fun (y14 : Int) =>
 some (y1.1, y1.2.1, y1.2.2.1, y1.2.2.2.1, y1.2.2.2.2.1, y1.2.2.2.2.2.1, y1.2.2.2.2.2.2.1, y12.1, y14))
theorem c221 [LO]  {a0 : Int} {a1 : Int} {a2 : List (ByteArray × Int × Int × Int)} {a3 : Int} {a4 : Int} {a5 : Int} {a6 : List (Int × Int × Int)} {a7 : List Int} {x : Int × Int × (List (ByteArray × Int × Int × Int)) × Int × Int × Int × (List (Int × Int × Int)) × (List Int) × Int} (H : f221 a0 a1 a2 a3 a4 a5 a6 a7 = some x) : ICalls E 221 [(.agg ⟨[(iV a0), (iV a1), (VS 4 (a2.map e_SIII))]⟩), (.agg ⟨[(iV a3), (iV a4), (iV a5), (VS 3 (a6.map e_III))]⟩), (VS 1 (a7.map eI))] AHeap.none fun v _ => v = (.tuple ⟨[(.agg ⟨[(iV x.1), (iV x.2.1), (VS 4 (x.2.2.1.map e_SIII)), (iV x.2.2.2.1), (iV x.2.2.2.2.1), (iV x.2.2.2.2.2.1), (VS 3 (x.2.2.2.2.2.2.1.map e_III))]⟩), (VS 1 (x.2.2.2.2.2.2.2.1.map eI)), (iV x.2.2.2.2.2.2.2.2)]⟩) := by
 refine ICalls.frz ?_;refine icalls_fn (pfnw ?_);unfold f221 at H;refine R ?_;obtain ⟨y1, h2, H⟩ := obnd_some H;refine (c219 h2).go ?_;refine R ?_;obtain ⟨y3, h4, H⟩ := obnd_some H;refine ICalls.goD (c80 (fun _ _ h => (c240 h)) h4) (.cons .cl (.cons (.func .nil (.cons (.ptr rfl (by intro v hv; simp only [List.mem_cons, List.not_mem_nil, or_false] at hv; rcases hv with rfl | rfl | rfl | rfl | rfl | rfl | rfl <;> rfl)) .nil)) .nil)) rfl ?_;refine R ?_;refine pw_seq ?_
 refine R ?_;obtain ⟨y5, h6, H⟩ := obnd_some H;refine (c214 h6).go ?_;refine R ?_;obtain ⟨y7, h8, H⟩ := obnd_some H;refine (c214 h8).go ?_;refine R ?_;obtain ⟨y9, h10, H⟩ := obnd_some H;refine ICalls.goW (c213 h10) (.cons (.vt _ _ _) .nil) ?_;refine R ?_;refine pbr_oite H (fun g11 H => ?_) (fun g11 H => ?_)
 · refine R ?_;cases H;show ∃ D, Fz _ D 0 (.tuple ⟨[(.agg ⟨[(iV y1.1), (iV y1.2.1), (VS 4 _), (iV y1.2.2.2.1), (iV y1.2.2.2.2.1), (iV y1.2.2.2.2.2.1), (VS 3 _)]⟩), (.slice none 0 0), (iV y9)]⟩) _;exact ⟨fun _ => false, .tuplel (.cons .cl (.cons (.nil _) (.cons .cl (.nil))))⟩
 · refine R ?_;obtain ⟨y12, h13, H⟩ := obnd_some H;refine (c241 h13).go ?_;refine R ?_;obtain ⟨y14, h15, H⟩ := obnd_some H;refine (c214 h15).go ?_;refine R ?_;refine aR ?_;refine R ?_;refine aR ?_;refine R ?_;cases H;show ∃ D, Fz _ D 0 (.tuple ⟨[(.agg ⟨[(iV y1.1), (iV y1.2.1), (VS 4 _), (iV y1.2.2.2.1), (iV y1.2.2.2.2.1), (iV y1.2.2.2.2.2.1), (VS 3 _)]⟩), (VS 1 _), (iV y14)]⟩) _
   exact ⟨fun _ => false, .tuplel (.cons .cl (.cons .cl (.cons .cl (.nil))))⟩
noncomputable def f322 [LO]  (a0 : Int) (a1 : Int) (a2 : List (ByteArray × Int × Int × Int)) (a3 : Int) (a4 : Int) (a5 : Int) (a6 : List (Int × Int × Int)) (a7 : List Int) : Option ((List Int) × Int) :=
 obnd (f221 a0 a1 a2 a3 a4 a5 a6 a7) fun (y1 : Int × Int × (List (ByteArray × Int × Int × Int)) × Int × Int × Int × (List (Int × Int × Int)) × (List Int) × Int) =>
 some (y1.2.2.2.2.2.2.2.1, y1.2.2.2.2.2.2.2.2)
theorem c322 [LO]  {a0 : Int} {a1 : Int} {a2 : List (ByteArray × Int × Int × Int)} {a3 : Int} {a4 : Int} {a5 : Int} {a6 : List (Int × Int × Int)} {a7 : List Int} {x : (List Int) × Int} (H : f322 a0 a1 a2 a3 a4 a5 a6 a7 = some x) : ICalls E 322 [(.agg ⟨[(iV a0), (iV a1), (VS 4 (a2.map e_SIII))]⟩), (.agg ⟨[(iV a3), (iV a4), (iV a5), (VS 3 (a6.map e_III))]⟩), (VS 1 (a7.map eI))] AHeap.none fun v _ => v = (.tuple ⟨[(VS 1 (x.1.map eI)), (iV x.2)]⟩) := by
 refine ICalls.frz ?_;refine icalls_fn (pfnw ?_);unfold f322 at H;refine R ?_;obtain ⟨y1, h2, H⟩ := obnd_some H;refine (c221 h2).go ?_;refine R ?_;cases H;show ∃ D, Fz _ D 0 (.tuple ⟨[(VS 1 _), (iV y1.2.2.2.2.2.2.2.2)]⟩) _;exact ⟨fun _ => false, .tuplel (.cons .cl (.cons .cl (.nil)))⟩
noncomputable def f346  (a0 : Int) (a1 : Int) : Option Int :=
 ogrd (!((ieq a1 0))) (
 oite ((ilt (a0.tmod a1) (0 : Int))) (
 some (IntKind.i64.wrap ((a0.tmod a1) + a1))
 ) (
 some (a0.tmod a1)))
theorem c346  {a0 : Int} {a1 : Int} {x : Int} (H : f346 a0 a1 = some x) : ICalls E 346 [(iV a0), (iV a1)] AHeap.none fun v _ => v = (iV x) := by
 refine icalls_fn (pfnw ?_);unfold f346 at H;refine R ?_;refine pbr_ogrdn H (fun g1 H => ?_);refine R ?_;refine pw_seq ?_;refine R ?_;refine pbr_oite H (fun g2 H => ?_) (fun g2 H => ?_)
 · refine R ?_;cases H;rfl
 · refine R ?_;cases H;rfl
noncomputable def f352 [LO]  (a0 : Int) (a1 : Int) (a2 : List (ByteArray × Int × Int × Int)) (a3 : Int) (a4 : Int) (a5 : Int) (a6 : List (Int × Int × Int)) (a7 : List Int) (a8 : List Int) : Option Int :=
 ogrd ((ile 0 (IntKind.i64.wrap (((a8.map eI).length : Int) - (1 : Int))))) (
 obnd (a8[(IntKind.i64.wrap (((a8.map eI).length : Int) - (1 : Int))).toNat]?) fun (x2 : Int) =>
 obnd (
 oloop (τ := Int × Int × Int) (ρ := Int) (fun e7 =>
 oite ((ilt e7.2.1 ((a7.map eI).length : Int))) (
 ogrd ((ile 0 e7.2.1)) (
 obnd (a7[e7.2.1.toNat]?) fun (x12 : Int) =>
 obnd (f239 a0 a1 a2 a3 a4 a5 a6 e7.2.1 e7.1 x12) fun (y13 : Int) =>
 some (.inl ((x12, (IntKind.i64.wrap (e7.2.1 + (1 : Int))), (IntKind.i64.wrap (e7.2.2 + y13))))))
 ) (
 some (.inr (e7.2.2)))
 ) ((a4, (0 : Int), (IntKind.i64.wrap (a5 * x2))))
 ) fun (r3 : Int) =>
 some r3)
theorem c352 [LO]  {a0 : Int} {a1 : Int} {a2 : List (ByteArray × Int × Int × Int)} {a3 : Int} {a4 : Int} {a5 : Int} {a6 : List (Int × Int × Int)} {a7 : List Int} {a8 : List Int} {x : Int} (H : f352 a0 a1 a2 a3 a4 a5 a6 a7 a8 = some x) : ICalls E 352 [(.agg ⟨[(iV a0), (iV a1), (VS 4 (a2.map e_SIII)), (iV a3), (iV a4), (iV a5), (VS 3 (a6.map e_III))]⟩), (VS 1 (a7.map eI)), (VS 1 (a8.map eI))] AHeap.none fun v _ => v = (iV x) := by
 refine icalls_fn (pfnw ?_);unfold f352 at H;refine R ?_;refine pbr_ogrd H (fun g1 H => ?_);refine R ?_;refine nth_o (l := a8) H (fun x2 _ H => ?_);refine R ?_;refine aR ?_;refine R ?_;refine aR ?_;refine R ?_;obtain ⟨r3, h4, H⟩ := obnd_some H;refine pw_join (ρ := Int) (fun e => ⟨[(7, (pV 1 0))], ⟨5, [(4, .dead), (3, .rw [(VS 1 (a7.map eI))]), (2, .rw [(iV a0), (iV a1), (VS 4 (a2.map e_SIII)), (iV a3), (iV a4), (iV a5), (VS 3 (a6.map e_III))]), (1, .rw [(iV e)]), (0, .rw [(iV a0), (iV a1), (VS 4 (a2.map e_SIII)), (iV a3), (iV a4), (iV a5), (VS 3 (a6.map e_III))])], false⟩⟩) r3 ?_ ?_
 · refine R ?_;refine pcalls_in ?_;refine R ?_;refine pw_range [3, 7, 22] ?_;refine R ?_;refine pcallv_in ?_;refine R ?_;refine pw_loop (τ := Int × Int × Int) (fun e => ⟨[(0, (.func (.yield 4) #[] #[])), (4, (iV e.1)), (10, (VS 1 (a7.map eI))), (11, (iV ((a7.map eI).length : Int))), (12, (iV e.2.1))], ⟨5, [(4, .loop ⟨.ready, none, [(3, (pV 0 0)), (7, (pV 1 0)), (22, (.func (.func (E.id 367)) ⟨[]⟩ ⟨[(pV 2 0), (pV 3 0)]⟩))], 35, #[23, 24], (rng 54 0).1, (rng 54 0).2⟩), (3, .rw [(VS 1 (a7.map eI))]), (2, .rw [(iV a0), (iV a1), (VS 4 (a2.map e_SIII)), (iV a3), (iV a4), (iV a5), (VS 3 (a6.map e_III))]), (1, .rw [(iV e.2.2)]), (0, .rw [(iV a0), (iV a1), (VS 4 (a2.map e_SIII)), (iV a3), (iV a4), (iV a5), (VS 3 (a6.map e_III))])], false⟩⟩) h4 ?_ (fun _ => nl rfl) ?_
   · exact sb
   · intro e7 x8 h9;refine R ?_;refine pw_seq ?_;refine R ?_;refine pbr_oite h9 (fun g10 h9 => ?_) (fun g10 h9 => ?_)
     · refine R ?_;refine pw_seq ?_;refine R ?_;refine pbr_ogrd h9 (fun g11 h9 => ?_);refine R ?_;refine nth_o (l := a7) h9 (fun x12 _ h9 => ?_);refine R ?_;refine pw_seq ?_;refine R ?_;refine pcallv_yield ir352a0 ir352b0 rfl rfl ra352_0 rb352_0 ⟨_, _, _, _, rfl⟩ ?_;refine R ?_;obtain ⟨y13, h14, h9⟩ := obnd_some h9
       refine (c239 h14).go ?_;refine R ?_;refine aR ?_;refine R ?_;refine aR ?_;refine R ?_;cases h9;refine ⟨_, rfl, ?_⟩;exact Recast.fz (fun _ => false) (nl rfl) (.cons (.same rfl rfl (OBnd.loop (nl rfl) (.cons (.ptr (nl rfl)) (.cons (.ptr (nl rfl)) (.cons (.funcl .nil (.cons (.ptr (nl rfl)) (.cons (.ptr (nl rfl)) .nil))) .nil))))) (.cons (.same rfl rfl (OBnd.rwl (nl rfl) rfl (.cons .cl .nil))) (.cons (.same rfl rfl (OBnd.rwl (nl rfl) rfl (.cons .cl (.cons .cl (.cons .cl (.cons .cl (.cons .cl (.cons .cl (.cons .cl .nil))))))))) (.cons (.same rfl rfl (OBnd.rwl (nl rfl) rfl (.cons .cl .nil))) (.cons (.same rfl rfl (OBnd.rwl (nl rfl) rfl (.cons .cl (.cons .cl (.cons .cl (.cons .cl (.cons .cl (.cons .cl (.cons .cl .nil))))))))) .nil))))) (.cons rfl (.same _ (.yield (nl rfl))) (.cons rfl (.same _ .cl) (.cons rfl (.same _ .cl) (.cons rfl (.same _ .cl) (.cons rfl (.same _ .cl) .nil)))))
     · refine R ?_;cases h9;refine ⟨_, rfl, ?_⟩;rintro rfl;refine R ?_;exact cr
 · refine R ?_;cases H;rfl
noncomputable def f323 [LO]  (a0 : Int) (a1 : Int) (a2 : List (ByteArray × Int × Int × Int)) (a3 : Int) (a4 : Int) (a5 : Int) (a6 : List (Int × Int × Int)) (a7 : List Int) : Option (Int × Int) :=
 obnd (f221 a0 a1 a2 a3 a4 a5 a6 a7) fun (y1 : Int × Int × (List (ByteArray × Int × Int × Int)) × Int × Int × Int × (List (Int × Int × Int)) × (List Int) × Int) =>
 oite ((!(ieq y1.2.2.2.2.2.2.2.2 (0 : Int)))) (
 some ((0 : Int), y1.2.2.2.2.2.2.2.2)
 ) (
 obnd (f352 y1.1 y1.2.1 y1.2.2.1 y1.2.2.2.1 y1.2.2.2.2.1 y1.2.2.2.2.2.1 y1.2.2.2.2.2.2.1 a7 y1.2.2.2.2.2.2.2.1) fun (y4 : Int) =>
 some (y4, (0 : Int)))
theorem c323 [LO]  {a0 : Int} {a1 : Int} {a2 : List (ByteArray × Int × Int × Int)} {a3 : Int} {a4 : Int} {a5 : Int} {a6 : List (Int × Int × Int)} {a7 : List Int} {x : Int × Int} (H : f323 a0 a1 a2 a3 a4 a5 a6 a7 = some x) : ICalls E 323 [(.agg ⟨[(iV a0), (iV a1), (VS 4 (a2.map e_SIII))]⟩), (.agg ⟨[(iV a3), (iV a4), (iV a5), (VS 3 (a6.map e_III))]⟩), (VS 1 (a7.map eI))] AHeap.none fun v _ => v = (.tuple ⟨[(iV x.1), (iV x.2)]⟩) := by
 refine icalls_fn (pfnw ?_);unfold f323 at H;refine R ?_;obtain ⟨y1, h2, H⟩ := obnd_some H;refine (c221 h2).go ?_;refine R ?_;refine pw_seq ?_;refine R ?_;refine pbr_oite H (fun g3 H => ?_) (fun g3 H => ?_)
 · refine R ?_;cases H;rfl
 · refine R ?_;obtain ⟨y4, h5, H⟩ := obnd_some H;refine (c352 h5).go ?_;refine R ?_;cases H;rfl
noncomputable def f345  (a0 : Int) (a1 : Int) (a2 : List (ByteArray × Int × Int × Int)) (a3 : Int) (a4 : Int) (a5 : Int) (a6 : List (Int × Int × Int)) : Option ((List ((List Int))) × Int) :=
 obnd (f206 a0 a1 a2 a3 a4 a5 a6) fun (y1 : (List Int) × Int × Int) =>
 oite ((!(ieq y1.2.2 (0 : Int)))) (
 some (([] : List ((List Int))), y1.2.2)
 ) (
 obnd (f229 a0 a1 a2 a3 a4 a5 a6 (-1 : Int) (0 : Int)) fun (y4 : (List ((List Int)))) =>
 some (y4, (0 : Int)))
theorem c345  {a0 : Int} {a1 : Int} {a2 : List (ByteArray × Int × Int × Int)} {a3 : Int} {a4 : Int} {a5 : Int} {a6 : List (Int × Int × Int)} {x : (List ((List Int))) × Int} (H : f345 a0 a1 a2 a3 a4 a5 a6 = some x) : ICalls E 345 [(.agg ⟨[(iV a0), (iV a1), (VS 4 (a2.map e_SIII))]⟩), (.agg ⟨[(iV a3), (iV a4), (iV a5), (VS 3 (a6.map e_III))]⟩)] AHeap.none fun v _ => v = (.tuple ⟨[(VS 1 (x.1.map e_L1I)), (iV x.2)]⟩) := by
 refine ICalls.frz ?_;refine icalls_fn (pfnw ?_);unfold f345 at H;refine R ?_;refine pw_seq ?_;refine R ?_;obtain ⟨y1, h2, H⟩ := obnd_some H;refine (c206 h2).go ?_;refine R ?_;refine pbr_oite H (fun g3 H => ?_) (fun g3 H => ?_)
 · refine R ?_;cases H;show ∃ D, Fz _ D 0 (.tuple ⟨[(.slice none 0 0), (iV y1.2.2)]⟩) _;exact ⟨fun _ => false, .tuplel (.cons (.nil _) (.cons .cl (.nil)))⟩
 · refine R ?_;obtain ⟨y4, h5, H⟩ := obnd_some H;refine (c229 h5).go ?_;refine R ?_;cases H;show ∃ D, Fz _ D 0 (.tuple ⟨[(VS 1 _), (iV 0)]⟩) _;exact ⟨fun _ => false, .tuplel (.cons .cl (.cons .cl (.nil)))⟩
noncomputable def f368 [LO] (p0 : (List Int) → Option Bool) (a0 : List ((List Int))) : Option Int :=
 obndS (
 oloop (τ := Int) (ρ := (Unit) ⊕ Int) (fun e5 =>
 oite ((ilt e5 ((a0.map e_L1I).length : Int))) (
 ogrd ((ile 0 e5)) (
 obnd (a0[e5.toNat]?) fun (x10 : (List Int)) =>
 obnd (p0 x10) fun (y11 : Bool) =>
 oite y11 (
 some (.inr (.inr (e5)))
 ) (
 some (.inl (IntKind.i64.wrap (e5 + (1 : Int))))))
 ) (
 some (.inr (.inl ())))
 ) (0 : Int)
 ) fun (_ : Unit) =>
 some (-1 : Int)
theorem c368 [LO] {p0 : (List Int) → Option Bool} {a0 : List ((List Int))} {g0 : Value} [Cl g0] (hp0 : ∀ y0 y, p0 y0 = some y → ICallV E g0 [(VS 1 (y0.map eI))] AHeap.none fun v _ => v = (.bool y)) {x : Int} (H : f368 p0 a0 = some x) : ICalls E 368 [(VS 1 (a0.map e_L1I)), g0] AHeap.none fun v _ => v = (iV x) := by
 refine icalls_fn (pfnw ?_);unfold f368 at H;refine R ?_;obtain ⟨r1, h2, h3, h4⟩ := obndS_some H;refine pw_joinS (ρ := Unit) (fun e => ⟨[], ⟨0, [], false⟩⟩) r1 ?_ ?_
 · refine R ?_;refine pw_loop (τ := Int) (fun e => ⟨[(0, (VS 1 (a0.map e_L1I))), (1, g0), (7, (iV ((a0.map e_L1I).length : Int))), (8, (iV e))], ⟨0, [], false⟩⟩) h2 ?_ (fun _ => nl rfl) ?_
   · exact sb
   · intro e5 x6 h7;refine R ?_;refine pw_seq ?_;refine R ?_;refine pbr_oite h7 (fun g8 h7 => ?_) (fun g8 h7 => ?_)
     · refine R ?_;refine pw_seq ?_;refine R ?_;refine pbr_ogrd h7 (fun g9 h7 => ?_);refine R ?_;refine nth_o (l := a0) h7 (fun x10 _ h7 => ?_);refine R ?_;obtain ⟨y11, h12, h7⟩ := obnd_some h7;refine ICallV.go (hp0 _ _ h12) ?_;refine R ?_;refine pbr_oite h7 (fun g13 h7 => ?_) (fun g13 h7 => ?_)
       · refine R ?_;cases h7;refine ⟨_, rfl, ?_⟩;rintro rfl;refine R ?_;obtain rfl := h4 _ rfl;rfl
       · refine R ?_;cases h7;refine ⟨_, rfl, ?_⟩;exact sb
     · refine R ?_;cases h7;refine ⟨_, rfl, ?_⟩;rintro rfl;refine R ?_;exact ⟨_, rfl, cr⟩
 · intro r16 hr;have H := h3 _ hr;refine R ?_;cases H;rfl
noncomputable def f357 [LO] (p0 : (List Int) → Option Bool) (a0 : List ((List Int))) : Option Bool :=
 obnd (f368 p0 a0) fun (y1 : Int) =>
 some (ile (0 : Int) y1)
theorem c357 [LO] {p0 : (List Int) → Option Bool} {a0 : List ((List Int))} {g0 : Value} [Cl g0] (hp0 : ∀ y0 y, p0 y0 = some y → ICallV E g0 [(VS 1 (y0.map eI))] AHeap.none fun v _ => v = (.bool y)) {x : Bool} (H : f357 p0 a0 = some x) : ICalls E 357 [(VS 1 (a0.map e_L1I)), g0] AHeap.none fun v _ => v = (.bool x) := by
 refine icalls_fn (pfnw ?_);unfold f357 at H;refine R ?_;obtain ⟨y1, h2, H⟩ := obnd_some H;refine (c368 hp0 h2).go ?_;refine R ?_;cases H;rfl
noncomputable def f358  (a0 : List Int) (a1 : Int) : Option Bool :=
 some (!(ieq ((a0.map eI).length : Int) a1))
theorem c358  {a0 : List Int} {a1 : Int} {x : Bool} (H : f358 a0 a1 = some x) : ICallV E (.func (.func (E.id 358)) ⟨[]⟩ ⟨[(VP (.agg ⟨[(iV a1)]⟩) 0)]⟩) [(VS 1 (a0.map eI))] AHeap.none fun v _ => v = (.bool x) := by
 refine icallv_fn (pfnw ?_);unfold f358 at H;refine R ?_;cases H;rfl
noncomputable def f359 [LO]  (a0 : List ((List Int))) : Option ((List Int)) :=
 obnd (
 oloop (τ := Int × Int) (ρ := Int) (fun e5 =>
 oite ((ilt e5.2 ((a0.map e_L1I).length : Int))) (
 ogrd ((ile 0 e5.2)) (
 obnd (a0[e5.2.toNat]?) fun (x10 : (List Int)) =>
 oite ((ilt (IntKind.i64.wrap (e5.1 + ((x10.map eI).length : Int))) (0 : Int))) (
 none
 ) (
 some (.inl (((IntKind.i64.wrap (e5.1 + ((x10.map eI).length : Int))), (IntKind.i64.wrap (e5.2 + (1 : Int))))))))
 ) (
 some (.inr (e5.1)))
 ) (((0 : Int), (0 : Int)))
 ) fun (r1 : Int) =>
 oite ((ilt r1 (0 : Int))) (
 none
 ) (
 oite ((ilt (0 : Int) (IntKind.i64.wrap (r1 - (0 : Int))))) (
 ogrd (mfits 8 (IntKind.i64.wrap (r1 - (0 : Int))) (IntKind.i64.wrap (r1 - (0 : Int)))) (
 ogrd (ile 1 (IntKind.i64.wrap (r1 - (0 : Int)))) (
 obnd (
 oloop (τ := Nat × Int × (List Int)) (ρ := Nat × (List Int)) (fun e21 =>
 oite ((ilt e21.2.1 ((a0.map e_L1I).length : Int))) (
 ogrd ((ile 0 e21.2.1)) (
 obnd (a0[e21.2.1.toNat]?) fun (x26 : (List Int)) =>
 ogrd (fits 8 (e21.1 + x26.length)) (
 ogrd (Nat.ble (e21.1 + x26.length) e21.2.2.length) (
 some (.inl (((e21.1 + x26.length), (IntKind.i64.wrap (e21.2.1 + (1 : Int))), (e21.2.2.take e21.1 ++ x26 ++ e21.2.2.drop (e21.1 + x26.length))))))))
 ) (
 some (.inr ((e21.1, e21.2.2))))
 ) ((0, (0 : Int), (List.replicate (IntKind.i64.wrap (r1 - (0 : Int))).toNat (0 : Int))))
 ) fun (r17 : Nat × (List Int)) =>
 ogrd (Nat.beq r17.1 r17.2.length) (
 some r17.2)))
 ) (
 obnd (
 oloop (τ := (List Int) × Int) (ρ := (List Int)) (fun e33 =>
 oite ((ilt e33.2 ((a0.map e_L1I).length : Int))) (
 ogrd ((ile 0 e33.2)) (
 obnd (a0[e33.2.toNat]?) fun (x38 : (List Int)) =>
 ogrd (fits 8 (e33.1.length + x38.length)) (
 some (.inl (((e33.1 ++ x38), (IntKind.i64.wrap (e33.2 + (1 : Int))))))))
 ) (
 some (.inr (e33.1)))
 ) ((([] : List Int), (0 : Int)))
 ) fun (r29 : (List Int)) =>
 some r29))
theorem c359 [LO]  {a0 : List ((List Int))} {x : (List Int)} (H : f359 a0 = some x) : ICalls E 359 [(VS 1 (a0.map e_L1I))] AHeap.none fun v _ => v = (VS 1 (x.map eI)) := by
 refine ICalls.frz ?_;refine icalls_fn (pfnw ?_);unfold f359 at H;refine R ?_;obtain ⟨r1, h2, H⟩ := obnd_some H;refine pw_join (ρ := Int) (fun e => ⟨[(0, (VS 1 (a0.map e_L1I))), (3, (iV e))], ⟨0, [], false⟩⟩) r1 ?_ ?_
 · refine R ?_;refine pw_loop (τ := Int × Int) (fun e => ⟨[(0, (VS 1 (a0.map e_L1I))), (3, (iV e.1)), (9, (VS 1 (a0.map e_L1I))), (10, (iV ((a0.map e_L1I).length : Int))), (11, (iV e.2))], ⟨0, [], false⟩⟩) h2 ?_ (fun _ => nl rfl) ?_
   · exact sb
   · intro e5 x6 h7;refine R ?_;refine pw_seq ?_;refine R ?_;refine pbr_oite h7 (fun g8 h7 => ?_) (fun g8 h7 => ?_)
     · refine R ?_;refine pw_seq ?_;refine R ?_;refine pbr_ogrd h7 (fun g9 h7 => ?_);refine R ?_;refine nth_o (l := a0) h7 (fun x10 _ h7 => ?_);refine R ?_;refine pbr_oite h7 (fun g11 h7 => ?_) (fun g11 h7 => ?_)
       · refine R ?_;cases h7
       · refine R ?_;cases h7;refine ⟨_, rfl, ?_⟩;exact sb
     · refine R ?_;cases h7;refine ⟨_, rfl, ?_⟩;rintro rfl;refine R ?_;exact cr
 · refine R ?_;refine pcalls_in ?_;refine R ?_;refine pw_seq ?_;refine R ?_;refine pbr_oite H (fun g13 H => ?_) (fun g13 H => ?_)
   · refine R ?_;cases H
   · refine R ?_;refine pw_seq ?_;refine R ?_;refine pbr_oite H (fun g14 H => ?_) (fun g14 H => ?_)
     · refine R ?_;obtain ⟨g15, H⟩ := ogrd_some H;obtain ⟨g16, H⟩ := ogrd_some H;refine mkz_o (x := (0 : Int)) rfl g15 g16 ?_;refine R ?_;refine shz_o (by rfl) ?_;refine R ?_;obtain ⟨r17, h18, H⟩ := obnd_some H;refine pw_join (ρ := Nat × (List Int)) (fun e => ⟨[(6, (.slice (some ⟨0, 0, none⟩) e.1 2))], ⟨1, [(0, .rw (e.2.map eI))], false⟩⟩) r17 ?_ ?_
       · refine R ?_;refine pw_loop (τ := Nat × Int × (List Int)) (fun e => ⟨[(6, (.slice (some ⟨0, 0, none⟩) e.1 2)), (25, (VS 1 (a0.map e_L1I))), (26, (iV ((a0.map e_L1I).length : Int))), (27, (iV e.2.1))], ⟨1, [(0, .rw (e.2.2.map eI))], false⟩⟩) h18 ?_ (fun _ => nl rfl) ?_
         · exact sb
         · intro e21 x22 h23;refine R ?_;refine pw_seq ?_;refine R ?_;refine pbr_oite h23 (fun g24 h23 => ?_) (fun g24 h23 => ?_)
           · refine R ?_;refine pw_seq ?_;refine R ?_;refine pbr_ogrd h23 (fun g25 h23 => ?_);refine R ?_;refine nth_o (l := a0) h23 (fun x26 _ h23 => ?_);refine R ?_;refine appin_o (l := e21.2.2) (m := x26) (n := e21.1) h23 (by rfl) (fun h23 => ?_);refine R ?_;cases h23;refine ⟨_, rfl, ?_⟩;exact sb
           · refine R ?_;cases h23;refine ⟨_, rfl, ?_⟩;rintro rfl;refine R ?_;exact cr
       · refine R ?_;obtain ⟨g28, H⟩ := ogrd_some H;cases H;exact ⟨fun b => Nat.beq b 0, .slm rfl rfl g28 (fun _ => rfl)⟩
     · refine R ?_;obtain ⟨r29, h30, H⟩ := obnd_some H;refine pw_join (ρ := (List Int)) (fun e => ⟨[(6, (VT 1 (e.map eI) 0))], ⟨1, [(0, .tail (e.map eI).length 1)], false⟩⟩) r29 ?_ ?_
       · refine R ?_;refine pw_loop (τ := (List Int) × Int) (fun e => ⟨[(6, (VT 1 (e.1.map eI) 0)), (25, (VS 1 (a0.map e_L1I))), (26, (iV ((a0.map e_L1I).length : Int))), (27, (iV e.2))], ⟨1, [(0, .tail (e.1.map eI).length 1)], false⟩⟩) h30 ?_ (fun _ => nl rfl) ?_
         · exact (Recast.nilTs 1 (nl rfl) (.turn rfl (.same rfl (.same rfl (.same rfl .nil)))))
         · intro e33 x34 h35;refine R ?_;refine pw_seq ?_;refine R ?_;refine pbr_oite h35 (fun g36 h35 => ?_) (fun g36 h35 => ?_)
           · refine R ?_;refine pw_seq ?_;refine R ?_;refine pbr_ogrd h35 (fun g37 h35 => ?_);refine R ?_;refine nth_o (l := a0) h35 (fun x38 _ h35 => ?_);refine R ?_;refine app_o (l := e33.1) (m := x38) (f := eI) h35 (by rfl) (by rfl) (by rfl) (fun h35 => ?_);refine R ?_;cases h35;refine ⟨_, rfl, ?_⟩;exact sb
           · refine R ?_;cases h35;refine ⟨_, rfl, ?_⟩;rintro rfl;refine R ?_;exact cr
       · refine R ?_;cases H;show ∃ D, Fz _ D 0 (VT 1 _ 0) _;exact ⟨fun _ => false, .vtc⟩
noncomputable def f360  (a0 : Int) : Option Bool :=
 obnd (f235 a0 (1000000000000 : Int)) fun (y1 : Bool) =>
 some (!y1)
theorem c360  {a0 : Int} {x : Bool} (H : f360 a0 = some x) : ICalls E 360 [(iV a0)] AHeap.none fun v _ => v = (.bool x) := by
 refine icalls_fn (pfnw ?_);unfold f360 at H;refine R ?_;obtain ⟨y1, h2, H⟩ := obnd_some H;refine (c235 h2).go ?_;refine R ?_;cases H;rfl
noncomputable def f361 [LO]  (a0 : Int) (a1 : Int) (a2 : List (ByteArray × Int × Int × Int)) (a3 : Int) (a4 : Int) (a5 : Int) (a6 : List (Int × Int × Int)) (a7 : List ((List Int))) (a8 : Int) (a9 : Int) (a10 : Int) (a11 : Int) : Option Bool :=
 oite ((ieq a8 ((a6.map e_III).length : Int))) (
 some (ile (IntKind.i64.wrap (a5 * a9)) a11)
 ) (
 obndS (
 oloop (τ := Int) (ρ := (Unit) ⊕ Bool) (fun e6 =>
 oite ((ilt e6 ((a2.map e_SIII).length : Int))) (
 obnd (f242 a0 a1 a2 a3 a4 a5 a6 a9 a8 e6) fun (y10 : Int) =>
 obnd (f243 a0 a1 a2 a3 a4 a5 a6 y10) fun (y12 : Bool) =>
 oite y12 (
 ogrd ((ile 0 (IntKind.i64.wrap (a8 + (1 : Int))))) (
 obnd (a7[(IntKind.i64.wrap (a8 + (1 : Int))).toNat]?) fun (x16 : (List Int)) =>
 obnd (f239 a0 a1 a2 a3 a4 a5 a6 a8 a10 e6) fun (y17 : Int) =>
 obnd (f234 a0 a1 a2 a3 a4 a5 a6 y10 e6) fun (y19 : Int) =>
 ogrd ((ile 0 y19)) (
 obnd (x16[y19.toNat]?) fun (x22 : Int) =>
 oite ((ilt a11 (IntKind.i64.wrap (y17 + x22)))) (
 some (.inr (.inr (false)))
 ) (
 some (.inl (IntKind.i64.wrap (e6 + (1 : Int)))))))
 ) (
 some (.inl (IntKind.i64.wrap (e6 + (1 : Int)))))
 ) (
 some (.inr (.inl ())))
 ) (0 : Int)
 ) fun (_ : Unit) =>
 some true)
theorem c361 [LO]  {a0 : Int} {a1 : Int} {a2 : List (ByteArray × Int × Int × Int)} {a3 : Int} {a4 : Int} {a5 : Int} {a6 : List (Int × Int × Int)} {a7 : List ((List Int))} {a8 : Int} {a9 : Int} {a10 : Int} {a11 : Int} {x : Bool} (H : f361 a0 a1 a2 a3 a4 a5 a6 a7 a8 a9 a10 a11 = some x) : ICalls E 361 [(.agg ⟨[(iV a0), (iV a1), (VS 4 (a2.map e_SIII)), (iV a3), (iV a4), (iV a5), (VS 3 (a6.map e_III))]⟩), (VS 1 (a7.map e_L1I)), (iV a8), (iV a9), (iV a10), (iV a11)] AHeap.none fun v _ => v = (.bool x) := by
 refine icalls_fn (pfnw ?_);unfold f361 at H;refine R ?_;refine pw_seq ?_;refine R ?_;refine pbr_oite H (fun g1 H => ?_) (fun g1 H => ?_)
 · refine R ?_;cases H;rfl
 · refine R ?_;obtain ⟨r2, h3, h4, h5⟩ := obndS_some H;refine pw_joinS (ρ := Unit) (fun e => ⟨[(12, (pV 5 0))], ⟨10, [(9, .dead), (8, .rw [(iV a8)]), (7, .rw [(iV a9)]), (6, .rw [(iV a0), (iV a1), (VS 4 (a2.map e_SIII)), (iV a3), (iV a4), (iV a5), (VS 3 (a6.map e_III))]), (5, .rw [(.bool false)]), (4, .rw [(iV a11)]), (3, .rw [(iV a10)]), (2, .rw [(iV a8)]), (1, .rw [(VS 1 (a7.map e_L1I))]), (0, .rw [(iV a0), (iV a1), (VS 4 (a2.map e_SIII)), (iV a3), (iV a4), (iV a5), (VS 3 (a6.map e_III))])], false⟩⟩) r2 ?_ ?_
   · refine R ?_;refine pcalls_in ?_;refine R ?_;refine pw_range [6, 7, 8, 10, 11, 12, 31] ?_;refine R ?_;refine pcallv_in ?_;refine R ?_;refine pw_loop (τ := Int) (fun e => ⟨[(0, (.func (.yield 9) #[] #[])), (1, (pV 6 0)), (2, (pV 7 0)), (3, (pV 8 0)), (10, (iV ((a2.map e_SIII).length : Int))), (11, (iV e))], ⟨10, [(9, .loop ⟨.ready, none, [(6, (pV 0 0)), (7, (pV 1 0)), (8, (pV 2 0)), (10, (pV 3 0)), (11, (pV 4 0)), (12, (pV 5 0)), (31, (.func (.func (E.id 251)) ⟨[]⟩ ⟨[(pV 6 0), (pV 7 0), (pV 8 0)]⟩))], 53, #[32, 33], (rng 64 0).1, (rng 64 0).2⟩), (8, .rw [(iV a8)]), (7, .rw [(iV a9)]), (6, .rw [(iV a0), (iV a1), (VS 4 (a2.map e_SIII)), (iV a3), (iV a4), (iV a5), (VS 3 (a6.map e_III))]), (5, .rw [(.bool false)]), (4, .rw [(iV a11)]), (3, .rw [(iV a10)]), (2, .rw [(iV a8)]), (1, .rw [(VS 1 (a7.map e_L1I))]), (0, .rw [(iV a0), (iV a1), (VS 4 (a2.map e_SIII)), (iV a3), (iV a4), (iV a5), (VS 3 (a6.map e_III))])], false⟩⟩) h3 ?_ (fun _ => nl rfl) ?_
     · exact sb
     · intro e6 x7 h8;refine R ?_;refine pw_seq ?_;refine R ?_;refine pbr_oite h8 (fun g9 h8 => ?_) (fun g9 h8 => ?_)
       · refine R ?_;refine pw_seq ?_;refine R ?_;obtain ⟨y10, h11, h8⟩ := obnd_some h8;refine (c242 h11).go ?_;refine R ?_;obtain ⟨y12, h13, h8⟩ := obnd_some h8;refine (c243 h13).go ?_;refine R ?_;refine pbr_oite h8 (fun g14 h8 => ?_) (fun g14 h8 => ?_)
         · refine R ?_;refine pcallv_yield ir361a0 ir361b0 rfl rfl ra361_0 rb361_0 ⟨_, _, _, _, rfl⟩ ?_;refine R ?_;refine pbr_ogrd h8 (fun g15 h8 => ?_);refine R ?_;refine nth_o (l := a7) h8 (fun x16 _ h8 => ?_);refine R ?_;obtain ⟨y17, h18, h8⟩ := obnd_some h8;refine (c239 h18).go ?_;refine R ?_;refine aR ?_
           refine R ?_;obtain ⟨y19, h20, h8⟩ := obnd_some h8;refine (c234 h20).go ?_;refine R ?_;refine aR ?_;refine R ?_;refine pbr_ogrd h8 (fun g21 h8 => ?_);refine R ?_;refine nth_o (l := x16) h8 (fun x22 _ h8 => ?_);refine R ?_;refine pbr_oite h8 (fun g23 h8 => ?_) (fun g23 h8 => ?_)
           · refine R ?_;cases h8;refine ⟨_, rfl, ?_⟩;rintro rfl;refine R ?_;obtain rfl := h5 _ rfl;rfl
           · refine R ?_;cases h8;refine ⟨_, rfl, ?_⟩;exact sb
         · refine R ?_;cases h8;refine ⟨_, rfl, ?_⟩;exact sb
       · refine R ?_;cases h8;refine ⟨_, rfl, ?_⟩;rintro rfl;refine R ?_;exact ⟨_, rfl, cr⟩
   · intro r26 hr;have H := h4 _ hr;refine R ?_;cases H;rfl
noncomputable def f331 [LO]  (a0 : Int) (a1 : Int) (a2 : List (ByteArray × Int × Int × Int)) (a3 : Int) (a4 : Int) (a5 : Int) (a6 : List (Int × Int × Int)) (a7 : List ((List Int))) : Option (Int × Int) :=
 obnd (f219 a0 a1 a2 a3 a4 a5 a6) fun (y1 : Int × Int × (List (ByteArray × Int × Int × Int)) × Int × Int × Int × (List (Int × Int × Int)) × Int) =>
 oite ((!(ieq y1.2.2.2.2.2.2.2 (0 : Int)))) (
 some ((0 : Int), y1.2.2.2.2.2.2.2)
 ) (
 obnd (f234 y1.1 y1.2.1 y1.2.2.1 y1.2.2.2.1 y1.2.2.2.2.1 y1.2.2.2.2.2.1 y1.2.2.2.2.2.2.1 y1.2.1 ((IntKind.i64.wrap (((y1.2.2.1.map e_SIII).length : Int) - (1 : Int))))) fun (y4 : Int) =>
 obnd (f357 (fun (z0 : List Int) => f358 z0 (IntKind.i64.wrap (y4 + (1 : Int)))) a7) fun (y6 : Bool) =>
 obnd (f359 a7) fun (y8 : (List Int)) =>
 obnd (f80 (fun (z0 : Int) => f360 z0) y8) fun (y10 : Bool) =>
 obnd (
 oite ((ieq ((a7.map e_L1I).length : Int) (IntKind.i64.wrap (((a6.map e_III).length : Int) + (1 : Int))))) (
 some (!y6)
 ) (
 some false)
 ) fun (r12 : Bool) =>
 obnd (f214 r12 (10 : Int)) fun (y15 : Int) =>
 obnd (f214 (!y10) (2 : Int)) fun (y17 : Int) =>
 obnd (f213 ([y15, y17] : List Int)) fun (y19 : Int) =>
 oite ((!(ieq y19 (0 : Int)))) (
 some ((0 : Int), y19)
 ) (
 obndS (
 oloop (τ := Int) (ρ := (Unit) ⊕ (Int × Int)) (fun e26 =>
 oite ((ilt e26 ((a7.map e_L1I).length : Int))) (
 obndS (
 ogrd ((ile 0 e26)) (
 obnd (a7[e26.toNat]?) fun (x35 : (List Int)) =>
 oloop (τ := Int) (ρ := (Unit) ⊕ ((Int) ⊕ ((Unit) ⊕ (Int × Int)))) (fun e36 =>
 oite ((ile e36 y1.2.1)) (
 obndS (
 oloop (τ := Int) (ρ := (Unit) ⊕ ((Int) ⊕ ((Unit) ⊕ ((Int) ⊕ ((Unit) ⊕ (Int × Int)))))) (fun e44 =>
 oite ((ilt e44 ((y1.2.2.1.map e_SIII).length : Int))) (
 obnd (f234 y1.1 y1.2.1 y1.2.2.1 y1.2.2.2.1 y1.2.2.2.2.1 y1.2.2.2.2.2.1 y1.2.2.2.2.2.2.1 e36 e44) fun (y48 : Int) =>
 ogrd ((ile 0 y48)) (
 obnd (x35[y48.toNat]?) fun (x51 : Int) =>
 obnd (f361 y1.1 y1.2.1 y1.2.2.1 y1.2.2.2.1 y1.2.2.2.2.1 y1.2.2.2.2.2.1 y1.2.2.2.2.2.2.1 a7 e26 e36 e44 x51) fun (y52 : Bool) =>
 oite (!y52) (
 some (.inr (.inr (.inr (.inr (.inr (.inr (((0 : Int), (19 : Int)))))))))
 ) (
 some (.inl (IntKind.i64.wrap (e44 + (1 : Int))))))
 ) (
 some (.inr (.inl ())))
 ) (0 : Int)
 ) fun (_ : Unit) =>
 some (.inl (IntKind.i64.wrap (e36 + (1 : Int))))
 ) (
 some (.inr (.inl ())))
 ) y1.1)
 ) fun (_ : Unit) =>
 some (.inl (IntKind.i64.wrap (e26 + (1 : Int))))
 ) (
 some (.inr (.inl ())))
 ) (0 : Int)
 ) fun (_ : Unit) =>
 obnd (a7[(0 : Int).toNat]?) fun (x64 : (List Int)) =>
 obnd (f234 y1.1 y1.2.1 y1.2.2.1 y1.2.2.2.1 y1.2.2.2.2.1 y1.2.2.2.2.2.1 y1.2.2.2.2.2.2.1 a3 a4) fun (y65 : Int) =>
 ogrd ((ile 0 y65)) (
 obnd (x64[y65.toNat]?) fun (x68 : Int) =>
 some (x68, (0 : Int)))))
theorem c331 [LO]  {a0 : Int} {a1 : Int} {a2 : List (ByteArray × Int × Int × Int)} {a3 : Int} {a4 : Int} {a5 : Int} {a6 : List (Int × Int × Int)} {a7 : List ((List Int))} {x : Int × Int} (H : f331 a0 a1 a2 a3 a4 a5 a6 a7 = some x) : ICalls E 331 [(.agg ⟨[(iV a0), (iV a1), (VS 4 (a2.map e_SIII))]⟩), (.agg ⟨[(iV a3), (iV a4), (iV a5), (VS 3 (a6.map e_III))]⟩), (VS 1 (a7.map e_L1I))] AHeap.none fun v _ => v = (.tuple ⟨[(iV x.1), (iV x.2)]⟩) := by
  refine icalls_fn (pfnw ?_);unfold f331 at H;refine R ?_;obtain ⟨y1, h2, H⟩ := obnd_some H;refine (c219 h2).go ?_;refine R ?_;refine pw_seq ?_;refine R ?_;refine pbr_oite H (fun g3 H => ?_) (fun g3 H => ?_)
  · refine R ?_;cases H;rfl
  · refine R ?_;obtain ⟨y4, h5, H⟩ := obnd_some H;refine (c234 h5).go ?_;refine R ?_;obtain ⟨y6, h7, H⟩ := obnd_some H;refine ICalls.goD (c357 (fun _ _ h => (c358 h)) h7) (.cons .cl (.cons (.func .nil (.cons (.ptr rfl (by intro v hv; simp only [List.mem_cons, List.not_mem_nil, or_false] at hv; rcases hv with rfl <;> rfl)) .nil)) .nil)) rfl ?_;refine R ?_;obtain ⟨y8, h9, H⟩ := obnd_some H;refine (c359 h9).go ?_;refine R ?_;obtain ⟨y10, h11, H⟩ := obnd_some H
    refine (c80 (fun _ _ h => (c360 h).asV) h11).go ?_;(conv=>whnf);refine pw_so ?_;refine po_ops 8 ?_;(conv=>whnf);obtain ⟨r12, h13, H⟩ := obnd_some H;refine po_seg (τ := Bool) 3 (fun e => ⟨[(2, (VS 1 (a7.map e_L1I))), (4, (pV 1 0)), (8, (pV 2 0)), (12, (.bool y10)), (53, (.bool e))], ⟨4, [(3, .rw [(iV (IntKind.i64.wrap (y4 + (1 : Int))))]), (2, .rw [(iV y1.1), (iV y1.2.1), (VS 4 (y1.2.2.1.map e_SIII)), (iV y1.2.2.2.1), (iV y1.2.2.2.2.1), (iV y1.2.2.2.2.2.1), (VS 3 (y1.2.2.2.2.2.2.1.map e_III))]), (1, .rw [(iV a3), (iV a4), (iV a5), (VS 3 (a6.map e_III))]), (0, .rw [(iV a0), (iV a1), (VS 4 (a2.map e_SIII))])], false⟩⟩) r12 ?_ ?_
    · refine R ?_;refine pbr_oite h13 (fun g14 h13 => ?_) (fun g14 h13 => ?_)
      · refine R ?_;cases h13;exact cr
      · refine R ?_;cases h13;exact cr
    · refine R ?_;obtain ⟨y15, h16, H⟩ := obnd_some H;refine (c214 h16).go ?_;refine R ?_;obtain ⟨y17, h18, H⟩ := obnd_some H;refine (c214 h18).go ?_;refine R ?_;obtain ⟨y19, h20, H⟩ := obnd_some H;refine ICalls.goW (c213 h20) (.cons (.vt _ _ _) .nil) ?_;refine R ?_;refine pw_seq ?_;refine R ?_;refine pbr_oite H (fun g21 H => ?_) (fun g21 H => ?_)
      · refine R ?_;cases H;rfl
      · refine R ?_;obtain ⟨r22, h23, h24, h25⟩ := obndS_some H;refine pw_joinS (ρ := Unit) (fun e => ⟨[(2, (VS 1 (a7.map e_L1I))), (4, (pV 1 0)), (8, (pV 2 0))], ⟨5, [(4, .tail 2 1), (3, .rw [(iV (IntKind.i64.wrap (y4 + (1 : Int))))]), (2, .rw [(iV y1.1), (iV y1.2.1), (VS 4 (y1.2.2.1.map e_SIII)), (iV y1.2.2.2.1), (iV y1.2.2.2.2.1), (iV y1.2.2.2.2.2.1), (VS 3 (y1.2.2.2.2.2.2.1.map e_III))]), (1, .rw [(iV a3), (iV a4), (iV a5), (VS 3 (a6.map e_III))]), (0, .rw [(iV a0), (iV a1), (VS 4 (a2.map e_SIII))])], false⟩⟩) r22 ?_ ?_
        · refine R ?_;refine pw_loop (τ := Int) (fun e => ⟨[(2, (VS 1 (a7.map e_L1I))), (4, (pV 1 0)), (8, (pV 2 0)), (63, (VS 1 (a7.map e_L1I))), (64, (iV ((a7.map e_L1I).length : Int))), (65, (iV e))], ⟨5, [(4, .tail 2 1), (3, .rw [(iV (IntKind.i64.wrap (y4 + (1 : Int))))]), (2, .rw [(iV y1.1), (iV y1.2.1), (VS 4 (y1.2.2.1.map e_SIII)), (iV y1.2.2.2.1), (iV y1.2.2.2.2.1), (iV y1.2.2.2.2.2.1), (VS 3 (y1.2.2.2.2.2.2.1.map e_III))]), (1, .rw [(iV a3), (iV a4), (iV a5), (VS 3 (a6.map e_III))]), (0, .rw [(iV a0), (iV a1), (VS 4 (a2.map e_SIII))])], false⟩⟩) h23 ?_ (fun _ => nl rfl) ?_
          · exact sb
          · intro e26 x27 h28;refine R ?_;refine pw_seq ?_;refine R ?_;refine pbr_oite h28 (fun g29 h28 => ?_) (fun g29 h28 => ?_)
            · refine R ?_;obtain ⟨r30, h31, h32, h33⟩ := obndS_some h28;refine pw_joinS (ρ := Unit) (fun e => ⟨[(2, (VS 1 (a7.map e_L1I))), (4, (pV 1 0)), (8, (pV 2 0)), (63, (VS 1 (a7.map e_L1I))), (64, (iV ((a7.map e_L1I).length : Int))), (65, (iV e26))], ⟨5, [(4, .tail 2 1), (3, .rw [(iV (IntKind.i64.wrap (y4 + (1 : Int))))]), (2, .rw [(iV y1.1), (iV y1.2.1), (VS 4 (y1.2.2.1.map e_SIII)), (iV y1.2.2.2.1), (iV y1.2.2.2.2.1), (iV y1.2.2.2.2.2.1), (VS 3 (y1.2.2.2.2.2.2.1.map e_III))]), (1, .rw [(iV a3), (iV a4), (iV a5), (VS 3 (a6.map e_III))]), (0, .rw [(iV a0), (iV a1), (VS 4 (a2.map e_SIII))])], false⟩⟩) r30 ?_ ?_
              · refine R ?_;refine pbr_ogrd h31 (fun g34 h31 => ?_);refine R ?_;refine nth_o (l := a7) h31 (fun x35 _ h31 => ?_);refine R ?_;refine pw_loop (τ := Int) (fun e => ⟨[(2, (VS 1 (a7.map e_L1I))), (4, (pV 1 0)), (8, (pV 2 0)), (13, (iV e26)), (14, (VS 1 (x35.map eI))), (15, (iV e)), (63, (VS 1 (a7.map e_L1I))), (64, (iV ((a7.map e_L1I).length : Int))), (65, (iV e26))], ⟨5, [(4, .tail 2 1), (3, .rw [(iV (IntKind.i64.wrap (y4 + (1 : Int))))]), (2, .rw [(iV y1.1), (iV y1.2.1), (VS 4 (y1.2.2.1.map e_SIII)), (iV y1.2.2.2.1), (iV y1.2.2.2.2.1), (iV y1.2.2.2.2.2.1), (VS 3 (y1.2.2.2.2.2.2.1.map e_III))]), (1, .rw [(iV a3), (iV a4), (iV a5), (VS 3 (a6.map e_III))]), (0, .rw [(iV a0), (iV a1), (VS 4 (a2.map e_SIII))])], false⟩⟩) h31 ?_ (fun _ => nl rfl) ?_
                · exact sb
                · intro e36 x37 h38;refine pw_seq ?_;refine R ?_;refine pbr_oite h38 (fun g39 h38 => ?_) (fun g39 h38 => ?_)
                  · refine R ?_;obtain ⟨r40, h41, h42, h43⟩ := obndS_some h38;refine pw_joinS (ρ := Unit) (fun e => ⟨[(2, (VS 1 (a7.map e_L1I))), (4, (pV 1 0)), (8, (pV 2 0)), (13, (iV e26)), (14, (VS 1 (x35.map eI))), (15, (iV e36)), (63, (VS 1 (a7.map e_L1I))), (64, (iV ((a7.map e_L1I).length : Int))), (65, (iV e26))], ⟨5, [(4, .tail 2 1), (3, .rw [(iV (IntKind.i64.wrap (y4 + (1 : Int))))]), (2, .rw [(iV y1.1), (iV y1.2.1), (VS 4 (y1.2.2.1.map e_SIII)), (iV y1.2.2.2.1), (iV y1.2.2.2.2.1), (iV y1.2.2.2.2.2.1), (VS 3 (y1.2.2.2.2.2.2.1.map e_III))]), (1, .rw [(iV a3), (iV a4), (iV a5), (VS 3 (a6.map e_III))]), (0, .rw [(iV a0), (iV a1), (VS 4 (a2.map e_SIII))])], false⟩⟩) r40 ?_ ?_
                    · refine R ?_;refine pw_loop (τ := Int) (fun e => ⟨[(2, (VS 1 (a7.map e_L1I))), (4, (pV 1 0)), (8, (pV 2 0)), (13, (iV e26)), (14, (VS 1 (x35.map eI))), (15, (iV e36)), (63, (VS 1 (a7.map e_L1I))), (64, (iV ((a7.map e_L1I).length : Int))), (65, (iV e26)), (83, (iV ((y1.2.2.1.map e_SIII).length : Int))), (84, (iV e))], ⟨5, [(4, .tail 2 1), (3, .rw [(iV (IntKind.i64.wrap (y4 + (1 : Int))))]), (2, .rw [(iV y1.1), (iV y1.2.1), (VS 4 (y1.2.2.1.map e_SIII)), (iV y1.2.2.2.1), (iV y1.2.2.2.2.1), (iV y1.2.2.2.2.2.1), (VS 3 (y1.2.2.2.2.2.2.1.map e_III))]), (1, .rw [(iV a3), (iV a4), (iV a5), (VS 3 (a6.map e_III))]), (0, .rw [(iV a0), (iV a1), (VS 4 (a2.map e_SIII))])], false⟩⟩) h41 ?_ (fun _ => nl rfl) ?_
                      · exact sb
                      · intro e44 x45 h46;refine R ?_;refine pw_seq ?_;refine R ?_;refine pbr_oite h46 (fun g47 h46 => ?_) (fun g47 h46 => ?_)
                        · refine R ?_;refine pw_seq ?_;refine R ?_;obtain ⟨y48, h49, h46⟩ := obnd_some h46;refine (c234 h49).go ?_;refine R ?_;refine aR ?_;refine R ?_;refine pbr_ogrd h46 (fun g50 h46 => ?_);refine R ?_;refine nth_o (l := x35) h46 (fun x51 _ h46 => ?_);refine R ?_;obtain ⟨y52, h53, h46⟩ := obnd_some h46;refine (c361 h53).go ?_;refine R ?_;refine aR ?_
                          refine R ?_;refine pbr_oite h46 (fun g54 h46 => ?_) (fun g54 h46 => ?_)
                          · refine R ?_;cases h46;refine ⟨_, rfl, ?_⟩;rintro rfl;refine R ?_;obtain rfl := h43 _ rfl;refine ⟨_, rfl, ?_⟩;rintro rfl;refine R ?_;obtain rfl := h33 _ rfl;refine ⟨_, rfl, ?_⟩;rintro rfl;refine R ?_;obtain rfl := h25 _ rfl;rfl
                          · refine R ?_;cases h46;refine ⟨_, rfl, ?_⟩;exact sb
                        · refine R ?_;cases h46;refine ⟨_, rfl, ?_⟩;rintro rfl;refine R ?_;exact ⟨_, rfl, cr⟩
                    · intro r59 hr;have h38 := h42 _ hr;refine R ?_;cases h38;refine ⟨_, rfl, ?_⟩;exact sb
                  · refine R ?_;cases h38;refine ⟨_, rfl, ?_⟩;rintro rfl;refine R ?_;exact ⟨_, rfl, cr⟩
              · intro r61 hr;have h28 := h32 _ hr;refine R ?_;cases h28;refine ⟨_, rfl, ?_⟩;exact sb
            · refine R ?_;cases h28;refine ⟨_, rfl, ?_⟩;rintro rfl;refine R ?_;exact ⟨_, rfl, cr⟩
        · intro r63 hr;have H := h24 _ hr;refine R ?_;refine nth_o (l := a7) H (fun x64 _ H => ?_);refine R ?_;obtain ⟨y65, h66, H⟩ := obnd_some H;refine (c234 h66).go ?_;refine R ?_;refine aR ?_;refine R ?_;refine pbr_ogrd H (fun g67 H => ?_);refine R ?_;refine nth_o (l := x64) H (fun x68 _ H => ?_);refine R ?_;cases H;rfl
noncomputable def f328 [LO]  (_ : Int) (_ : Int) (a2 : List (ByteArray × Int × Int × Int)) (a3 : Int) (_ : Int) (_ : Int) (a6 : List (Int × Int × Int)) (a7 : List Int) : Option ((List Int)) :=
 obnd (
 oloop (τ := (List Int) × Int) (ρ := (List Int)) (fun e5 =>
 oite ((ilt e5.2 ((a7.map eI).length : Int))) (
 ogrd ((ile 0 e5.2)) (
 obnd (e5.1[e5.2.toNat]?) fun (x10 : Int) =>
 obnd (a6[e5.2.toNat]?) fun (x11 : Int × Int × Int) =>
 obnd (a7[e5.2.toNat]?) fun (x12 : Int) =>
 ogrd ((ile 0 x12)) (
 obnd (a2[x12.toNat]?) fun (x14 : ByteArray × Int × Int × Int) =>
 ogrd (fits 8 (e5.1.length + ([(IntKind.i64.wrap ((IntKind.i64.wrap (x10 + x11.2.2)) + x14.2.1))] : List Int).length)) (
 some (.inl (((e5.1 ++ ([(IntKind.i64.wrap ((IntKind.i64.wrap (x10 + x11.2.2)) + x14.2.1))] : List Int)), (IntKind.i64.wrap (e5.2 + (1 : Int)))))))))
 ) (
 some (.inr (e5.1)))
 ) ((([a3] : List Int), (0 : Int)))
 ) fun (r1 : (List Int)) =>
 some r1
theorem c328 [LO]  {a0 : Int} {a1 : Int} {a2 : List (ByteArray × Int × Int × Int)} {a3 : Int} {a4 : Int} {a5 : Int} {a6 : List (Int × Int × Int)} {a7 : List Int} {x : (List Int)} (H : f328 a0 a1 a2 a3 a4 a5 a6 a7 = some x) : ICalls E 328 [(.agg ⟨[(iV a0), (iV a1), (VS 4 (a2.map e_SIII))]⟩), (.agg ⟨[(iV a3), (iV a4), (iV a5), (VS 3 (a6.map e_III))]⟩), (VS 1 (a7.map eI))] AHeap.none fun v _ => v = (VS 1 (x.map eI)) := by
 refine ICalls.frz ?_;refine icalls_fn (pfnw ?_);unfold f328 at H;refine R ?_;obtain ⟨r1, h2, H⟩ := obnd_some H;refine pw_join (ρ := (List Int)) (fun e => ⟨[(7, (VT 1 (e.map eI) 2))], ⟨3, [(2, .tail (e.map eI).length 1), (1, .rw [(iV a3), (iV a4), (iV a5), (VS 3 (a6.map e_III))]), (0, .rw [(iV a0), (iV a1), (VS 4 (a2.map e_SIII))])], false⟩⟩) r1 ?_ ?_
 · refine R ?_;refine pw_loop (τ := (List Int) × Int) (fun e => ⟨[(2, (VS 1 (a7.map eI))), (3, (pV 0 0)), (4, (pV 1 0)), (7, (VT 1 (e.1.map eI) 2)), (8, (iV e.2))], ⟨3, [(2, .tail (e.1.map eI).length 1), (1, .rw [(iV a3), (iV a4), (iV a5), (VS 3 (a6.map e_III))]), (0, .rw [(iV a0), (iV a1), (VS 4 (a2.map e_SIII))])], false⟩⟩) h2 ?_ (fun _ => nl rfl) ?_
   · exact sb
   · intro e5 x6 h7;refine pw_seq ?_;refine R ?_;refine pbr_oite h7 (fun g8 h7 => ?_) (fun g8 h7 => ?_)
     · refine R ?_;refine pw_seq ?_;refine R ?_;refine pbr_ogrd h7 (fun g9 h7 => ?_);refine R ?_;refine nth_o (l := e5.1) h7 (fun x10 _ h7 => ?_);refine R ?_;refine nth_o (l := a6) h7 (fun x11 _ h7 => ?_);refine R ?_;refine nth_o (l := a7) h7 (fun x12 _ h7 => ?_);refine R ?_;refine pbr_ogrd h7 (fun g13 h7 => ?_);refine R ?_;refine nth_o (l := a2) h7 (fun x14 _ h7 => ?_);refine R ?_;refine aR ?_
       refine R ?_;refine app_o (l := e5.1) (m := ([(IntKind.i64.wrap ((IntKind.i64.wrap (x10 + x11.2.2)) + x14.2.1))] : List Int)) (f := eI) h7 (by rfl) (by rfl) (by rfl) (fun h7 => ?_);refine R ?_;refine aR ?_;refine R ?_;refine aR ?_;refine R ?_;cases h7;refine ⟨_, rfl, ?_⟩;refine Recast.trunc (nl rfl) ?_ ?_
       · repeat (first | exact .nil | refine .cons rfl (by first | exact OBnd.rwc (nl rfl) rfl | exact OBnd.tail (nl rfl) | trivial) ?_)
       · repeat (first | exact .nil | refine .cons rfl (by first | exact Bnd.ptr (nl rfl) | exact Bnd.vt (nl rfl) | exact Bnd.cl) ?_)
     · refine R ?_;cases h7;refine ⟨_, rfl, ?_⟩;rintro rfl;refine R ?_;exact cr
 · refine R ?_;cases H;show ∃ D, Fz _ D 0 (VT 1 _ 2) _;exact ⟨fun _ => false, .vtc⟩
noncomputable def f356 [LO]  (a0 : Int) (a1 : Int) (a2 : List (ByteArray × Int × Int × Int)) (a3 : Int) (a4 : Int) (a5 : Int) (a6 : List (Int × Int × Int)) (a7 : List Int) : Option Bool :=
 obnd (f328 a0 a1 a2 a3 a4 a5 a6 a7) fun (y1 : (List Int)) =>
 obndS (
 oloop (τ := Int) (ρ := (Unit) ⊕ Bool) (fun e7 =>
 oite ((ilt e7 ((y1.map eI).length : Int))) (
 ogrd ((ile 0 e7)) (
 obnd (y1[e7.toNat]?) fun (x12 : Int) =>
 obnd (f15 x12 a0 a1) fun (y13 : Bool) =>
 oite (!y13) (
 some (.inr (.inr (false)))
 ) (
 some (.inl (IntKind.i64.wrap (e7 + (1 : Int))))))
 ) (
 some (.inr (.inl ())))
 ) (0 : Int)
 ) fun (_ : Unit) =>
 some true
theorem c356 [LO]  {a0 : Int} {a1 : Int} {a2 : List (ByteArray × Int × Int × Int)} {a3 : Int} {a4 : Int} {a5 : Int} {a6 : List (Int × Int × Int)} {a7 : List Int} {x : Bool} (H : f356 a0 a1 a2 a3 a4 a5 a6 a7 = some x) : ICalls E 356 [(.agg ⟨[(iV a0), (iV a1), (VS 4 (a2.map e_SIII))]⟩), (.agg ⟨[(iV a3), (iV a4), (iV a5), (VS 3 (a6.map e_III))]⟩), (VS 1 (a7.map eI))] AHeap.none fun v _ => v = (.bool x) := by
 refine icalls_fn (pfnw ?_);unfold f356 at H;refine R ?_;obtain ⟨y1, h2, H⟩ := obnd_some H;refine (c328 h2).go ?_;refine R ?_;obtain ⟨r3, h4, h5, h6⟩ := obndS_some H;refine pw_joinS (ρ := Unit) (fun e => ⟨[], ⟨2, [(1, .rw [(iV a3), (iV a4), (iV a5), (VS 3 (a6.map e_III))]), (0, .rw [(iV a0), (iV a1), (VS 4 (a2.map e_SIII))])], false⟩⟩) r3 ?_ ?_
 · refine R ?_;refine pw_loop (τ := Int) (fun e => ⟨[(3, (pV 0 0)), (7, (VS 1 (y1.map eI))), (8, (iV e))], ⟨2, [(1, .rw [(iV a3), (iV a4), (iV a5), (VS 3 (a6.map e_III))]), (0, .rw [(iV a0), (iV a1), (VS 4 (a2.map e_SIII))])], false⟩⟩) h4 ?_ (fun _ => nl rfl) ?_
   · exact sb
   · intro e7 x8 h9;refine pw_seq ?_;refine R ?_;refine pbr_oite h9 (fun g10 h9 => ?_) (fun g10 h9 => ?_)
     · refine R ?_;refine pw_seq ?_;refine R ?_;refine pbr_ogrd h9 (fun g11 h9 => ?_);refine R ?_;refine nth_o (l := y1) h9 (fun x12 _ h9 => ?_);refine R ?_;obtain ⟨y13, h14, h9⟩ := obnd_some h9;refine (c15 h14).go ?_;refine R ?_;refine aR ?_;refine R ?_;refine pbr_oite h9 (fun g15 h9 => ?_) (fun g15 h9 => ?_)
       · refine R ?_;cases h9;refine ⟨_, rfl, ?_⟩;rintro rfl;refine R ?_;obtain rfl := h6 _ rfl;rfl
       · refine R ?_;cases h9;refine ⟨_, rfl, ?_⟩;exact sb
     · refine R ?_;cases h9;refine ⟨_, rfl, ?_⟩;rintro rfl;refine R ?_;exact ⟨_, rfl, cr⟩
 · intro r18 hr;have H := h5 _ hr;refine R ?_;cases H;rfl
end Go.Proofs.YtolapannkcdeeaaGreatDoor.AM
