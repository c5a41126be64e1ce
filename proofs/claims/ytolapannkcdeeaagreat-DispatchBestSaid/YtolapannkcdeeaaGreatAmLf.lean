/- Computations of functions, and that the functions do them (printed by tools/lift.py). Conditions: none. -/
import Derived.Test.YtolapannkcdeeaaGreatAmRun
import Derived.Test.YtolapannkcdeeaaGreatAmLf1
namespace Go.Proofs.YtolapannkcdeeaaGreat.AM
set_option linter.unusedSimpArgs false
set_option linter.unusedVariables false
set_option maxHeartbeats 1000000
open Go Go.RowKit
attribute [local irreducible] ICallV ICalls Recast rng
noncomputable def f298 [LO]  (a0 : Int) (a1 : Int) (a2 : List (ByteArray × Int × Int × Int)) (a3 : Int) (a4 : Int) (a5 : Int) (a6 : List (Int × Int × Int)) (a7 : Int) : Option Bool :=
 obnd (f198) fun (y1 : Bool) =>
 oite (!y1) (
 some false
 ) (
 obnd (
 obnd (f307 a0 a1 a2) fun (y8 : Bool) =>
 oite (!y8) (
 some true
 ) (
 obnd (f308 a3 a4 a5 a6) fun (y11 : Bool) =>
 some (!y11))
 ) fun (r4 : Bool) =>
 oite r4 (
 some true
 ) (
 obnd (f309 a0 a1 a2) fun (y14 : Int × Int × (List (ByteArray × Int × Int × Int))) =>
 obnd (f310 a3 a4 a5 a6) fun (y16 : Int × Int × Int × (List (Int × Int × Int))) =>
 obnd (f206 y14.1 y14.2.1 y14.2.2 y16.1 y16.2.1 y16.2.2.1 y16.2.2.2) fun (y18 : (List Int) × Int × Int) =>
 obnd (f309 a0 a1 a2) fun (y20 : Int × Int × (List (ByteArray × Int × Int × Int))) =>
 obnd (f310 a3 a4 a5 a6) fun (y22 : Int × Int × Int × (List (Int × Int × Int))) =>
 obnd (f212 y20.1 y20.2.1 y20.2.2 y22.1 y22.2.1 y22.2.2.1 y22.2.2.2 a7) fun (y24 : (List Int) × Int) =>
 obnd (f311 a0 a1 a2 a3 a4 a5 a6) fun (y26 : Int) =>
 oite ((!(ieq y26 (0 : Int)))) (
 obnd (
 oite ((ieq y18.2.2 y26)) (
 some (ieq y24.2 y26)
 ) (
 some false)
 ) fun (r29 : Bool) =>
 obnd (
 oite r29 (
 some (ieq (IntKind.i64.wrap (((y18.1.map eI).length : Int) + ((y24.1.map eI).length : Int))) (0 : Int))
 ) (
 some false)
 ) fun (r32 : Bool) =>
 obnd (
 oite r32 (
 some (ieq y18.2.1 (0 : Int))
 ) (
 some false)
 ) fun (r35 : Bool) =>
 some r35
 ) (
 obndS (
 obnd (f15 a7 (0 : Int) ((a6.map e_III).length : Int)) fun (y42 : Bool) =>
 oite (!y42) (
 obnd (
 oite ((!(ieq y24.2 (2 : Int)))) (
 some true
 ) (
 some (!(ieq ((y24.1.map eI).length : Int) (0 : Int))))
 ) fun (r45 : Bool) =>
 oite r45 (
 some (.inr (false))
 ) (
 some (.inl ()))
 ) (
 obnd (
 oite ((!(ieq y24.2 (0 : Int)))) (
 some true
 ) (
 obnd (f312 a0 a1 a2 a3 a4 a5 a6 a7) fun (y56 : (List Int)) =>
 obnd (f26 y24.1 y56) fun (y58 : Bool) =>
 some (!y58))
 ) fun (r51 : Bool) =>
 oite r51 (
 some (.inr (false))
 ) (
 some (.inl ())))
 ) fun (_ : Unit) =>
 obnd (f313 a0 a1 a2 a3 a4 a5 a6) fun (y62 : (List Int) × Int × Bool) =>
 oite (!y62.2.2) (
 obnd (
 oite ((ieq y18.2.2 (12 : Int))) (
 some (ieq ((y18.1.map eI).length : Int) (0 : Int))
 ) (
 some false)
 ) fun (r65 : Bool) =>
 obnd (
 oite r65 (
 some (ieq y18.2.1 (0 : Int))
 ) (
 some false)
 ) fun (r68 : Bool) =>
 some r68
 ) (
 obnd (
 oite ((ieq y18.2.2 (0 : Int))) (
 obnd (f26 y18.1 y62.1) fun (y74 : Bool) =>
 some y74
 ) (
 some false)
 ) fun (r71 : Bool) =>
 obnd (
 oite r71 (
 some (ieq y18.2.1 y62.2.1)
 ) (
 some false)
 ) fun (r76 : Bool) =>
 some r76))))
theorem c298 [LO]  {a0 : Int} {a1 : Int} {a2 : List (ByteArray × Int × Int × Int)} {a3 : Int} {a4 : Int} {a5 : Int} {a6 : List (Int × Int × Int)} {a7 : Int} {x : Bool} (H : f298 a0 a1 a2 a3 a4 a5 a6 a7 = some x) : ICalls E 298 [(.agg ⟨[(iV a0), (iV a1), (VS 4 (a2.map e_SIII))]⟩), (.agg ⟨[(iV a3), (iV a4), (iV a5), (VS 3 (a6.map e_III))]⟩), (iV a7)] AHeap.none fun v _ => v = (.bool x) := by
 refine icalls_fn (pfnw ?_);unfold f298 at H;refine R ?_;refine pw_seq ?_;refine R ?_;obtain ⟨y1, h2, H⟩ := obnd_some H;refine (c198 h2).go ?_;refine R ?_;refine pbr_oite H (fun g3 H => ?_) (fun g3 H => ?_)
 · refine R ?_;cases H;rfl
 · refine R ?_;refine pw_seq ?_;obtain ⟨r4, h5, H⟩ := obnd_some H;refine pw_join (ρ := Bool) (fun e => ⟨[(2, (iV a7)), (3, (pV 0 0)), (4, (pV 1 0)), (25, (.bool e))], ⟨2, [(1, .rw [(iV a3), (iV a4), (iV a5), (VS 3 (a6.map e_III))]), (0, .rw [(iV a0), (iV a1), (VS 4 (a2.map e_SIII))])], false⟩⟩) r4 ?_ ?_
   · refine R ?_;obtain ⟨y8, h9, h5⟩ := obnd_some h5;refine (c307 h9).go ?_;refine R ?_;refine pbr_oite h5 (fun g10 h5 => ?_) (fun g10 h5 => ?_)
     · refine R ?_;cases h5;exact cr
     · refine R ?_;obtain ⟨y11, h12, h5⟩ := obnd_some h5;refine (c308 h12).go ?_;refine R ?_;cases h5;exact cr
   · refine R ?_;refine pbr_oite H (fun g13 H => ?_) (fun g13 H => ?_)
     · refine R ?_;cases H;rfl
     · refine R ?_;obtain ⟨y14, h15, H⟩ := obnd_some H;refine (c309 h15).go ?_;refine R ?_;refine aR ?_;refine R ?_;obtain ⟨y16, h17, H⟩ := obnd_some H;refine (c310 h17).go ?_;refine R ?_;refine aR ?_;refine R ?_;obtain ⟨y18, h19, H⟩ := obnd_some H;refine (c206 h19).go ?_;refine R ?_;refine aR ?_
       refine R ?_;obtain ⟨y20, h21, H⟩ := obnd_some H;refine (c309 h21).go ?_;refine R ?_;refine aR ?_;refine R ?_;obtain ⟨y22, h23, H⟩ := obnd_some H;refine (c310 h23).go ?_;refine R ?_;refine aR ?_;refine R ?_;obtain ⟨y24, h25, H⟩ := obnd_some H;refine (c212 h25).go ?_;refine R ?_;refine aR ?_
       refine R ?_;refine pw_seq ?_;refine R ?_;obtain ⟨y26, h27, H⟩ := obnd_some H;refine (c311 h27).go ?_;refine R ?_;refine pbr_oite H (fun g28 H => ?_) (fun g28 H => ?_)
       · (conv=>whnf);refine pw_so ?_;refine po_ops 4 ?_;(conv=>whnf);obtain ⟨r29, h30, H⟩ := obnd_some H;refine po_seg (τ := Bool) 4 (fun e => ⟨[(7, (VS 1 (y18.1.map eI))), (8, (iV y18.2.1)), (10, (VS 1 (y24.1.map eI))), (56, (.bool e))], ⟨2, [(1, .rw [(iV a3), (iV a4), (iV a5), (VS 3 (a6.map e_III))]), (0, .rw [(iV a0), (iV a1), (VS 4 (a2.map e_SIII))])], false⟩⟩) r29 ?_ ?_
         · refine R ?_;refine pbr_oite h30 (fun g31 h30 => ?_) (fun g31 h30 => ?_)
           · refine R ?_;cases h30;exact cr
           · refine R ?_;cases h30;exact cr
         · refine po_ops 1 ?_;(conv=>whnf);obtain ⟨r32, h33, H⟩ := obnd_some H;refine po_seg (τ := Bool) 7 (fun e => ⟨[(8, (iV y18.2.1)), (64, (.bool e))], ⟨2, [(1, .rw [(iV a3), (iV a4), (iV a5), (VS 3 (a6.map e_III))]), (0, .rw [(iV a0), (iV a1), (VS 4 (a2.map e_SIII))])], false⟩⟩) r32 ?_ ?_
           · refine R ?_;refine pbr_oite h33 (fun g34 h33 => ?_) (fun g34 h33 => ?_)
             · refine R ?_;cases h33;exact cr
             · refine R ?_;cases h33;exact cr
           · refine po_ops 1 ?_;(conv=>whnf);obtain ⟨r35, h36, H⟩ := obnd_some H;refine po_seg (τ := Bool) 3 (fun e => ⟨[(68, (.bool e))], ⟨2, [(1, .rw [(iV a3), (iV a4), (iV a5), (VS 3 (a6.map e_III))]), (0, .rw [(iV a0), (iV a1), (VS 4 (a2.map e_SIII))])], false⟩⟩) r35 ?_ ?_
             · refine R ?_;refine pbr_oite h36 (fun g37 h36 => ?_) (fun g37 h36 => ?_)
               · refine R ?_;cases h36;exact cr
               · refine R ?_;cases h36;exact cr
             · refine R ?_;cases H;rfl
       · refine R ?_;obtain ⟨r38, h39, h40, h41⟩ := obndS_some H;refine pw_joinS (ρ := Unit) (fun e => ⟨[(3, (pV 0 0)), (4, (pV 1 0)), (7, (VS 1 (y18.1.map eI))), (8, (iV y18.2.1)), (9, (iV y18.2.2))], ⟨2, [(1, .rw [(iV a3), (iV a4), (iV a5), (VS 3 (a6.map e_III))]), (0, .rw [(iV a0), (iV a1), (VS 4 (a2.map e_SIII))])], false⟩⟩) r38 ?_ ?_
         · refine R ?_;obtain ⟨y42, h43, h39⟩ := obnd_some h39;refine (c15 h43).go ?_;refine R ?_;refine pbr_oite h39 (fun g44 h39 => ?_) (fun g44 h39 => ?_)
           · (conv=>whnf);obtain ⟨r45, h46, h39⟩ := obnd_some h39;refine pw_join (ρ := Bool) (fun e => ⟨[(3, (pV 0 0)), (4, (pV 1 0)), (7, (VS 1 (y18.1.map eI))), (8, (iV y18.2.1)), (9, (iV y18.2.2)), (81, (.bool e))], ⟨2, [(1, .rw [(iV a3), (iV a4), (iV a5), (VS 3 (a6.map e_III))]), (0, .rw [(iV a0), (iV a1), (VS 4 (a2.map e_SIII))])], false⟩⟩) r45 ?_ ?_
             · refine R ?_;refine pbr_oite h46 (fun g49 h46 => ?_) (fun g49 h46 => ?_)
               · refine R ?_;cases h46;exact cr
               · refine R ?_;cases h46;exact cr
             · refine R ?_;refine pbr_oite h39 (fun g50 h39 => ?_) (fun g50 h39 => ?_)
               · refine R ?_;cases h39;obtain rfl := h41 _ rfl;rfl
               · refine R ?_;cases h39;exact ⟨_, rfl, cr⟩
           · (conv=>whnf);obtain ⟨r51, h52, h39⟩ := obnd_some h39;refine pw_join (ρ := Bool) (fun e => ⟨[(3, (pV 0 0)), (4, (pV 1 0)), (7, (VS 1 (y18.1.map eI))), (8, (iV y18.2.1)), (9, (iV y18.2.2)), (92, (.bool e))], ⟨2, [(1, .rw [(iV a3), (iV a4), (iV a5), (VS 3 (a6.map e_III))]), (0, .rw [(iV a0), (iV a1), (VS 4 (a2.map e_SIII))])], false⟩⟩) r51 ?_ ?_
             · refine R ?_;refine pbr_oite h52 (fun g55 h52 => ?_) (fun g55 h52 => ?_)
               · refine R ?_;cases h52;exact cr
               · refine R ?_;obtain ⟨y56, h57, h52⟩ := obnd_some h52;refine (c312 h57).go ?_;refine R ?_;obtain ⟨y58, h59, h52⟩ := obnd_some h52;refine (c26 h59).go ?_;refine R ?_;cases h52;exact cr
             · refine R ?_;refine pbr_oite h39 (fun g60 h39 => ?_) (fun g60 h39 => ?_)
               · refine R ?_;cases h39;obtain rfl := h41 _ rfl;rfl
               · refine R ?_;cases h39;exact ⟨_, rfl, cr⟩
         · intro r61 hr;have H := h40 _ hr;refine R ?_;obtain ⟨y62, h63, H⟩ := obnd_some H;refine (c313 h63).go ?_;refine R ?_;refine pw_seq ?_;refine R ?_;refine pbr_oite H (fun g64 H => ?_) (fun g64 H => ?_)
           · (conv=>whnf);refine pw_so ?_;refine po_ops 3 ?_;(conv=>whnf);obtain ⟨r65, h66, H⟩ := obnd_some H;refine po_seg (τ := Bool) 4 (fun e => ⟨[(8, (iV y18.2.1)), (108, (.bool e))], ⟨2, [(1, .rw [(iV a3), (iV a4), (iV a5), (VS 3 (a6.map e_III))]), (0, .rw [(iV a0), (iV a1), (VS 4 (a2.map e_SIII))])], false⟩⟩) r65 ?_ ?_
             · refine R ?_;refine pbr_oite h66 (fun g67 h66 => ?_) (fun g67 h66 => ?_)
               · refine R ?_;cases h66;exact cr
               · refine R ?_;cases h66;exact cr
             · refine po_ops 1 ?_;(conv=>whnf);obtain ⟨r68, h69, H⟩ := obnd_some H;refine po_seg (τ := Bool) 3 (fun e => ⟨[(112, (.bool e))], ⟨2, [(1, .rw [(iV a3), (iV a4), (iV a5), (VS 3 (a6.map e_III))]), (0, .rw [(iV a0), (iV a1), (VS 4 (a2.map e_SIII))])], false⟩⟩) r68 ?_ ?_
               · refine R ?_;refine pbr_oite h69 (fun g70 h69 => ?_) (fun g70 h69 => ?_)
                 · refine R ?_;cases h69;exact cr
                 · refine R ?_;cases h69;exact cr
               · refine R ?_;cases H;rfl
           · (conv=>whnf);refine pw_skip ?_;(conv=>whnf);refine pw_so ?_;refine po_ops 3 ?_;(conv=>whnf);obtain ⟨r71, h72, H⟩ := obnd_some H;refine po_seg (τ := Bool) 4 (fun e => ⟨[(8, (iV y18.2.1)), (14, (iV y62.2.1)), (119, (.bool e))], ⟨2, [(1, .rw [(iV a3), (iV a4), (iV a5), (VS 3 (a6.map e_III))]), (0, .rw [(iV a0), (iV a1), (VS 4 (a2.map e_SIII))])], false⟩⟩) r71 ?_ ?_
             · refine R ?_;refine pbr_oite h72 (fun g73 h72 => ?_) (fun g73 h72 => ?_)
               · refine R ?_;obtain ⟨y74, h75, h72⟩ := obnd_some h72;refine (c26 h75).go ?_;refine R ?_;cases h72;exact cr
               · refine R ?_;cases h72;exact cr
             · refine po_ops 1 ?_;(conv=>whnf);obtain ⟨r76, h77, H⟩ := obnd_some H;refine po_seg (τ := Bool) 4 (fun e => ⟨[(124, (.bool e))], ⟨2, [(1, .rw [(iV a3), (iV a4), (iV a5), (VS 3 (a6.map e_III))]), (0, .rw [(iV a0), (iV a1), (VS 4 (a2.map e_SIII))])], false⟩⟩) r76 ?_ ?_
               · refine R ?_;refine pbr_oite h77 (fun g78 h77 => ?_) (fun g78 h77 => ?_)
                 · refine R ?_;cases h77;exact cr
                 · refine R ?_;cases h77;exact cr
               · refine R ?_;cases H;rfl
end Go.Proofs.YtolapannkcdeeaaGreat.AM
