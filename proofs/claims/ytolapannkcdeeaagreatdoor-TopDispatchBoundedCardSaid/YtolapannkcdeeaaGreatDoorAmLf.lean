/- Computations of functions, and that the functions do them (printed by tools/lift.py). Conditions: none. -/
import Derived.Test.YtolapannkcdeeaaGreatDoorAmRun
import Derived.Test.YtolapannkcdeeaaGreatDoorAmLf0
namespace Go.Proofs.YtolapannkcdeeaaGreatDoor.AM
set_option linter.unusedSimpArgs false
set_option linter.unusedVariables false
set_option maxHeartbeats 1000000
open Go Go.RowKit
attribute [local irreducible] ICallV ICalls Recast rng
noncomputable def f327 [LO]  (a0 : Int) (a1 : Int) (a2 : List (ByteArray × Int × Int × Int)) (a3 : Int) (a4 : Int) (a5 : Int) (a6 : List (Int × Int × Int)) (a7 : List Int) : Option Int :=
 oite ((!(ieq ((a7.map eI).length : Int) ((a6.map e_III).length : Int)))) (
 some (10 : Int)
 ) (
 obndS (
 oloop (τ := Int) (ρ := (Unit) ⊕ Int) (fun e6 =>
 oite ((ilt e6 ((a7.map eI).length : Int))) (
 ogrd ((ile 0 e6)) (
 obnd (a7[e6.toNat]?) fun (x11 : Int) =>
 obnd (f15 x11 (0 : Int) ((IntKind.i64.wrap (((a2.map e_SIII).length : Int) - (1 : Int))))) fun (y12 : Bool) =>
 oite (!y12) (
 some (.inr (.inr ((6 : Int))))
 ) (
 some (.inl (IntKind.i64.wrap (e6 + (1 : Int))))))
 ) (
 some (.inr (.inl ())))
 ) (0 : Int)
 ) fun (_ : Unit) =>
 obnd (f356 a0 a1 a2 a3 a4 a5 a6 a7) fun (y18 : Bool) =>
 oite (!y18) (
 some (22 : Int)
 ) (
 some (0 : Int)))
theorem c327 [LO]  {a0 : Int} {a1 : Int} {a2 : List (ByteArray × Int × Int × Int)} {a3 : Int} {a4 : Int} {a5 : Int} {a6 : List (Int × Int × Int)} {a7 : List Int} {x : Int} (H : f327 a0 a1 a2 a3 a4 a5 a6 a7 = some x) : ICalls E 327 [(.agg ⟨[(iV a0), (iV a1), (VS 4 (a2.map e_SIII))]⟩), (.agg ⟨[(iV a3), (iV a4), (iV a5), (VS 3 (a6.map e_III))]⟩), (VS 1 (a7.map eI))] AHeap.none fun v _ => v = (iV x) := by
 refine icalls_fn (pfnw ?_);unfold f327 at H;refine R ?_;refine pw_seq ?_;refine R ?_;refine pbr_oite H (fun g1 H => ?_) (fun g1 H => ?_)
 · refine R ?_;cases H;rfl
 · refine R ?_;obtain ⟨r2, h3, h4, h5⟩ := obndS_some H;refine pw_joinS (ρ := Unit) (fun e => ⟨[(2, (VS 1 (a7.map eI))), (3, (pV 0 0)), (4, (pV 1 0))], ⟨2, [(1, .rw [(iV a3), (iV a4), (iV a5), (VS 3 (a6.map e_III))]), (0, .rw [(iV a0), (iV a1), (VS 4 (a2.map e_SIII))])], false⟩⟩) r2 ?_ ?_
   · refine R ?_;refine pw_loop (τ := Int) (fun e => ⟨[(2, (VS 1 (a7.map eI))), (3, (pV 0 0)), (4, (pV 1 0)), (7, (iV e))], ⟨2, [(1, .rw [(iV a3), (iV a4), (iV a5), (VS 3 (a6.map e_III))]), (0, .rw [(iV a0), (iV a1), (VS 4 (a2.map e_SIII))])], false⟩⟩) h3 ?_ (fun _ => nl rfl) ?_
     · exact sb
     · intro e6 x7 h8;refine pw_seq ?_;refine R ?_;refine pbr_oite h8 (fun g9 h8 => ?_) (fun g9 h8 => ?_)
       · refine R ?_;refine pw_seq ?_;refine R ?_;refine pbr_ogrd h8 (fun g10 h8 => ?_);refine R ?_;refine nth_o (l := a7) h8 (fun x11 _ h8 => ?_);refine R ?_;obtain ⟨y12, h13, h8⟩ := obnd_some h8;refine (c15 h13).go ?_;refine R ?_;refine aR ?_;refine R ?_;refine pbr_oite h8 (fun g14 h8 => ?_) (fun g14 h8 => ?_)
         · refine R ?_;cases h8;refine ⟨_, rfl, ?_⟩;rintro rfl;refine R ?_;obtain rfl := h5 _ rfl;rfl
         · refine R ?_;cases h8;refine ⟨_, rfl, ?_⟩;exact sb
       · refine R ?_;cases h8;refine ⟨_, rfl, ?_⟩;rintro rfl;refine R ?_;exact ⟨_, rfl, cr⟩
   · intro r17 hr;have H := h4 _ hr;refine pw_seq ?_;refine R ?_;obtain ⟨y18, h19, H⟩ := obnd_some H;refine (c356 h19).go ?_;refine R ?_;refine pbr_oite H (fun g20 H => ?_) (fun g20 H => ?_)
     · refine R ?_;cases H;rfl
     · refine R ?_;cases H;rfl
noncomputable def f459 [LO]  (a0 : Int) (a1 : Int) (a2 : List (ByteArray × Int × Int × Int)) (a3 : Int) (a4 : Int) (a5 : Int) (a6 : List (Int × Int × Int)) (a7 : Int) (a8 : List Int) : Option Bool :=
 obnd (f470) fun (y1 : Bool) =>
 oite (!y1) (
 some false
 ) (
 obnd (
 obnd (f307 a0 a1 a2) fun (y8 : Bool) =>
 obnd (
 oite (!y8) (
 some true
 ) (
 obnd (f308 a3 a4 a5 a6) fun (y13 : Bool) =>
 some (!y13))
 ) fun (r10 : Bool) =>
 obnd (
 oite r10 (
 some true
 ) (
 obnd (f311 a0 a1 a2 a3 a4 a5 a6) fun (y18 : Int) =>
 some (!(ieq y18 (0 : Int))))
 ) fun (r15 : Bool) =>
 oite r15 (
 some true
 ) (
 some (ilt (10 : Int) ((a8.map eI).length : Int)))
 ) fun (r4 : Bool) =>
 oite r4 (
 some true
 ) (
 obnd (f309 a0 a1 a2) fun (y22 : Int × Int × (List (ByteArray × Int × Int × Int))) =>
 obnd (f460 y22.1 y22.2.1 y22.2.2) fun (y24 : ByteArray) =>
 obnd (f462 y24) fun (y26 : Int × Int × (List (ByteArray × Int × Int × Int)) × Int) =>
 obnd (f310 a3 a4 a5 a6) fun (y28 : Int × Int × Int × (List (Int × Int × Int))) =>
 obnd (f461 y28.1 y28.2.1 y28.2.2.1 y28.2.2.2) fun (y30 : ByteArray) =>
 obnd (f463 y30) fun (y32 : Int × Int × Int × (List (Int × Int × Int)) × Int) =>
 obnd (
 obnd (
 oite ((!(ieq y26.2.2.2 (0 : Int)))) (
 some true
 ) (
 some (!(ieq y32.2.2.2.2 (0 : Int))))
 ) fun (r38 : Bool) =>
 obnd (
 oite r38 (
 some true
 ) (
 obnd (f468 y26.1 y26.2.1 y26.2.2.1 a0 a1 a2) fun (y44 : Bool) =>
 some (!y44))
 ) fun (r41 : Bool) =>
 oite r41 (
 some true
 ) (
 obnd (f469 y32.1 y32.2.1 y32.2.2.1 y32.2.2.2.1 a3 a4 a5 a6) fun (y47 : Bool) =>
 some (!y47))
 ) fun (r34 : Bool) =>
 oite r34 (
 some false
 ) (
 obnd (f206 y26.1 y26.2.1 y26.2.2.1 y32.1 y32.2.1 y32.2.2.1 y32.2.2.2.1) fun (y50 : (List Int) × Int × Int) =>
 oite ((!(ieq y50.2.2 (0 : Int)))) (
 some (ieq y50.2.2 (12 : Int))
 ) (
 obnd (f309 a0 a1 a2) fun (y53 : Int × Int × (List (ByteArray × Int × Int × Int))) =>
 obnd (f310 a3 a4 a5 a6) fun (y55 : Int × Int × Int × (List (Int × Int × Int))) =>
 obnd (f38 y50.1) fun (y57 : (List Int)) =>
 obnd (f322 y53.1 y53.2.1 y53.2.2 y55.1 y55.2.1 y55.2.2.1 y55.2.2.2 y57) fun (y59 : (List Int) × Int) =>
 obnd (
 obnd (
 oite ((!(ieq y59.2 (0 : Int)))) (
 some true
 ) (
 some (!(ieq ((y50.1.map eI).length : Int) ((a6.map e_III).length : Int))))
 ) fun (r65 : Bool) =>
 obnd (
 oite r65 (
 some true
 ) (
 some (!(ieq ((y59.1.map eI).length : Int) (IntKind.i64.wrap (((a6.map e_III).length : Int) + (1 : Int))))))
 ) fun (r68 : Bool) =>
 oite r68 (
 some true
 ) (
 obnd (f15 y50.2.1 (-1000000000000 : Int) (1000000000000 : Int)) fun (y72 : Bool) =>
 some (!y72))
 ) fun (r61 : Bool) =>
 oite r61 (
 some false
 ) (
 obnd (f346 a7 ((a6.map e_III).length : Int)) fun (y75 : Int) =>
 obnd (
 obnd (oslH a6 (IntKind.i64.wrap ((1 : Int) + y75))) fun (m81 : List (Int × Int × Int)) =>
 ogrd (fits 24 (([] : List (Int × Int × Int)).length + m81.length)) (
 some (([] : List (Int × Int × Int)) ++ m81))
 ) fun (r77 : (List (Int × Int × Int))) =>
 obnd (oslH y50.1 (IntKind.i64.wrap ((1 : Int) + y75))) fun (m84 : List Int) =>
 obnd (f309 a0 a1 a2) fun (y87 : Int × Int × (List (ByteArray × Int × Int × Int))) =>
 obnd (f310 a3 a4 (0 : Int) r77) fun (y89 : Int × Int × Int × (List (Int × Int × Int))) =>
 obnd (f38 m84) fun (y91 : (List Int)) =>
 obnd (f323 y87.1 y87.2.1 y87.2.2 y89.1 y89.2.1 y89.2.2.1 y89.2.2.2 y91) fun (y93 : Int × Int) =>
 obnd (
 oite ((!(ieq y93.2 (0 : Int)))) (
 some true
 ) (
 obnd (f15 y93.1 (-1000000000000 : Int) (1000000000000 : Int)) fun (y100 : Bool) =>
 some (!y100))
 ) fun (r95 : Bool) =>
 oite r95 (
 some false
 ) (
 obndS (
 oite ((ilt (IntKind.i64.wrap ((1 : Int) + y75)) ((a6.map e_III).length : Int))) (
 obnd (
 ogrd ((ile 0 (IntKind.i64.wrap ((1 : Int) + y75)))) (
 obnd (y59.1[(IntKind.i64.wrap ((1 : Int) + y75)).toNat]?) fun (x113 : Int) =>
 ogrd ((ile 0 (IntKind.i64.wrap ((IntKind.i64.wrap ((1 : Int) + y75)) - (1 : Int))))) (
 obnd (y50.1[(IntKind.i64.wrap ((IntKind.i64.wrap ((1 : Int) + y75)) - (1 : Int))).toNat]?) fun (x115 : Int) =>
 obnd (oslL a6 (IntKind.i64.wrap ((1 : Int) + y75))) fun (m116 : List (Int × Int × Int)) =>
 ogrd (fits 24 (([] : List (Int × Int × Int)).length + m116.length)) (
 some (x113, x115, (([] : List (Int × Int × Int)) ++ m116)))))
 ) fun (r108 : Int × Int × (List (Int × Int × Int))) =>
 obnd (f309 a0 a1 a2) fun (y119 : Int × Int × (List (ByteArray × Int × Int × Int))) =>
 obnd (f310 r108.1 r108.2.1 a5 r108.2.2) fun (y121 : Int × Int × Int × (List (Int × Int × Int))) =>
 obnd (f206 y119.1 y119.2.1 y119.2.2 y121.1 y121.2.1 y121.2.2.1 y121.2.2.2) fun (y123 : (List Int) × Int × Int) =>
 obnd (
 obnd (
 oite ((!(ieq y123.2.2 (0 : Int)))) (
 some true
 ) (
 obnd (oslL y50.1 (IntKind.i64.wrap ((1 : Int) + y75))) fun (m132 : List Int) =>
 obnd (f26 y123.1 m132) fun (y135 : Bool) =>
 some (!y135))
 ) fun (r129 : Bool) =>
 obnd (
 oite r129 (
 some true
 ) (
 obnd (f15 y123.2.1 (-1000000000000 : Int) (1000000000000 : Int)) fun (y140 : Bool) =>
 some (!y140))
 ) fun (r137 : Bool) =>
 oite r137 (
 some true
 ) (
 some (!(ieq (IntKind.i64.wrap (y93.1 + y123.2.1)) y50.2.1)))
 ) fun (r125 : Bool) =>
 oite r125 (
 some (.inr (false))
 ) (
 obnd (f309 a0 a1 a2) fun (y144 : Int × Int × (List (ByteArray × Int × Int × Int))) =>
 obnd (f310 r108.1 r108.2.1 a5 r108.2.2) fun (y146 : Int × Int × Int × (List (Int × Int × Int))) =>
 obnd (f345 y144.1 y144.2.1 y144.2.2 y146.1 y146.2.1 y146.2.2.1 y146.2.2.2) fun (y148 : (List ((List Int))) × Int) =>
 obnd (f309 a0 a1 a2) fun (y150 : Int × Int × (List (ByteArray × Int × Int × Int))) =>
 obnd (f310 r108.1 r108.2.1 a5 r108.2.2) fun (y152 : Int × Int × Int × (List (Int × Int × Int))) =>
 obnd (f331 y150.1 y150.2.1 y150.2.2 y152.1 y152.2.1 y152.2.2.1 y152.2.2.2 y148.1) fun (y154 : Int × Int) =>
 obnd (
 obnd (
 oite ((!(ieq y148.2 (0 : Int)))) (
 some true
 ) (
 some (!(ieq y154.2 (0 : Int))))
 ) fun (r160 : Bool) =>
 oite r160 (
 some true
 ) (
 some (!(ieq y154.1 y123.2.1)))
 ) fun (r156 : Bool) =>
 oite r156 (
 some (.inr (false))
 ) (
 some (.inl ())))
 ) (
 some (.inl ()))
 ) fun (_ : Unit) =>
 obnd (f327 a0 a1 a2 a3 a4 (0 : Int) r77 a8) fun (y166 : Int) =>
 oite ((!(ieq y166 (0 : Int)))) (
 some true
 ) (
 obnd (f309 a0 a1 a2) fun (y169 : Int × Int × (List (ByteArray × Int × Int × Int))) =>
 obnd (f310 a3 a4 (0 : Int) r77) fun (y171 : Int × Int × Int × (List (Int × Int × Int))) =>
 obnd (f38 a8) fun (y173 : (List Int)) =>
 obnd (f322 y169.1 y169.2.1 y169.2.2 y171.1 y171.2.1 y171.2.2.1 y171.2.2.2 y173) fun (y175 : (List Int) × Int) =>
 obnd (f309 a0 a1 a2) fun (y177 : Int × Int × (List (ByteArray × Int × Int × Int))) =>
 obnd (f38 a8) fun (y179 : (List Int)) =>
 obnd (f323 y177.1 y177.2.1 y177.2.2 a3 a4 (0 : Int) r77 y179) fun (y181 : Int × Int) =>
 obnd (
 obnd (
 oite ((!(ieq y175.2 (0 : Int)))) (
 some true
 ) (
 some (!(ieq y181.2 (0 : Int))))
 ) fun (r187 : Bool) =>
 oite r187 (
 some true
 ) (
 some (!(ieq ((y175.1.map eI).length : Int) (IntKind.i64.wrap ((IntKind.i64.wrap ((1 : Int) + y75)) + (1 : Int))))))
 ) fun (r183 : Bool) =>
 oite r183 (
 some false
 ) (
 ogrd ((ile 0 (IntKind.i64.wrap ((1 : Int) + y75)))) (
 obnd (y175.1[(IntKind.i64.wrap ((1 : Int) + y75)).toNat]?) fun (x193 : Int) =>
 obnd (y59.1[(IntKind.i64.wrap ((1 : Int) + y75)).toNat]?) fun (x194 : Int) =>
 oite ((!(ieq x193 x194))) (
 some true
 ) (
 ogrd ((ile 0 (IntKind.i64.wrap ((IntKind.i64.wrap ((1 : Int) + y75)) - (1 : Int))))) (
 obnd (a8[(IntKind.i64.wrap ((IntKind.i64.wrap ((1 : Int) + y75)) - (1 : Int))).toNat]?) fun (x197 : Int) =>
 obnd (y50.1[(IntKind.i64.wrap ((IntKind.i64.wrap ((1 : Int) + y75)) - (1 : Int))).toNat]?) fun (x198 : Int) =>
 oite ((!(ieq x197 x198))) (
 some true
 ) (
 some (ile y181.1 y93.1)))))))))))))
theorem c459 [LO]  {a0 : Int} {a1 : Int} {a2 : List (ByteArray × Int × Int × Int)} {a3 : Int} {a4 : Int} {a5 : Int} {a6 : List (Int × Int × Int)} {a7 : Int} {a8 : List Int} {x : Bool} (H : f459 a0 a1 a2 a3 a4 a5 a6 a7 a8 = some x) : ICalls E 459 [(.agg ⟨[(iV a0), (iV a1), (VS 4 (a2.map e_SIII))]⟩), (.agg ⟨[(iV a3), (iV a4), (iV a5), (VS 3 (a6.map e_III))]⟩), (.agg ⟨[(iV a7), (VS 1 (a8.map eI))]⟩)] AHeap.none fun v _ => v = (.bool x) := by
  refine icalls_fn (pfnw ?_);unfold f459 at H;refine R ?_;refine pw_seq ?_;refine R ?_;obtain ⟨y1, h2, H⟩ := obnd_some H;refine (c470 h2).go ?_;refine R ?_;refine pbr_oite H (fun g3 H => ?_) (fun g3 H => ?_)
  · refine R ?_;cases H;rfl
  · refine R ?_;refine pw_seq ?_;obtain ⟨r4, h5, H⟩ := obnd_some H;refine pw_join (ρ := Bool) (fun e => ⟨[(3, (pV 0 0)), (4, (pV 1 0)), (5, (pV 2 0)), (50, (.bool e))], ⟨3, [(2, .rw [(iV a7), (VS 1 (a8.map eI))]), (1, .rw [(iV a3), (iV a4), (iV a5), (VS 3 (a6.map e_III))]), (0, .rw [(iV a0), (iV a1), (VS 4 (a2.map e_SIII))])], false⟩⟩) r4 ?_ ?_
    · refine pw_ops ?_;refine po_ops 4 ?_;(conv=>whnf);obtain ⟨y8, h9, h5⟩ := obnd_some h5;refine (c307 h9).go ?_;(conv=>whnf);obtain ⟨r10, h11, h5⟩ := obnd_some h5;refine po_seg (τ := Bool) 4 (fun e => ⟨[(3, (pV 0 0)), (4, (pV 1 0)), (5, (pV 2 0)), (38, (.bool e))], ⟨3, [(2, .rw [(iV a7), (VS 1 (a8.map eI))]), (1, .rw [(iV a3), (iV a4), (iV a5), (VS 3 (a6.map e_III))]), (0, .rw [(iV a0), (iV a1), (VS 4 (a2.map e_SIII))])], false⟩⟩) r10 ?_ ?_
      · refine R ?_;refine pbr_oite h11 (fun g12 h11 => ?_) (fun g12 h11 => ?_)
        · refine R ?_;cases h11;exact cr
        · refine R ?_;obtain ⟨y13, h14, h11⟩ := obnd_some h11;refine (c308 h14).go ?_;refine R ?_;cases h11;exact cr
      · refine po_ops 1 ?_;(conv=>whnf);obtain ⟨r15, h16, h5⟩ := obnd_some h5;refine po_seg (τ := Bool) 5 (fun e => ⟨[(3, (pV 0 0)), (4, (pV 1 0)), (5, (pV 2 0)), (44, (.bool e))], ⟨3, [(2, .rw [(iV a7), (VS 1 (a8.map eI))]), (1, .rw [(iV a3), (iV a4), (iV a5), (VS 3 (a6.map e_III))]), (0, .rw [(iV a0), (iV a1), (VS 4 (a2.map e_SIII))])], false⟩⟩) r15 ?_ ?_
        · refine R ?_;refine pbr_oite h16 (fun g17 h16 => ?_) (fun g17 h16 => ?_)
          · refine R ?_;cases h16;exact cr
          · refine R ?_;obtain ⟨y18, h19, h16⟩ := obnd_some h16;refine (c311 h19).go ?_;refine R ?_;cases h16;exact cr
        · refine R ?_;refine pbr_oite h5 (fun g20 h5 => ?_) (fun g20 h5 => ?_)
          · refine R ?_;cases h5;exact cr
          · refine R ?_;cases h5;exact cr
    · refine R ?_;refine pbr_oite H (fun g21 H => ?_) (fun g21 H => ?_)
      · refine R ?_;cases H;rfl
      · refine R ?_;obtain ⟨y22, h23, H⟩ := obnd_some H;refine (c309 h23).go ?_;refine R ?_;obtain ⟨y24, h25, H⟩ := obnd_some H;refine (c460 h25).go ?_;refine R ?_;obtain ⟨y26, h27, H⟩ := obnd_some H;refine (c462 h27).go ?_;refine R ?_;obtain ⟨y28, h29, H⟩ := obnd_some H;refine (c310 h29).go ?_;refine R ?_;obtain ⟨y30, h31, H⟩ := obnd_some H;refine (c461 h31).go ?_;refine R ?_;obtain ⟨y32, h33, H⟩ := obnd_some H;refine (c463 h33).go ?_;refine R ?_;refine pw_seq ?_;obtain ⟨r34, h35, H⟩ := obnd_some H
        refine pw_join (ρ := Bool) (fun e => ⟨[(3, (pV 0 0)), (4, (pV 1 0)), (5, (pV 2 0)), (7, (pV 3 0)), (9, (pV 4 0)), (82, (.bool e))], ⟨5, [(4, .rw [(iV y32.1), (iV y32.2.1), (iV y32.2.2.1), (VS 3 (y32.2.2.2.1.map e_III))]), (3, .rw [(iV y26.1), (iV y26.2.1), (VS 4 (y26.2.2.1.map e_SIII))]), (2, .rw [(iV a7), (VS 1 (a8.map eI))]), (1, .rw [(iV a3), (iV a4), (iV a5), (VS 3 (a6.map e_III))]), (0, .rw [(iV a0), (iV a1), (VS 4 (a2.map e_SIII))])], false⟩⟩) r34 ?_ ?_
        · refine pw_ops ?_;refine po_ops 3 ?_;(conv=>whnf);obtain ⟨r38, h39, h35⟩ := obnd_some h35;refine po_seg (τ := Bool) 3 (fun e => ⟨[(3, (pV 0 0)), (4, (pV 1 0)), (5, (pV 2 0)), (7, (pV 3 0)), (9, (pV 4 0)), (70, (.bool e))], ⟨5, [(4, .rw [(iV y32.1), (iV y32.2.1), (iV y32.2.2.1), (VS 3 (y32.2.2.2.1.map e_III))]), (3, .rw [(iV y26.1), (iV y26.2.1), (VS 4 (y26.2.2.1.map e_SIII))]), (2, .rw [(iV a7), (VS 1 (a8.map eI))]), (1, .rw [(iV a3), (iV a4), (iV a5), (VS 3 (a6.map e_III))]), (0, .rw [(iV a0), (iV a1), (VS 4 (a2.map e_SIII))])], false⟩⟩) r38 ?_ ?_
          · refine R ?_;refine pbr_oite h39 (fun g40 h39 => ?_) (fun g40 h39 => ?_)
            · refine R ?_;cases h39;exact cr
            · refine R ?_;cases h39;exact cr
          · refine po_ops 1 ?_;(conv=>whnf);obtain ⟨r41, h42, h35⟩ := obnd_some h35;refine po_seg (τ := Bool) 5 (fun e => ⟨[(3, (pV 0 0)), (4, (pV 1 0)), (5, (pV 2 0)), (7, (pV 3 0)), (9, (pV 4 0)), (76, (.bool e))], ⟨5, [(4, .rw [(iV y32.1), (iV y32.2.1), (iV y32.2.2.1), (VS 3 (y32.2.2.2.1.map e_III))]), (3, .rw [(iV y26.1), (iV y26.2.1), (VS 4 (y26.2.2.1.map e_SIII))]), (2, .rw [(iV a7), (VS 1 (a8.map eI))]), (1, .rw [(iV a3), (iV a4), (iV a5), (VS 3 (a6.map e_III))]), (0, .rw [(iV a0), (iV a1), (VS 4 (a2.map e_SIII))])], false⟩⟩) r41 ?_ ?_
            · refine R ?_;refine pbr_oite h42 (fun g43 h42 => ?_) (fun g43 h42 => ?_)
              · refine R ?_;cases h42;exact cr
              · refine R ?_;obtain ⟨y44, h45, h42⟩ := obnd_some h42;refine (c468 h45).go ?_;refine R ?_;cases h42;exact cr
            · refine R ?_;refine pbr_oite h35 (fun g46 h35 => ?_) (fun g46 h35 => ?_)
              · refine R ?_;cases h35;exact cr
              · refine R ?_;obtain ⟨y47, h48, h35⟩ := obnd_some h35;refine (c469 h48).go ?_;refine R ?_;cases h35;exact cr
        · refine R ?_;refine pbr_oite H (fun g49 H => ?_) (fun g49 H => ?_)
          · refine R ?_;cases H;rfl
          · refine R ?_;obtain ⟨y50, h51, H⟩ := obnd_some H;refine (c206 h51).go ?_;refine R ?_;refine pw_seq ?_;refine R ?_;refine pbr_oite H (fun g52 H => ?_) (fun g52 H => ?_)
            · refine R ?_;cases H;rfl
            · refine R ?_;obtain ⟨y53, h54, H⟩ := obnd_some H;refine (c309 h54).go ?_;refine R ?_;refine aR ?_;refine R ?_;obtain ⟨y55, h56, H⟩ := obnd_some H;refine (c310 h56).go ?_;refine R ?_;refine aR ?_;refine R ?_;obtain ⟨y57, h58, H⟩ := obnd_some H;refine (c38 h58).go ?_;refine R ?_;refine aR ?_
              refine R ?_;obtain ⟨y59, h60, H⟩ := obnd_some H;refine (c322 h60).go ?_;refine R ?_;refine aR ?_;refine R ?_;refine pw_seq ?_;obtain ⟨r61, h62, H⟩ := obnd_some H;refine pw_join (ρ := Bool) (fun e => ⟨[(3, (pV 0 0)), (4, (pV 1 0)), (5, (pV 2 0)), (11, (VS 1 (y50.1.map eI))), (12, (iV y50.2.1)), (13, (VS 1 (y59.1.map eI))), (127, (.bool e))], ⟨5, [(4, .rw [(iV y32.1), (iV y32.2.1), (iV y32.2.2.1), (VS 3 (y32.2.2.2.1.map e_III))]), (3, .rw [(iV y26.1), (iV y26.2.1), (VS 4 (y26.2.2.1.map e_SIII))]), (2, .rw [(iV a7), (VS 1 (a8.map eI))]), (1, .rw [(iV a3), (iV a4), (iV a5), (VS 3 (a6.map e_III))]), (0, .rw [(iV a0), (iV a1), (VS 4 (a2.map e_SIII))])], false⟩⟩) r61 ?_ ?_
              · refine pw_ops ?_;refine po_ops 3 ?_;(conv=>whnf);obtain ⟨r65, h66, h62⟩ := obnd_some h62;refine po_seg (τ := Bool) 7 (fun e => ⟨[(3, (pV 0 0)), (4, (pV 1 0)), (5, (pV 2 0)), (11, (VS 1 (y50.1.map eI))), (12, (iV y50.2.1)), (13, (VS 1 (y59.1.map eI))), (113, (.bool e))], ⟨5, [(4, .rw [(iV y32.1), (iV y32.2.1), (iV y32.2.2.1), (VS 3 (y32.2.2.2.1.map e_III))]), (3, .rw [(iV y26.1), (iV y26.2.1), (VS 4 (y26.2.2.1.map e_SIII))]), (2, .rw [(iV a7), (VS 1 (a8.map eI))]), (1, .rw [(iV a3), (iV a4), (iV a5), (VS 3 (a6.map e_III))]), (0, .rw [(iV a0), (iV a1), (VS 4 (a2.map e_SIII))])], false⟩⟩) r65 ?_ ?_
                · refine R ?_;refine pbr_oite h66 (fun g67 h66 => ?_) (fun g67 h66 => ?_)
                  · refine R ?_;cases h66;exact cr
                  · refine R ?_;cases h66;exact cr
                · refine po_ops 1 ?_;(conv=>whnf);obtain ⟨r68, h69, h62⟩ := obnd_some h62;refine po_seg (τ := Bool) 8 (fun e => ⟨[(3, (pV 0 0)), (4, (pV 1 0)), (5, (pV 2 0)), (11, (VS 1 (y50.1.map eI))), (12, (iV y50.2.1)), (13, (VS 1 (y59.1.map eI))), (122, (.bool e))], ⟨5, [(4, .rw [(iV y32.1), (iV y32.2.1), (iV y32.2.2.1), (VS 3 (y32.2.2.2.1.map e_III))]), (3, .rw [(iV y26.1), (iV y26.2.1), (VS 4 (y26.2.2.1.map e_SIII))]), (2, .rw [(iV a7), (VS 1 (a8.map eI))]), (1, .rw [(iV a3), (iV a4), (iV a5), (VS 3 (a6.map e_III))]), (0, .rw [(iV a0), (iV a1), (VS 4 (a2.map e_SIII))])], false⟩⟩) r68 ?_ ?_
                  · refine R ?_;refine pbr_oite h69 (fun g70 h69 => ?_) (fun g70 h69 => ?_)
                    · refine R ?_;cases h69;exact cr
                    · refine R ?_;cases h69;exact cr
                  · refine R ?_;refine pbr_oite h62 (fun g71 h62 => ?_) (fun g71 h62 => ?_)
                    · refine R ?_;cases h62;exact cr
                    · refine R ?_;obtain ⟨y72, h73, h62⟩ := obnd_some h62;refine (c15 h73).go ?_;refine R ?_;cases h62;exact cr
              · refine R ?_;refine pbr_oite H (fun g74 H => ?_) (fun g74 H => ?_)
                · refine R ?_;cases H;rfl
                · (conv=>whnf);refine pw_skip ?_;(conv=>whnf);refine pwa ?_;(conv=>whnf);obtain ⟨y75, h76, H⟩ := obnd_some H;refine (c346 h76).go ?_;(conv=>whnf);obtain ⟨r77, h78, H⟩ := obnd_some H;refine pw_joinR (ρ := (List (Int × Int × Int))) (fun e => ⟨[(3, (pV 0 0)), (4, (pV 1 0)), (5, (pV 2 0)), (11, (VS 1 (y50.1.map eI))), (12, (iV y50.2.1)), (13, (VS 1 (y59.1.map eI))), (14, (iV (IntKind.i64.wrap ((1 : Int) + y75)))), (15, (pV 5 0))], ⟨6, [(5, .rw [(iV a3), (iV a4), (iV 0), (VS 3 (e.map e_III))]), (4, .rw [(iV y32.1), (iV y32.2.1), (iV y32.2.2.1), (VS 3 (y32.2.2.2.1.map e_III))]), (3, .rw [(iV y26.1), (iV y26.2.1), (VS 4 (y26.2.2.1.map e_SIII))]), (2, .rw [(iV a7), (VS 1 (a8.map eI))]), (1, .rw [(iV a3), (iV a4), (iV a5), (VS 3 (a6.map e_III))]), (0, .rw [(iV a0), (iV a1), (VS 4 (a2.map e_SIII))])], false⟩⟩) r77 ?_ ?_
                  · refine R ?_;refine oslH_o (f := e_III) h78 (fun m81 _ h78 h82 h83 => ?_);refine pbr_t (ile_t h82.1) ?_;refine R ?_;refine pbr_t (ile_t (by simpa only [List.length_map] using h82.2)) ?_;rw [h83];refine R ?_;refine ⟨?_, ?_⟩
                    · refine R ?_;refine aR ?_;refine R ?_;refine ⟨?_, ?_⟩
                      · refine R ?_;refine app_o (l := ([] : List (Int × Int × Int))) (m := m81) (f := e_III) h78 (by rfl) (by rfl) (by rfl) (fun h78 => ?_);refine R ?_;refine aR ?_;refine R ?_;refine aR ?_;refine R ?_;refine aR ?_;refine R ?_;cases h78;refine Recast.trans (s' := ⟨[(3, (pV 0 0)), (4, (pV 1 0)), (5, (pV 2 0)), (11, (VS 1 (y50.1.map eI))), (12, (iV y50.2.1)), (13, (VS 1 (y59.1.map eI))), (14, (iV (IntKind.i64.wrap ((1 : Int) + y75)))), (15, (pV 6 0))], ⟨7, [(6, .rw [(iV a3), (iV a4), (iV 0), (VS 3 ((([] : List (Int × Int × Int)) ++ m81).map e_III))]), (5, .tail ((([] : List (Int × Int × Int)) ++ m81).map e_III).length 3), (4, .rw [(iV y32.1), (iV y32.2.1), (iV y32.2.2.1), (VS 3 (y32.2.2.2.1.map e_III))]), (3, .rw [(iV y26.1), (iV y26.2.1), (VS 4 (y26.2.2.1.map e_SIII))]), (2, .rw [(iV a7), (VS 1 (a8.map eI))]), (1, .rw [(iV a3), (iV a4), (iV a5), (VS 3 (a6.map e_III))]), (0, .rw [(iV a0), (iV a1), (VS 4 (a2.map e_SIII))])], false⟩⟩) (Recast.wkrowl (b := 6) (c2 := [(iV a3), (iV a4), (iV 0), (VS 3 ((([] : List (Int × Int × Int)) ++ m81).map e_III))]) (nl rfl) rfl rfl rfl (.cons (.refl _) (.cons (.refl _) (.cons (.refl _) (.cons (.vt _ _ _) .nil))))) ?_
                        refine Recast.trans (s' := ⟨[(3, (pV 0 0)), (4, (pV 1 0)), (5, (pV 2 0)), (11, (VS 1 (y50.1.map eI))), (12, (iV y50.2.1)), (13, (VS 1 (y59.1.map eI))), (14, (iV (IntKind.i64.wrap ((1 : Int) + y75)))), (15, (pV 6 0))], ⟨7, [(6, .rw [(iV a3), (iV a4), (iV 0), (VS 3 ((([] : List (Int × Int × Int)) ++ m81).map e_III))]), (4, .rw [(iV y32.1), (iV y32.2.1), (iV y32.2.2.1), (VS 3 (y32.2.2.2.1.map e_III))]), (3, .rw [(iV y26.1), (iV y26.2.1), (VS 4 (y26.2.2.1.map e_SIII))]), (2, .rw [(iV a7), (VS 1 (a8.map eI))]), (1, .rw [(iV a3), (iV a4), (iV a5), (VS 3 (a6.map e_III))]), (0, .rw [(iV a0), (iV a1), (VS 4 (a2.map e_SIII))])], false⟩⟩) (Recast.fz (fun _ => false) (nl rfl) (.cons (.same rfl rfl (OBnd.rwl (nl rfl) rfl (.cons .cl (.cons .cl (.cons .cl (.cons .cl .nil)))))) (.cons (.same rfl rfl (OBnd.rwl (nl rfl) rfl (.cons .cl (.cons .cl (.cons .cl (.cons .cl .nil)))))) (.cons (.same rfl rfl (OBnd.rwl (nl rfl) rfl (.cons .cl (.cons .cl (.cons .cl .nil))))) (.cons (.same rfl rfl (OBnd.rwl (nl rfl) rfl (.cons .cl (.cons .cl .nil)))) (.cons (.same rfl rfl (OBnd.rwl (nl rfl) rfl (.cons .cl (.cons .cl (.cons .cl (.cons .cl .nil)))))) (.cons (.same rfl rfl (OBnd.rwl (nl rfl) rfl (.cons .cl (.cons .cl (.cons .cl .nil))))) .nil)))))) (.cons rfl (.same _ (.ptr (nl rfl))) (.cons rfl (.same _ (.ptr (nl rfl))) (.cons rfl (.same _ (.ptr (nl rfl))) (.cons rfl (.same _ .cl) (.cons rfl (.same _ .cl) (.cons rfl (.same _ .cl) (.cons rfl (.same _ .cl) (.cons rfl (.same _ (.ptr (nl rfl))) .nil))))))))) ?_
                        exact (Recast.mv 6 5 (nl rfl) (nl rfl) (.cons (.mv rfl (nl rfl) rfl rfl (.of (.cons .cl (.cons .cl (.cons .cl (.cons .cl .nil)))))) (.cons (.rw (nn rfl) (nn rfl) (nl rfl) rfl rfl (.of (.cons .cl (.cons .cl (.cons .cl (.cons .cl .nil)))))) (.cons (.rw (nn rfl) (nn rfl) (nl rfl) rfl rfl (.of (.cons .cl (.cons .cl (.cons .cl .nil))))) (.cons (.rw (nn rfl) (nn rfl) (nl rfl) rfl rfl (.of (.cons .cl (.cons .cl .nil)))) (.cons (.rw (nn rfl) (nn rfl) (nl rfl) rfl rfl (.of (.cons .cl (.cons .cl (.cons .cl (.cons .cl .nil)))))) (.cons (.rw (nn rfl) (nn rfl) (nl rfl) rfl rfl (.of (.cons .cl (.cons .cl (.cons .cl .nil))))) .nil)))))) (.cons rfl (.ptr (nn rfl) (nl rfl)) (.cons rfl (.ptr (nn rfl) (nl rfl)) (.cons rfl (.ptr (nn rfl) (nl rfl)) (.cons rfl .cl (.cons rfl .cl (.cons rfl .cl (.cons rfl .cl (.cons rfl (.ptrm (nl rfl)) .nil)))))))))
                      · refine R ?_;refine aR ?_;refine R ?_;refine app_o (l := ([] : List (Int × Int × Int))) (m := m81) (f := e_III) h78 (by rfl) (by rfl) (by rfl) (fun h78 => ?_);refine R ?_;refine aR ?_;refine R ?_;refine aR ?_;refine R ?_;cases h78;refine Recast.trans (s' := ⟨[(3, (pV 0 0)), (4, (pV 1 0)), (5, (pV 2 0)), (11, (VS 1 (y50.1.map eI))), (12, (iV y50.2.1)), (13, (VS 1 (y59.1.map eI))), (14, (iV (IntKind.i64.wrap ((1 : Int) + y75)))), (15, (pV 6 0))], ⟨7, [(6, .rw [(iV a3), (iV a4), (iV 0), (VS 3 ((([] : List (Int × Int × Int)) ++ m81).map e_III))]), (5, .tail ((([] : List (Int × Int × Int)) ++ m81).map e_III).length 3), (4, .rw [(iV y32.1), (iV y32.2.1), (iV y32.2.2.1), (VS 3 (y32.2.2.2.1.map e_III))]), (3, .rw [(iV y26.1), (iV y26.2.1), (VS 4 (y26.2.2.1.map e_SIII))]), (2, .rw [(iV a7), (VS 1 (a8.map eI))]), (1, .rw [(iV a3), (iV a4), (iV a5), (VS 3 (a6.map e_III))]), (0, .rw [(iV a0), (iV a1), (VS 4 (a2.map e_SIII))])], false⟩⟩) (Recast.wkrowl (b := 6) (c2 := [(iV a3), (iV a4), (iV 0), (VS 3 ((([] : List (Int × Int × Int)) ++ m81).map e_III))]) (nl rfl) rfl rfl rfl (.cons (.refl _) (.cons (.refl _) (.cons (.refl _) (.cons (.vt _ _ _) .nil))))) ?_
                        refine Recast.trans (s' := ⟨[(3, (pV 0 0)), (4, (pV 1 0)), (5, (pV 2 0)), (11, (VS 1 (y50.1.map eI))), (12, (iV y50.2.1)), (13, (VS 1 (y59.1.map eI))), (14, (iV (IntKind.i64.wrap ((1 : Int) + y75)))), (15, (pV 6 0))], ⟨7, [(6, .rw [(iV a3), (iV a4), (iV 0), (VS 3 ((([] : List (Int × Int × Int)) ++ m81).map e_III))]), (4, .rw [(iV y32.1), (iV y32.2.1), (iV y32.2.2.1), (VS 3 (y32.2.2.2.1.map e_III))]), (3, .rw [(iV y26.1), (iV y26.2.1), (VS 4 (y26.2.2.1.map e_SIII))]), (2, .rw [(iV a7), (VS 1 (a8.map eI))]), (1, .rw [(iV a3), (iV a4), (iV a5), (VS 3 (a6.map e_III))]), (0, .rw [(iV a0), (iV a1), (VS 4 (a2.map e_SIII))])], false⟩⟩) (Recast.fz (fun _ => false) (nl rfl) (.cons (.same rfl rfl (OBnd.rwl (nl rfl) rfl (.cons .cl (.cons .cl (.cons .cl (.cons .cl .nil)))))) (.cons (.same rfl rfl (OBnd.rwl (nl rfl) rfl (.cons .cl (.cons .cl (.cons .cl (.cons .cl .nil)))))) (.cons (.same rfl rfl (OBnd.rwl (nl rfl) rfl (.cons .cl (.cons .cl (.cons .cl .nil))))) (.cons (.same rfl rfl (OBnd.rwl (nl rfl) rfl (.cons .cl (.cons .cl .nil)))) (.cons (.same rfl rfl (OBnd.rwl (nl rfl) rfl (.cons .cl (.cons .cl (.cons .cl (.cons .cl .nil)))))) (.cons (.same rfl rfl (OBnd.rwl (nl rfl) rfl (.cons .cl (.cons .cl (.cons .cl .nil))))) .nil)))))) (.cons rfl (.same _ (.ptr (nl rfl))) (.cons rfl (.same _ (.ptr (nl rfl))) (.cons rfl (.same _ (.ptr (nl rfl))) (.cons rfl (.same _ .cl) (.cons rfl (.same _ .cl) (.cons rfl (.same _ .cl) (.cons rfl (.same _ .cl) (.cons rfl (.same _ (.ptr (nl rfl))) .nil))))))))) ?_
                        exact (Recast.mv 6 5 (nl rfl) (nl rfl) (.cons (.mv rfl (nl rfl) rfl rfl (.of (.cons .cl (.cons .cl (.cons .cl (.cons .cl .nil)))))) (.cons (.rw (nn rfl) (nn rfl) (nl rfl) rfl rfl (.of (.cons .cl (.cons .cl (.cons .cl (.cons .cl .nil)))))) (.cons (.rw (nn rfl) (nn rfl) (nl rfl) rfl rfl (.of (.cons .cl (.cons .cl (.cons .cl .nil))))) (.cons (.rw (nn rfl) (nn rfl) (nl rfl) rfl rfl (.of (.cons .cl (.cons .cl .nil)))) (.cons (.rw (nn rfl) (nn rfl) (nl rfl) rfl rfl (.of (.cons .cl (.cons .cl (.cons .cl (.cons .cl .nil)))))) (.cons (.rw (nn rfl) (nn rfl) (nl rfl) rfl rfl (.of (.cons .cl (.cons .cl (.cons .cl .nil))))) .nil)))))) (.cons rfl (.ptr (nn rfl) (nl rfl)) (.cons rfl (.ptr (nn rfl) (nl rfl)) (.cons rfl (.ptr (nn rfl) (nl rfl)) (.cons rfl .cl (.cons rfl .cl (.cons rfl .cl (.cons rfl .cl (.cons rfl (.ptrm (nl rfl)) .nil)))))))))
                    · refine R ?_;refine aR ?_;refine R ?_;refine aR ?_;refine R ?_;refine app_o (l := ([] : List (Int × Int × Int))) (m := m81) (f := e_III) h78 (by rfl) (by rfl) (by rfl) (fun h78 => ?_);refine R ?_;refine aR ?_;refine R ?_;refine aR ?_
                      refine R ?_;cases h78;refine Recast.trans (s' := ⟨[(3, (pV 0 0)), (4, (pV 1 0)), (5, (pV 2 0)), (11, (VS 1 (y50.1.map eI))), (12, (iV y50.2.1)), (13, (VS 1 (y59.1.map eI))), (14, (iV (IntKind.i64.wrap ((1 : Int) + y75)))), (15, (pV 5 0))], ⟨7, [(6, .tail ((([] : List (Int × Int × Int)) ++ m81).map e_III).length 3), (5, .rw [(iV a3), (iV a4), (iV 0), (VS 3 ((([] : List (Int × Int × Int)) ++ m81).map e_III))]), (4, .rw [(iV y32.1), (iV y32.2.1), (iV y32.2.2.1), (VS 3 (y32.2.2.2.1.map e_III))]), (3, .rw [(iV y26.1), (iV y26.2.1), (VS 4 (y26.2.2.1.map e_SIII))]), (2, .rw [(iV a7), (VS 1 (a8.map eI))]), (1, .rw [(iV a3), (iV a4), (iV a5), (VS 3 (a6.map e_III))]), (0, .rw [(iV a0), (iV a1), (VS 4 (a2.map e_SIII))])], false⟩⟩) (Recast.wkrowl (b := 5) (c2 := [(iV a3), (iV a4), (iV 0), (VS 3 ((([] : List (Int × Int × Int)) ++ m81).map e_III))]) (nl rfl) rfl rfl rfl (.cons (.refl _) (.cons (.refl _) (.cons (.refl _) (.cons (.vt _ _ _) .nil))))) ?_
                      exact (Recast.fz (fun _ => false) (nl rfl) (.cons (.same rfl rfl (OBnd.rwl (nl rfl) rfl (.cons .cl (.cons .cl (.cons .cl (.cons .cl .nil)))))) (.cons (.same rfl rfl (OBnd.rwl (nl rfl) rfl (.cons .cl (.cons .cl (.cons .cl (.cons .cl .nil)))))) (.cons (.same rfl rfl (OBnd.rwl (nl rfl) rfl (.cons .cl (.cons .cl (.cons .cl .nil))))) (.cons (.same rfl rfl (OBnd.rwl (nl rfl) rfl (.cons .cl (.cons .cl .nil)))) (.cons (.same rfl rfl (OBnd.rwl (nl rfl) rfl (.cons .cl (.cons .cl (.cons .cl (.cons .cl .nil)))))) (.cons (.same rfl rfl (OBnd.rwl (nl rfl) rfl (.cons .cl (.cons .cl (.cons .cl .nil))))) .nil)))))) (.cons rfl (.same _ (.ptr (nl rfl))) (.cons rfl (.same _ (.ptr (nl rfl))) (.cons rfl (.same _ (.ptr (nl rfl))) (.cons rfl (.same _ .cl) (.cons rfl (.same _ .cl) (.cons rfl (.same _ .cl) (.cons rfl (.same _ .cl) (.cons rfl (.same _ (.ptr (nl rfl))) .nil)))))))))
                  · refine R ?_;refine oslH_o (f := eI) H (fun m84 _ H h85 h86 => ?_);refine pbr_t (ile_t h85.1) ?_;refine R ?_;refine pbr_t (ile_t (by simpa only [List.length_map] using h85.2)) ?_;rw [h86];refine R ?_;obtain ⟨y87, h88, H⟩ := obnd_some H;refine (c309 h88).go ?_;refine R ?_;refine aR ?_;refine R ?_;obtain ⟨y89, h90, H⟩ := obnd_some H;refine (c310 h90).go ?_;refine R ?_;refine aR ?_;refine R ?_
                    refine R ?_;obtain ⟨y91, h92, H⟩ := obnd_some H;refine (c38 h92).go ?_;refine R ?_;refine aR ?_;refine R ?_;obtain ⟨y93, h94, H⟩ := obnd_some H;refine (c323 h94).go ?_;refine R ?_;refine aR ?_;refine R ?_;refine pw_seq ?_;obtain ⟨r95, h96, H⟩ := obnd_some H;refine pw_join (ρ := Bool) (fun e => ⟨[(3, (pV 0 0)), (4, (pV 1 0)), (5, (pV 2 0)), (11, (VS 1 (y50.1.map eI))), (12, (iV y50.2.1)), (13, (VS 1 (y59.1.map eI))), (14, (iV (IntKind.i64.wrap ((1 : Int) + y75)))), (15, (pV 5 0)), (16, (iV y93.1)), (164, (.bool e))], ⟨6, [(5, .rw [(iV a3), (iV a4), (iV 0), (VS 3 (r77.map e_III))]), (4, .rw [(iV y32.1), (iV y32.2.1), (iV y32.2.2.1), (VS 3 (y32.2.2.2.1.map e_III))]), (3, .rw [(iV y26.1), (iV y26.2.1), (VS 4 (y26.2.2.1.map e_SIII))]), (2, .rw [(iV a7), (VS 1 (a8.map eI))]), (1, .rw [(iV a3), (iV a4), (iV a5), (VS 3 (a6.map e_III))]), (0, .rw [(iV a0), (iV a1), (VS 4 (a2.map e_SIII))])], false⟩⟩) r95 ?_ ?_
                    · refine R ?_;refine pbr_oite h96 (fun g99 h96 => ?_) (fun g99 h96 => ?_)
                      · refine R ?_;cases h96;exact cr
                      · refine R ?_;obtain ⟨y100, h101, h96⟩ := obnd_some h96;refine (c15 h101).go ?_;refine R ?_;cases h96;exact cr
                    · refine R ?_;refine pbr_oite H (fun g102 H => ?_) (fun g102 H => ?_)
                      · refine R ?_;cases H;rfl
                      · refine R ?_;obtain ⟨r103, h104, h105, h106⟩ := obndS_some H;refine pw_joinSR (ρ := Unit) (fun e => ⟨[(3, (pV 0 0)), (5, (pV 2 0)), (11, (VS 1 (y50.1.map eI))), (13, (VS 1 (y59.1.map eI))), (14, (iV (IntKind.i64.wrap ((1 : Int) + y75)))), (15, (pV 5 0)), (16, (iV y93.1))], ⟨6, [(5, .rw [(iV a3), (iV a4), (iV 0), (VS 3 (r77.map e_III))]), (4, .rw [(iV y32.1), (iV y32.2.1), (iV y32.2.2.1), (VS 3 (y32.2.2.2.1.map e_III))]), (3, .rw [(iV y26.1), (iV y26.2.1), (VS 4 (y26.2.2.1.map e_SIII))]), (2, .rw [(iV a7), (VS 1 (a8.map eI))]), (1, .rw [(iV a3), (iV a4), (iV a5), (VS 3 (a6.map e_III))]), (0, .rw [(iV a0), (iV a1), (VS 4 (a2.map e_SIII))])], false⟩⟩) r103 ?_ ?_
                        · refine pwa ?_;(conv=>whnf);refine pw_cond ?_;(conv=>whnf);refine pbr_oite h104 (fun g107 h104 => ?_) (fun g107 h104 => ?_)
                          · (conv=>whnf);obtain ⟨r108, h109, h104⟩ := obnd_some h104;refine pw_joinR (ρ := Int × Int × (List (Int × Int × Int))) (fun e => ⟨[(3, (pV 0 0)), (5, (pV 2 0)), (11, (VS 1 (y50.1.map eI))), (12, (iV y50.2.1)), (13, (VS 1 (y59.1.map eI))), (14, (iV (IntKind.i64.wrap ((1 : Int) + y75)))), (15, (pV 5 0)), (16, (iV y93.1)), (18, (pV 6 0))], ⟨7, [(6, .rw [(iV e.1), (iV e.2.1), (iV a5), (VS 3 (e.2.2.map e_III))]), (5, .rw [(iV a3), (iV a4), (iV 0), (VS 3 (r77.map e_III))]), (4, .rw [(iV y32.1), (iV y32.2.1), (iV y32.2.2.1), (VS 3 (y32.2.2.2.1.map e_III))]), (3, .rw [(iV y26.1), (iV y26.2.1), (VS 4 (y26.2.2.1.map e_SIII))]), (2, .rw [(iV a7), (VS 1 (a8.map eI))]), (1, .rw [(iV a3), (iV a4), (iV a5), (VS 3 (a6.map e_III))]), (0, .rw [(iV a0), (iV a1), (VS 4 (a2.map e_SIII))])], false⟩⟩) r108 ?_ ?_
                            · refine pw_draw ?_;(conv=>whnf);refine pbr_ogrd h109 (fun g112 h109 => ?_);(conv=>whnf);refine nth_o (l := y59.1) h109 (fun x113 _ h109 => ?_);(conv=>whnf);refine pbr_ogrd h109 (fun g114 h109 => ?_);(conv=>whnf);refine nth_o (l := y50.1) h109 (fun x115 _ h109 => ?_);(conv=>whnf);refine oslL_o (f := e_III) h109 (fun m116 _ h109 h117 h118 => ?_);refine pbr_t (ile_t h117.1) ?_;(conv=>whnf);refine pbr_t (ile_t (by simpa only [List.length_map] using h117.2)) ?_; rw [h118];(conv=>whnf);refine ⟨?_, ?_⟩
                              · refine R ?_;refine aR ?_;refine R ?_;refine ⟨?_, ?_⟩
                                · refine R ?_;refine app_o (l := ([] : List (Int × Int × Int))) (m := m116) (f := e_III) h109 (by rfl) (by rfl) (by rfl) (fun h109 => ?_);refine R ?_;refine aR ?_;refine R ?_;refine aR ?_;refine R ?_;refine aR ?_;refine R ?_;cases h109;refine Recast.trans (s' := ⟨[(3, (pV 0 0)), (5, (pV 2 0)), (11, (VS 1 (y50.1.map eI))), (12, (iV y50.2.1)), (13, (VS 1 (y59.1.map eI))), (14, (iV (IntKind.i64.wrap ((1 : Int) + y75)))), (15, (pV 5 0)), (16, (iV y93.1)), (18, (pV 7 0))], ⟨8, [(7, .rw [(iV x113), (iV x115), (iV a5), (VS 3 ((([] : List (Int × Int × Int)) ++ m116).map e_III))]), (6, .tail ((([] : List (Int × Int × Int)) ++ m116).map e_III).length 3), (5, .rw [(iV a3), (iV a4), (iV 0), (VS 3 (r77.map e_III))]), (4, .rw [(iV y32.1), (iV y32.2.1), (iV y32.2.2.1), (VS 3 (y32.2.2.2.1.map e_III))]), (3, .rw [(iV y26.1), (iV y26.2.1), (VS 4 (y26.2.2.1.map e_SIII))]), (2, .rw [(iV a7), (VS 1 (a8.map eI))]), (1, .rw [(iV a3), (iV a4), (iV a5), (VS 3 (a6.map e_III))]), (0, .rw [(iV a0), (iV a1), (VS 4 (a2.map e_SIII))])], false⟩⟩) (Recast.wkrowl (b := 7) (c2 := [(iV x113), (iV x115), (iV a5), (VS 3 ((([] : List (Int × Int × Int)) ++ m116).map e_III))]) (nl rfl) rfl rfl rfl (.cons (.refl _) (.cons (.refl _) (.cons (.refl _) (.cons (.vt _ _ _) .nil))))) ?_
                                  refine Recast.trans (s' := ⟨[(3, (pV 0 0)), (5, (pV 2 0)), (11, (VS 1 (y50.1.map eI))), (12, (iV y50.2.1)), (13, (VS 1 (y59.1.map eI))), (14, (iV (IntKind.i64.wrap ((1 : Int) + y75)))), (15, (pV 5 0)), (16, (iV y93.1)), (18, (pV 7 0))], ⟨8, [(7, .rw [(iV x113), (iV x115), (iV a5), (VS 3 ((([] : List (Int × Int × Int)) ++ m116).map e_III))]), (5, .rw [(iV a3), (iV a4), (iV 0), (VS 3 (r77.map e_III))]), (4, .rw [(iV y32.1), (iV y32.2.1), (iV y32.2.2.1), (VS 3 (y32.2.2.2.1.map e_III))]), (3, .rw [(iV y26.1), (iV y26.2.1), (VS 4 (y26.2.2.1.map e_SIII))]), (2, .rw [(iV a7), (VS 1 (a8.map eI))]), (1, .rw [(iV a3), (iV a4), (iV a5), (VS 3 (a6.map e_III))]), (0, .rw [(iV a0), (iV a1), (VS 4 (a2.map e_SIII))])], false⟩⟩) (Recast.fz (fun _ => false) (nl rfl) (.cons (.same rfl rfl (OBnd.rwl (nl rfl) rfl (.cons .cl (.cons .cl (.cons .cl (.cons .cl .nil)))))) (.cons (.same rfl rfl (OBnd.rwl (nl rfl) rfl (.cons .cl (.cons .cl (.cons .cl (.cons .cl .nil)))))) (.cons (.same rfl rfl (OBnd.rwl (nl rfl) rfl (.cons .cl (.cons .cl (.cons .cl (.cons .cl .nil)))))) (.cons (.same rfl rfl (OBnd.rwl (nl rfl) rfl (.cons .cl (.cons .cl (.cons .cl .nil))))) (.cons (.same rfl rfl (OBnd.rwl (nl rfl) rfl (.cons .cl (.cons .cl .nil)))) (.cons (.same rfl rfl (OBnd.rwl (nl rfl) rfl (.cons .cl (.cons .cl (.cons .cl (.cons .cl .nil)))))) (.cons (.same rfl rfl (OBnd.rwl (nl rfl) rfl (.cons .cl (.cons .cl (.cons .cl .nil))))) .nil))))))) (.cons rfl (.same _ (.ptr (nl rfl))) (.cons rfl (.same _ (.ptr (nl rfl))) (.cons rfl (.same _ .cl) (.cons rfl (.same _ .cl) (.cons rfl (.same _ .cl) (.cons rfl (.same _ .cl) (.cons rfl (.same _ (.ptr (nl rfl))) (.cons rfl (.same _ .cl) (.cons rfl (.same _ (.ptr (nl rfl))) .nil)))))))))) ?_
                                  exact (Recast.mv 7 6 (nl rfl) (nl rfl) (.cons (.mv rfl (nl rfl) rfl rfl (.of (.cons .cl (.cons .cl (.cons .cl (.cons .cl .nil)))))) (.cons (.rw (nn rfl) (nn rfl) (nl rfl) rfl rfl (.of (.cons .cl (.cons .cl (.cons .cl (.cons .cl .nil)))))) (.cons (.rw (nn rfl) (nn rfl) (nl rfl) rfl rfl (.of (.cons .cl (.cons .cl (.cons .cl (.cons .cl .nil)))))) (.cons (.rw (nn rfl) (nn rfl) (nl rfl) rfl rfl (.of (.cons .cl (.cons .cl (.cons .cl .nil))))) (.cons (.rw (nn rfl) (nn rfl) (nl rfl) rfl rfl (.of (.cons .cl (.cons .cl .nil)))) (.cons (.rw (nn rfl) (nn rfl) (nl rfl) rfl rfl (.of (.cons .cl (.cons .cl (.cons .cl (.cons .cl .nil)))))) (.cons (.rw (nn rfl) (nn rfl) (nl rfl) rfl rfl (.of (.cons .cl (.cons .cl (.cons .cl .nil))))) .nil))))))) (.cons rfl (.ptr (nn rfl) (nl rfl)) (.cons rfl (.ptr (nn rfl) (nl rfl)) (.cons rfl .cl (.cons rfl .cl (.cons rfl .cl (.cons rfl .cl (.cons rfl (.ptr (nn rfl) (nl rfl)) (.cons rfl .cl (.cons rfl (.ptrm (nl rfl)) .nil))))))))))
                                · refine R ?_;refine aR ?_;refine R ?_;refine app_o (l := ([] : List (Int × Int × Int))) (m := m116) (f := e_III) h109 (by rfl) (by rfl) (by rfl) (fun h109 => ?_);refine R ?_;refine aR ?_;refine R ?_;refine aR ?_;refine R ?_;cases h109;refine Recast.trans (s' := ⟨[(3, (pV 0 0)), (5, (pV 2 0)), (11, (VS 1 (y50.1.map eI))), (12, (iV y50.2.1)), (13, (VS 1 (y59.1.map eI))), (14, (iV (IntKind.i64.wrap ((1 : Int) + y75)))), (15, (pV 5 0)), (16, (iV y93.1)), (18, (pV 7 0))], ⟨8, [(7, .rw [(iV x113), (iV x115), (iV a5), (VS 3 ((([] : List (Int × Int × Int)) ++ m116).map e_III))]), (6, .tail ((([] : List (Int × Int × Int)) ++ m116).map e_III).length 3), (5, .rw [(iV a3), (iV a4), (iV 0), (VS 3 (r77.map e_III))]), (4, .rw [(iV y32.1), (iV y32.2.1), (iV y32.2.2.1), (VS 3 (y32.2.2.2.1.map e_III))]), (3, .rw [(iV y26.1), (iV y26.2.1), (VS 4 (y26.2.2.1.map e_SIII))]), (2, .rw [(iV a7), (VS 1 (a8.map eI))]), (1, .rw [(iV a3), (iV a4), (iV a5), (VS 3 (a6.map e_III))]), (0, .rw [(iV a0), (iV a1), (VS 4 (a2.map e_SIII))])], false⟩⟩) (Recast.wkrowl (b := 7) (c2 := [(iV x113), (iV x115), (iV a5), (VS 3 ((([] : List (Int × Int × Int)) ++ m116).map e_III))]) (nl rfl) rfl rfl rfl (.cons (.refl _) (.cons (.refl _) (.cons (.refl _) (.cons (.vt _ _ _) .nil))))) ?_
                                  refine Recast.trans (s' := ⟨[(3, (pV 0 0)), (5, (pV 2 0)), (11, (VS 1 (y50.1.map eI))), (12, (iV y50.2.1)), (13, (VS 1 (y59.1.map eI))), (14, (iV (IntKind.i64.wrap ((1 : Int) + y75)))), (15, (pV 5 0)), (16, (iV y93.1)), (18, (pV 7 0))], ⟨8, [(7, .rw [(iV x113), (iV x115), (iV a5), (VS 3 ((([] : List (Int × Int × Int)) ++ m116).map e_III))]), (5, .rw [(iV a3), (iV a4), (iV 0), (VS 3 (r77.map e_III))]), (4, .rw [(iV y32.1), (iV y32.2.1), (iV y32.2.2.1), (VS 3 (y32.2.2.2.1.map e_III))]), (3, .rw [(iV y26.1), (iV y26.2.1), (VS 4 (y26.2.2.1.map e_SIII))]), (2, .rw [(iV a7), (VS 1 (a8.map eI))]), (1, .rw [(iV a3), (iV a4), (iV a5), (VS 3 (a6.map e_III))]), (0, .rw [(iV a0), (iV a1), (VS 4 (a2.map e_SIII))])], false⟩⟩) (Recast.fz (fun _ => false) (nl rfl) (.cons (.same rfl rfl (OBnd.rwl (nl rfl) rfl (.cons .cl (.cons .cl (.cons .cl (.cons .cl .nil)))))) (.cons (.same rfl rfl (OBnd.rwl (nl rfl) rfl (.cons .cl (.cons .cl (.cons .cl (.cons .cl .nil)))))) (.cons (.same rfl rfl (OBnd.rwl (nl rfl) rfl (.cons .cl (.cons .cl (.cons .cl (.cons .cl .nil)))))) (.cons (.same rfl rfl (OBnd.rwl (nl rfl) rfl (.cons .cl (.cons .cl (.cons .cl .nil))))) (.cons (.same rfl rfl (OBnd.rwl (nl rfl) rfl (.cons .cl (.cons .cl .nil)))) (.cons (.same rfl rfl (OBnd.rwl (nl rfl) rfl (.cons .cl (.cons .cl (.cons .cl (.cons .cl .nil)))))) (.cons (.same rfl rfl (OBnd.rwl (nl rfl) rfl (.cons .cl (.cons .cl (.cons .cl .nil))))) .nil))))))) (.cons rfl (.same _ (.ptr (nl rfl))) (.cons rfl (.same _ (.ptr (nl rfl))) (.cons rfl (.same _ .cl) (.cons rfl (.same _ .cl) (.cons rfl (.same _ .cl) (.cons rfl (.same _ .cl) (.cons rfl (.same _ (.ptr (nl rfl))) (.cons rfl (.same _ .cl) (.cons rfl (.same _ (.ptr (nl rfl))) .nil)))))))))) ?_
                                  exact (Recast.mv 7 6 (nl rfl) (nl rfl) (.cons (.mv rfl (nl rfl) rfl rfl (.of (.cons .cl (.cons .cl (.cons .cl (.cons .cl .nil)))))) (.cons (.rw (nn rfl) (nn rfl) (nl rfl) rfl rfl (.of (.cons .cl (.cons .cl (.cons .cl (.cons .cl .nil)))))) (.cons (.rw (nn rfl) (nn rfl) (nl rfl) rfl rfl (.of (.cons .cl (.cons .cl (.cons .cl (.cons .cl .nil)))))) (.cons (.rw (nn rfl) (nn rfl) (nl rfl) rfl rfl (.of (.cons .cl (.cons .cl (.cons .cl .nil))))) (.cons (.rw (nn rfl) (nn rfl) (nl rfl) rfl rfl (.of (.cons .cl (.cons .cl .nil)))) (.cons (.rw (nn rfl) (nn rfl) (nl rfl) rfl rfl (.of (.cons .cl (.cons .cl (.cons .cl (.cons .cl .nil)))))) (.cons (.rw (nn rfl) (nn rfl) (nl rfl) rfl rfl (.of (.cons .cl (.cons .cl (.cons .cl .nil))))) .nil))))))) (.cons rfl (.ptr (nn rfl) (nl rfl)) (.cons rfl (.ptr (nn rfl) (nl rfl)) (.cons rfl .cl (.cons rfl .cl (.cons rfl .cl (.cons rfl .cl (.cons rfl (.ptr (nn rfl) (nl rfl)) (.cons rfl .cl (.cons rfl (.ptrm (nl rfl)) .nil))))))))))
                              · refine R ?_;refine aR ?_;refine R ?_;refine aR ?_;refine R ?_;refine app_o (l := ([] : List (Int × Int × Int))) (m := m116) (f := e_III) h109 (by rfl) (by rfl) (by rfl) (fun h109 => ?_);refine R ?_;refine aR ?_;refine R ?_;refine aR ?_
                                refine R ?_;cases h109;refine Recast.trans (s' := ⟨[(3, (pV 0 0)), (5, (pV 2 0)), (11, (VS 1 (y50.1.map eI))), (12, (iV y50.2.1)), (13, (VS 1 (y59.1.map eI))), (14, (iV (IntKind.i64.wrap ((1 : Int) + y75)))), (15, (pV 5 0)), (16, (iV y93.1)), (18, (pV 6 0))], ⟨8, [(7, .tail ((([] : List (Int × Int × Int)) ++ m116).map e_III).length 3), (6, .rw [(iV x113), (iV x115), (iV a5), (VS 3 ((([] : List (Int × Int × Int)) ++ m116).map e_III))]), (5, .rw [(iV a3), (iV a4), (iV 0), (VS 3 (r77.map e_III))]), (4, .rw [(iV y32.1), (iV y32.2.1), (iV y32.2.2.1), (VS 3 (y32.2.2.2.1.map e_III))]), (3, .rw [(iV y26.1), (iV y26.2.1), (VS 4 (y26.2.2.1.map e_SIII))]), (2, .rw [(iV a7), (VS 1 (a8.map eI))]), (1, .rw [(iV a3), (iV a4), (iV a5), (VS 3 (a6.map e_III))]), (0, .rw [(iV a0), (iV a1), (VS 4 (a2.map e_SIII))])], false⟩⟩) (Recast.wkrowl (b := 6) (c2 := [(iV x113), (iV x115), (iV a5), (VS 3 ((([] : List (Int × Int × Int)) ++ m116).map e_III))]) (nl rfl) rfl rfl rfl (.cons (.refl _) (.cons (.refl _) (.cons (.refl _) (.cons (.vt _ _ _) .nil))))) ?_
                                exact (Recast.fz (fun _ => false) (nl rfl) (.cons (.same rfl rfl (OBnd.rwl (nl rfl) rfl (.cons .cl (.cons .cl (.cons .cl (.cons .cl .nil)))))) (.cons (.same rfl rfl (OBnd.rwl (nl rfl) rfl (.cons .cl (.cons .cl (.cons .cl (.cons .cl .nil)))))) (.cons (.same rfl rfl (OBnd.rwl (nl rfl) rfl (.cons .cl (.cons .cl (.cons .cl (.cons .cl .nil)))))) (.cons (.same rfl rfl (OBnd.rwl (nl rfl) rfl (.cons .cl (.cons .cl (.cons .cl .nil))))) (.cons (.same rfl rfl (OBnd.rwl (nl rfl) rfl (.cons .cl (.cons .cl .nil)))) (.cons (.same rfl rfl (OBnd.rwl (nl rfl) rfl (.cons .cl (.cons .cl (.cons .cl (.cons .cl .nil)))))) (.cons (.same rfl rfl (OBnd.rwl (nl rfl) rfl (.cons .cl (.cons .cl (.cons .cl .nil))))) .nil))))))) (.cons rfl (.same _ (.ptr (nl rfl))) (.cons rfl (.same _ (.ptr (nl rfl))) (.cons rfl (.same _ .cl) (.cons rfl (.same _ .cl) (.cons rfl (.same _ .cl) (.cons rfl (.same _ .cl) (.cons rfl (.same _ (.ptr (nl rfl))) (.cons rfl (.same _ .cl) (.cons rfl (.same _ (.ptr (nl rfl))) .nil))))))))))
                            · refine R ?_;obtain ⟨y119, h120, h104⟩ := obnd_some h104;refine (c309 h120).go ?_;refine R ?_;refine aR ?_;refine R ?_;obtain ⟨y121, h122, h104⟩ := obnd_some h104;refine (c310 h122).go ?_;refine R ?_;refine aR ?_;refine R ?_;obtain ⟨y123, h124, h104⟩ := obnd_some h104;refine (c206 h124).go ?_;refine R ?_;refine aR ?_
                              refine R ?_;refine pw_seq ?_;obtain ⟨r125, h126, h104⟩ := obnd_some h104;refine pw_join (ρ := Bool) (fun e => ⟨[(3, (pV 0 0)), (5, (pV 2 0)), (11, (VS 1 (y50.1.map eI))), (13, (VS 1 (y59.1.map eI))), (14, (iV (IntKind.i64.wrap ((1 : Int) + y75)))), (15, (pV 5 0)), (16, (iV y93.1)), (18, (pV 6 0)), (20, (iV y123.2.1)), (218, (.bool e))], ⟨7, [(6, .rw [(iV r108.1), (iV r108.2.1), (iV a5), (VS 3 (r108.2.2.map e_III))]), (5, .rw [(iV a3), (iV a4), (iV 0), (VS 3 (r77.map e_III))]), (4, .rw [(iV y32.1), (iV y32.2.1), (iV y32.2.2.1), (VS 3 (y32.2.2.2.1.map e_III))]), (3, .rw [(iV y26.1), (iV y26.2.1), (VS 4 (y26.2.2.1.map e_SIII))]), (2, .rw [(iV a7), (VS 1 (a8.map eI))]), (1, .rw [(iV a3), (iV a4), (iV a5), (VS 3 (a6.map e_III))]), (0, .rw [(iV a0), (iV a1), (VS 4 (a2.map e_SIII))])], false⟩⟩) r125 ?_ ?_
                              · refine pw_ops ?_;refine po_ops 3 ?_;(conv=>whnf);obtain ⟨r129, h130, h126⟩ := obnd_some h126;refine po_seg (τ := Bool) 7 (fun e => ⟨[(3, (pV 0 0)), (5, (pV 2 0)), (11, (VS 1 (y50.1.map eI))), (12, (iV y50.2.1)), (13, (VS 1 (y59.1.map eI))), (14, (iV (IntKind.i64.wrap ((1 : Int) + y75)))), (15, (pV 5 0)), (16, (iV y93.1)), (18, (pV 6 0)), (20, (iV y123.2.1)), (206, (.bool e))], ⟨7, [(6, .rw [(iV r108.1), (iV r108.2.1), (iV a5), (VS 3 (r108.2.2.map e_III))]), (5, .rw [(iV a3), (iV a4), (iV 0), (VS 3 (r77.map e_III))]), (4, .rw [(iV y32.1), (iV y32.2.1), (iV y32.2.2.1), (VS 3 (y32.2.2.2.1.map e_III))]), (3, .rw [(iV y26.1), (iV y26.2.1), (VS 4 (y26.2.2.1.map e_SIII))]), (2, .rw [(iV a7), (VS 1 (a8.map eI))]), (1, .rw [(iV a3), (iV a4), (iV a5), (VS 3 (a6.map e_III))]), (0, .rw [(iV a0), (iV a1), (VS 4 (a2.map e_SIII))])], false⟩⟩) r129 ?_ ?_
                                · refine R ?_;refine pbr_oite h130 (fun g131 h130 => ?_) (fun g131 h130 => ?_)
                                  · refine R ?_;cases h130;exact cr
                                  · refine R ?_;refine oslL_o (f := eI) h130 (fun m132 _ h130 h133 h134 => ?_);refine pbr_t (ile_t h133.1) ?_;refine R ?_;refine pbr_t (ile_t (by simpa only [List.length_map] using h133.2)) ?_;rw [h134];refine R ?_;obtain ⟨y135, h136, h130⟩ := obnd_some h130;refine (c26 h136).go ?_;refine R ?_;cases h130;exact cr
                                · refine po_ops 1 ?_;(conv=>whnf);obtain ⟨r137, h138, h126⟩ := obnd_some h126;refine po_seg (τ := Bool) 4 (fun e => ⟨[(3, (pV 0 0)), (5, (pV 2 0)), (11, (VS 1 (y50.1.map eI))), (12, (iV y50.2.1)), (13, (VS 1 (y59.1.map eI))), (14, (iV (IntKind.i64.wrap ((1 : Int) + y75)))), (15, (pV 5 0)), (16, (iV y93.1)), (18, (pV 6 0)), (20, (iV y123.2.1)), (211, (.bool e))], ⟨7, [(6, .rw [(iV r108.1), (iV r108.2.1), (iV a5), (VS 3 (r108.2.2.map e_III))]), (5, .rw [(iV a3), (iV a4), (iV 0), (VS 3 (r77.map e_III))]), (4, .rw [(iV y32.1), (iV y32.2.1), (iV y32.2.2.1), (VS 3 (y32.2.2.2.1.map e_III))]), (3, .rw [(iV y26.1), (iV y26.2.1), (VS 4 (y26.2.2.1.map e_SIII))]), (2, .rw [(iV a7), (VS 1 (a8.map eI))]), (1, .rw [(iV a3), (iV a4), (iV a5), (VS 3 (a6.map e_III))]), (0, .rw [(iV a0), (iV a1), (VS 4 (a2.map e_SIII))])], false⟩⟩) r137 ?_ ?_
                                  · refine R ?_;refine pbr_oite h138 (fun g139 h138 => ?_) (fun g139 h138 => ?_)
                                    · refine R ?_;cases h138;exact cr
                                    · refine R ?_;obtain ⟨y140, h141, h138⟩ := obnd_some h138;refine (c15 h141).go ?_;refine R ?_;cases h138;exact cr
                                  · refine R ?_;refine pbr_oite h126 (fun g142 h126 => ?_) (fun g142 h126 => ?_)
                                    · refine R ?_;cases h126;exact cr
                                    · refine R ?_;cases h126;exact cr
                              · refine R ?_;refine pbr_oite h104 (fun g143 h104 => ?_) (fun g143 h104 => ?_)
                                · refine R ?_;cases h104;obtain rfl := h106 _ rfl;rfl
                                · refine R ?_;obtain ⟨y144, h145, h104⟩ := obnd_some h104;refine (c309 h145).go ?_;refine R ?_;refine aR ?_;refine R ?_;obtain ⟨y146, h147, h104⟩ := obnd_some h104;refine (c310 h147).go ?_;refine R ?_;refine aR ?_;refine R ?_;obtain ⟨y148, h149, h104⟩ := obnd_some h104;refine (c345 h149).go ?_;refine R ?_;refine aR ?_
                                  refine R ?_;obtain ⟨y150, h151, h104⟩ := obnd_some h104;refine (c309 h151).go ?_;refine R ?_;refine aR ?_;refine R ?_;obtain ⟨y152, h153, h104⟩ := obnd_some h104;refine (c310 h153).go ?_;refine R ?_;refine aR ?_;refine R ?_;obtain ⟨y154, h155, h104⟩ := obnd_some h104;refine (c331 h155).go ?_;refine R ?_;refine aR ?_
                                  (conv=>whnf);obtain ⟨r156, h157, h104⟩ := obnd_some h104;refine pw_join (ρ := Bool) (fun e => ⟨[(3, (pV 0 0)), (5, (pV 2 0)), (11, (VS 1 (y50.1.map eI))), (13, (VS 1 (y59.1.map eI))), (14, (iV (IntKind.i64.wrap ((1 : Int) + y75)))), (15, (pV 5 0)), (16, (iV y93.1)), (246, (.bool e))], ⟨7, [(6, .rw [(iV r108.1), (iV r108.2.1), (iV a5), (VS 3 (r108.2.2.map e_III))]), (5, .rw [(iV a3), (iV a4), (iV 0), (VS 3 (r77.map e_III))]), (4, .rw [(iV y32.1), (iV y32.2.1), (iV y32.2.2.1), (VS 3 (y32.2.2.2.1.map e_III))]), (3, .rw [(iV y26.1), (iV y26.2.1), (VS 4 (y26.2.2.1.map e_SIII))]), (2, .rw [(iV a7), (VS 1 (a8.map eI))]), (1, .rw [(iV a3), (iV a4), (iV a5), (VS 3 (a6.map e_III))]), (0, .rw [(iV a0), (iV a1), (VS 4 (a2.map e_SIII))])], false⟩⟩) r156 ?_ ?_
                                  · refine pw_ops ?_;refine po_ops 3 ?_;(conv=>whnf);obtain ⟨r160, h161, h157⟩ := obnd_some h157;refine po_seg (τ := Bool) 3 (fun e => ⟨[(3, (pV 0 0)), (5, (pV 2 0)), (11, (VS 1 (y50.1.map eI))), (13, (VS 1 (y59.1.map eI))), (14, (iV (IntKind.i64.wrap ((1 : Int) + y75)))), (15, (pV 5 0)), (16, (iV y93.1)), (20, (iV y123.2.1)), (24, (iV y154.1)), (241, (.bool e))], ⟨7, [(6, .rw [(iV r108.1), (iV r108.2.1), (iV a5), (VS 3 (r108.2.2.map e_III))]), (5, .rw [(iV a3), (iV a4), (iV 0), (VS 3 (r77.map e_III))]), (4, .rw [(iV y32.1), (iV y32.2.1), (iV y32.2.2.1), (VS 3 (y32.2.2.2.1.map e_III))]), (3, .rw [(iV y26.1), (iV y26.2.1), (VS 4 (y26.2.2.1.map e_SIII))]), (2, .rw [(iV a7), (VS 1 (a8.map eI))]), (1, .rw [(iV a3), (iV a4), (iV a5), (VS 3 (a6.map e_III))]), (0, .rw [(iV a0), (iV a1), (VS 4 (a2.map e_SIII))])], false⟩⟩) r160 ?_ ?_
                                    · refine R ?_;refine pbr_oite h161 (fun g162 h161 => ?_) (fun g162 h161 => ?_)
                                      · refine R ?_;cases h161;exact cr
                                      · refine R ?_;cases h161;exact cr
                                    · refine R ?_;refine pbr_oite h157 (fun g163 h157 => ?_) (fun g163 h157 => ?_)
                                      · refine R ?_;cases h157;exact cr
                                      · refine R ?_;cases h157;exact cr
                                  · refine R ?_;refine pbr_oite h104 (fun g164 h104 => ?_) (fun g164 h104 => ?_)
                                    · refine R ?_;cases h104;obtain rfl := h106 _ rfl;rfl
                                    · refine R ?_;cases h104;refine ⟨_, rfl, ?_⟩;exact rfz
                          · refine R ?_;cases h104;refine ⟨_, rfl, ?_⟩;exact rfz
                        · intro r165 hr;have H := h105 _ hr;refine pw_seq ?_;refine R ?_;obtain ⟨y166, h167, H⟩ := obnd_some H;refine (c327 h167).go ?_;refine R ?_;refine pbr_oite H (fun g168 H => ?_) (fun g168 H => ?_)
                          · refine R ?_;cases H;rfl
                          · refine R ?_;obtain ⟨y169, h170, H⟩ := obnd_some H;refine (c309 h170).go ?_;refine R ?_;refine aR ?_;refine R ?_;obtain ⟨y171, h172, H⟩ := obnd_some H;refine (c310 h172).go ?_;refine R ?_;refine aR ?_;refine R ?_;obtain ⟨y173, h174, H⟩ := obnd_some H;refine (c38 h174).go ?_;refine R ?_;refine aR ?_
                            refine R ?_;obtain ⟨y175, h176, H⟩ := obnd_some H;refine (c322 h176).go ?_;refine R ?_;refine aR ?_;refine R ?_;obtain ⟨y177, h178, H⟩ := obnd_some H;refine (c309 h178).go ?_;refine R ?_;refine aR ?_;refine R ?_;obtain ⟨y179, h180, H⟩ := obnd_some H;refine (c38 h180).go ?_;refine R ?_;refine aR ?_
                            refine R ?_;obtain ⟨y181, h182, H⟩ := obnd_some H;refine (c323 h182).go ?_;refine R ?_;refine aR ?_;refine R ?_;refine pw_seq ?_;obtain ⟨r183, h184, H⟩ := obnd_some H;refine pw_join (ρ := Bool) (fun e => ⟨[(5, (pV 2 0)), (11, (VS 1 (y50.1.map eI))), (13, (VS 1 (y59.1.map eI))), (14, (iV (IntKind.i64.wrap ((1 : Int) + y75)))), (16, (iV y93.1)), (26, (VS 1 (y175.1.map eI))), (27, (iV y181.1)), (286, (.bool e))], ⟨6, [(5, .rw [(iV a3), (iV a4), (iV 0), (VS 3 (r77.map e_III))]), (4, .rw [(iV y32.1), (iV y32.2.1), (iV y32.2.2.1), (VS 3 (y32.2.2.2.1.map e_III))]), (3, .rw [(iV y26.1), (iV y26.2.1), (VS 4 (y26.2.2.1.map e_SIII))]), (2, .rw [(iV a7), (VS 1 (a8.map eI))]), (1, .rw [(iV a3), (iV a4), (iV a5), (VS 3 (a6.map e_III))]), (0, .rw [(iV a0), (iV a1), (VS 4 (a2.map e_SIII))])], false⟩⟩) r183 ?_ ?_
                            · refine pw_ops ?_;refine po_ops 3 ?_;(conv=>whnf);obtain ⟨r187, h188, h184⟩ := obnd_some h184;refine po_seg (τ := Bool) 3 (fun e => ⟨[(5, (pV 2 0)), (11, (VS 1 (y50.1.map eI))), (13, (VS 1 (y59.1.map eI))), (14, (iV (IntKind.i64.wrap ((1 : Int) + y75)))), (16, (iV y93.1)), (26, (VS 1 (y175.1.map eI))), (27, (iV y181.1)), (279, (.bool e))], ⟨6, [(5, .rw [(iV a3), (iV a4), (iV 0), (VS 3 (r77.map e_III))]), (4, .rw [(iV y32.1), (iV y32.2.1), (iV y32.2.2.1), (VS 3 (y32.2.2.2.1.map e_III))]), (3, .rw [(iV y26.1), (iV y26.2.1), (VS 4 (y26.2.2.1.map e_SIII))]), (2, .rw [(iV a7), (VS 1 (a8.map eI))]), (1, .rw [(iV a3), (iV a4), (iV a5), (VS 3 (a6.map e_III))]), (0, .rw [(iV a0), (iV a1), (VS 4 (a2.map e_SIII))])], false⟩⟩) r187 ?_ ?_
                              · refine R ?_;refine pbr_oite h188 (fun g189 h188 => ?_) (fun g189 h188 => ?_)
                                · refine R ?_;cases h188;exact cr
                                · refine R ?_;cases h188;exact cr
                              · refine R ?_;refine pbr_oite h184 (fun g190 h184 => ?_) (fun g190 h184 => ?_)
                                · refine R ?_;cases h184;exact cr
                                · refine R ?_;cases h184;exact cr
                            · refine R ?_;refine pbr_oite H (fun g191 H => ?_) (fun g191 H => ?_)
                              · refine R ?_;cases H;rfl
                              · refine R ?_;refine pbr_ogrd H (fun g192 H => ?_);refine R ?_;refine nth_o (l := y175.1) H (fun x193 _ H => ?_);refine R ?_;refine nth_o (l := y59.1) H (fun x194 _ H => ?_);refine R ?_;refine pbr_oite H (fun g195 H => ?_) (fun g195 H => ?_)
                                · refine R ?_;cases H;rfl
                                · refine R ?_;refine pbr_ogrd H (fun g196 H => ?_);refine R ?_;refine nth_o (l := a8) H (fun x197 _ H => ?_);refine R ?_;refine nth_o (l := y50.1) H (fun x198 _ H => ?_);refine R ?_
                                  refine R ?_;refine pbr_oite H (fun g199 H => ?_) (fun g199 H => ?_)
                                  · refine R ?_;cases H;rfl
                                  · refine R ?_;cases H;rfl
end Go.Proofs.YtolapannkcdeeaaGreatDoor.AM
