/- Computations of functions, and that the functions do them (printed by tools/lift.py). Conditions: none. -/
import Derived.Test.YtacgibkgojnfeaaGreatDoorAmMan
namespace Go.Proofs.YtacgibkgojnfeaaGreatDoor.AM
set_option linter.unusedSimpArgs false
set_option linter.unusedVariables false
open Go Go.RowKit
attribute [local irreducible] ICallV ICalls Recast rng
abbrev e_SI (x : ByteArray × Int) : Value := .agg ⟨[(.string x.1), (.int .i64 x.2)]⟩
instance {x : ByteArray × Int} : Cl (e_SI x) := inferInstanceAs (Cl (.agg ⟨[(.string x.1), (.int .i64 x.2)]⟩))
abbrev e_III (x : Int × Int × Int) : Value := .agg ⟨[(.int .i64 x.1), (.int .i64 x.2.1), (.int .i64 x.2.2)]⟩
instance {x : Int × Int × Int} : Cl (e_III x) := inferInstanceAs (Cl (.agg ⟨[(.int .i64 x.1), (.int .i64 x.2.1), (.int .i64 x.2.2)]⟩))
abbrev e_II (x : Int × Int) : Value := .agg ⟨[(.int .i64 x.1), (.int .i64 x.2)]⟩
instance {x : Int × Int} : Cl (e_II x) := inferInstanceAs (Cl (.agg ⟨[(.int .i64 x.1), (.int .i64 x.2)]⟩))

/-- guidevane/guidevanebase.Within -/
noncomputable def f15  (a0 : Int) (a1 : Int) (a2 : Int) : Option Bool :=
 obnd (
 oite ((ile a1 a0)) (
 some (ile a0 a2)
 ) (
 some false)
 ) fun (r1 : Bool) =>
 some r1
set_option maxHeartbeats 1000000 in
theorem c15  {a0 : Int} {a1 : Int} {a2 : Int} {x : Bool} (H : f15 a0 a1 a2 = some x) : ICalls E 15 [(.int .i64 a0), (.int .i64 a1), (.int .i64 a2)] AHeap.none fun v _ => v = (.bool x) := by
  refine icalls_fn (pfnw ?_); unfold f15 at H;(conv=>whnf);refine pwa ?_;(conv=>whnf);refine pw_so ?_;refine po_ops 4 ?_;(conv=>whnf);obtain ⟨r1, h2, H⟩ := obnd_some H;refine po_seg (τ := Bool) 4 (fun e => ⟨[(14, (.bool e))], ⟨0, [], false⟩⟩) r1 ?_ ?_
  · refine po_all ?_;(conv=>whnf);refine pbr_oite h2 (fun g3 h2 => ?_) (fun g3 h2 => ?_)
    · (conv=>whnf);(iterate 3 refine pbr_t g3 ?_;(conv=>whnf));cases h2;exact ⟨(.cons rfl .nil), rfl⟩
    · (conv=>whnf);(iterate 3 refine pbr_f g3 ?_;(conv=>whnf));cases h2;exact ⟨(.cons rfl .nil), rfl⟩
  · refine po_all ?_;(conv=>whnf);refine pw_ret ?_;(conv=>whnf);cases H; rfl

/-- guidevane/guidevanebase.IsName -/
noncomputable def f91 [LO]  (a0 : ByteArray) : Option Bool :=
 obnd (
 oite ((ilt (a0.size : Int) (1 : Int))) (
 some true
 ) (
 some (ilt (12 : Int) (a0.size : Int)))
 ) fun (r1 : Bool) =>
 oite r1 (
 some false
 ) (
 obndS (
 oloop (τ := Int) (ρ := (Unit) ⊕ Bool) (fun e11 =>
 oite ((ilt e11 (a0.size : Int))) (
 ogrd ((ile 0 e11)) (
 obnd (a0.data.toList[e11.toNat]?) fun (x16 : UInt8) =>
 obnd (
 oite ((ile (97 : Int) (x16.toNat : Int))) (
 some (ile (x16.toNat : Int) (122 : Int))
 ) (
 some false)
 ) fun (r17 : Bool) =>
 obnd (
 oite r17 (
 some true
 ) (
 oite ((ile (65 : Int) (x16.toNat : Int))) (
 some (ile (x16.toNat : Int) (90 : Int))
 ) (
 some false))
 ) fun (r20 : Bool) =>
 obnd (
 oite (!r20) (
 obnd (
 oite ((ieq e11 (0 : Int))) (
 some true
 ) (
 oite ((!(ieq (x16.toNat : Int) (45 : Int)))) (
 oite ((ilt (x16.toNat : Int) (48 : Int))) (
 some true
 ) (
 some (ilt (57 : Int) (x16.toNat : Int)))
 ) (
 some false))
 ) fun (r29 : Bool) =>
 some r29
 ) (
 some false)
 ) fun (r24 : Bool) =>
 oite r24 (
 some (.inr (.inr (false)))
 ) (
 some (.inl (IntKind.i64.wrap (e11 + (1 : Int))))))
 ) (
 some (.inr (.inl ())))
 ) (0 : Int)
 ) fun (_ : Unit) =>
 some true)
set_option maxHeartbeats 1000000 in
theorem c91 [LO]  {a0 : ByteArray} {x : Bool} (H : f91 a0 = some x) : ICalls E 91 [(.string a0)] AHeap.none fun v _ => v = (.bool x) := by
  refine icalls_fn (pfnw ?_); unfold f91 at H;(conv=>whnf);refine pwa ?_;(conv=>whnf);refine pw_seq ?_;obtain ⟨r1, h2, H⟩ := obnd_some H;refine pw_join (ρ := Bool) (fun e => ⟨[(0, (.string a0)), (13, (.bool e))], ⟨0, [], false⟩⟩) r1 ?_ ?_
  · refine pw_ops ?_;refine po_all ?_;(conv=>whnf);refine pbr_oite h2 (fun g5 h2 => ?_) (fun g5 h2 => ?_)
    · (conv=>whnf);(iterate 3 refine pbr_t g5 ?_;(conv=>whnf));cases h2;exact ⟨(.cons rfl (.cons rfl .nil)), rfl⟩
    · (conv=>whnf);(iterate 3 refine pbr_f g5 ?_;(conv=>whnf));cases h2;exact ⟨(.cons rfl (.cons rfl .nil)), rfl⟩
  · refine pw_cond ?_;(conv=>whnf);refine pbr_oite H (fun g6 H => ?_) (fun g6 H => ?_)
    · (conv=>whnf);refine pwa ?_;(conv=>whnf);refine pw_ret ?_;(conv=>whnf);cases H; rfl
    · (conv=>whnf);refine pw_skip ?_;(conv=>whnf);obtain ⟨r7, h8, h9, h10⟩ := obndS_some H;refine pw_joinS (ρ := Unit) (fun e => ⟨[], ⟨0, [], false⟩⟩) r7 ?_ ?_
      · refine pwa ?_;(conv=>whnf);refine pw_block ?_;refine pw_loop (τ := Int) (fun e => ⟨[(0, (.string a0)), (3, (.int .i64 e))], ⟨0, [], false⟩⟩) h8 ?_ (fun _ => nl rfl) ?_
        · exact .sub' (nl rfl) (.cons rfl (.cons rfl .nil))
        · intro e11 x12 h13;refine pw_seq ?_;refine pwa ?_;(conv=>whnf);refine pw_cond ?_;(conv=>whnf);refine pbr_oite h13 (fun g14 h13 => ?_) (fun g14 h13 => ?_)
          · (conv=>whnf);refine pw_skip ?_;(conv=>whnf);refine pw_seq ?_;refine pw_block ?_;refine pwa ?_;(conv=>whnf);refine pbr_ogrd h13 (fun g15 h13 => ?_);(conv=>whnf);refine get_o h13 (fun x16 _ h13 => ?_);(conv=>whnf);refine pw_so ?_;refine po_ops 3 ?_;(conv=>whnf);obtain ⟨r17, h18, h13⟩ := obnd_some h13;refine po_seg (τ := Bool) 3 (fun e => ⟨[(0, (.string a0)), (3, (.int .i64 e11)), (4, (.int .u8 (x16.toNat : Int))), (28, (.bool e))], ⟨0, [], false⟩⟩) r17 ?_ ?_
            · refine po_all ?_;(conv=>whnf);refine pbr_oite h18 (fun g19 h18 => ?_) (fun g19 h18 => ?_)
              · (conv=>whnf);refine pbr_t g19 ?_;(conv=>whnf);refine pbr_t g19 ?_;(conv=>whnf);cases h18;exact ⟨(.cons rfl (.cons rfl (.cons rfl (.cons rfl .nil)))), rfl⟩
              · (conv=>whnf);refine pbr_f g19 ?_;(conv=>whnf);refine pbr_f g19 ?_;(conv=>whnf);cases h18;exact ⟨(.cons rfl (.cons rfl (.cons rfl (.cons rfl .nil)))), rfl⟩
            · refine po_ops 1 ?_;(conv=>whnf);obtain ⟨r20, h21, h13⟩ := obnd_some h13;refine po_seg (τ := Bool) 7 (fun e => ⟨[(0, (.string a0)), (3, (.int .i64 e11)), (4, (.int .u8 (x16.toNat : Int))), (36, (.bool e))], ⟨0, [], false⟩⟩) r20 ?_ ?_
              · refine po_all ?_;(conv=>whnf);refine pbr_oite h21 (fun g22 h21 => ?_) (fun g22 h21 => ?_)
                · (conv=>whnf);(iterate 4 refine pbr_t g22 ?_;(conv=>whnf));cases h21;exact ⟨(.cons rfl (.cons rfl (.cons rfl (.cons rfl .nil)))), rfl⟩
                · (conv=>whnf);refine pbr_f g22 ?_;(conv=>whnf);refine pbr_f g22 ?_;(conv=>whnf);refine pbr_oite h21 (fun g23 h21 => ?_) (fun g23 h21 => ?_)
                  · (conv=>whnf);refine pbr_t g23 ?_;(conv=>whnf);refine pbr_f g22 ?_;(conv=>whnf);refine pbr_t g23 ?_;(conv=>whnf);refine pbr_f g22 ?_;(conv=>whnf);cases h21;exact ⟨(.cons rfl (.cons rfl (.cons rfl (.cons rfl .nil)))), rfl⟩
                  · (conv=>whnf);refine pbr_f g23 ?_;(conv=>whnf);refine pbr_f g22 ?_;(conv=>whnf);refine pbr_f g23 ?_;(conv=>whnf);refine pbr_f g22 ?_;(conv=>whnf);cases h21;exact ⟨(.cons rfl (.cons rfl (.cons rfl (.cons rfl .nil)))), rfl⟩
              · refine po_all ?_;(conv=>whnf);obtain ⟨r24, h25, h13⟩ := obnd_some h13;refine pw_join (ρ := Bool) (fun e => ⟨[(0, (.string a0)), (3, (.int .i64 e11)), (54, (.bool e))], ⟨0, [], false⟩⟩) r24 ?_ ?_
                · refine pw_ops ?_;refine po_ops 6 ?_;(conv=>whnf);refine pbr_oite h25 (fun g28 h25 => ?_) (fun g28 h25 => ?_)
                  · (conv=>whnf);refine pbr_t g28 ?_;(conv=>whnf);refine pbr_t g28 ?_;(conv=>whnf);obtain ⟨r29, h30, h25⟩ := obnd_some h25;refine po_seg (τ := Bool) 11 (fun e => ⟨[(0, (.string a0)), (3, (.int .i64 e11)), (39, (.bool (!r20))), (40, (.int .i64 e11)), (41, (.bool (ieq e11 (0 : Int)))), (42, (.bool (ieq e11 (0 : Int)))), (53, (.bool e))], ⟨0, [], false⟩⟩) r29 ?_ ?_
                    · refine po_all ?_;(conv=>whnf);refine pbr_oite h30 (fun g31 h30 => ?_) (fun g31 h30 => ?_)
                      · (conv=>whnf);(iterate 3 refine pbr_t g31 ?_;(conv=>whnf));refine pbr_t g28 ?_;(conv=>whnf);refine pbr_t g31 ?_;(conv=>whnf);cases h30;exact ⟨(.cons rfl (.cons rfl (.cons rfl (.cons rfl (.cons rfl (.cons rfl (.cons rfl .nil))))))), rfl⟩
                      · (conv=>whnf);refine pbr_f g31 ?_;(conv=>whnf);refine pbr_f g31 ?_;(conv=>whnf);refine pbr_oite h30 (fun g32 h30 => ?_) (fun g32 h30 => ?_)
                        · (conv=>whnf);refine pbr_t g32 ?_;(conv=>whnf);refine pbr_t g32 ?_;(conv=>whnf);refine pbr_oite h30 (fun g33 h30 => ?_) (fun g33 h30 => ?_)
                          · (conv=>whnf);refine pbr_t g33 ?_;(conv=>whnf);refine pbr_t g32 ?_;(conv=>whnf);refine pbr_t g33 ?_;(conv=>whnf);refine pbr_f g31 ?_;(conv=>whnf);refine pbr_t g32 ?_;(conv=>whnf);refine pbr_t g28 ?_;(conv=>whnf);refine pbr_f g31 ?_;(conv=>whnf);cases h30;exact ⟨(.cons rfl (.cons rfl (.cons rfl (.cons rfl (.cons rfl (.cons rfl (.cons rfl .nil))))))), rfl⟩
                          · (conv=>whnf);refine pbr_f g33 ?_;(conv=>whnf);refine pbr_t g32 ?_;(conv=>whnf);refine pbr_f g33 ?_;(conv=>whnf);refine pbr_f g31 ?_;(conv=>whnf);refine pbr_t g32 ?_;(conv=>whnf);refine pbr_t g28 ?_;(conv=>whnf);refine pbr_f g31 ?_;(conv=>whnf);cases h30;exact ⟨(.cons rfl (.cons rfl (.cons rfl (.cons rfl (.cons rfl (.cons rfl (.cons rfl .nil))))))), rfl⟩
                        · (conv=>whnf);(iterate 3 refine pbr_f g32 ?_;(conv=>whnf));refine pbr_f g31 ?_;(conv=>whnf);refine pbr_f g32 ?_;(conv=>whnf);refine pbr_t g28 ?_;(conv=>whnf);refine pbr_f g31 ?_;(conv=>whnf);cases h30;exact ⟨(.cons rfl (.cons rfl (.cons rfl (.cons rfl (.cons rfl (.cons rfl (.cons rfl .nil))))))), rfl⟩
                    · refine po_all ?_;(conv=>whnf);refine pbr_t g28 ?_;(conv=>whnf);cases h25;exact ⟨(.cons rfl (.cons rfl (.cons rfl .nil))), rfl⟩
                  · (conv=>whnf);refine pbr_f g28 ?_;(conv=>whnf);refine pbr_f g28 ?_;(conv=>whnf);refine po_ops 11 ?_;(conv=>whnf);refine pbr_f g28 ?_;(conv=>whnf);refine po_all ?_;(conv=>whnf);refine pbr_f g28 ?_;(conv=>whnf);cases h25;exact ⟨(.cons rfl (.cons rfl (.cons rfl .nil))), rfl⟩
                · refine pw_cond ?_;(conv=>whnf);refine pbr_oite h13 (fun g34 h13 => ?_) (fun g34 h13 => ?_)
                  · (conv=>whnf);refine pwa ?_;(conv=>whnf);refine pw_ret ?_;(conv=>whnf);cases h13;refine ⟨_, rfl, ?_⟩; rintro rfl;(conv=>whnf);obtain rfl := h10 _ rfl; rfl
                  · (conv=>whnf);refine pw_skip ?_;(conv=>whnf);refine pw_ops ?_;refine po_all ?_;(conv=>whnf);cases h13;refine ⟨_, rfl, ?_⟩;exact .sub' (nl rfl) (.cons rfl (.cons rfl .nil))
          · (conv=>whnf);refine pw_exit ?_;(conv=>whnf);cases h13;refine ⟨_, rfl, ?_⟩; rintro rfl;(conv=>whnf);exact ⟨_, rfl, ⟨.nil, rfl⟩⟩
      · intro r37 hr; have H := h9 _ hr;refine pwa ?_;(conv=>whnf);refine pw_ret ?_;(conv=>whnf);cases H; rfl

/-- guidevane/guidevaneref09.find -/
noncomputable def f92 [LO]  (a0 : List (ByteArray × Int)) (a1 : ByteArray) : Option Int :=
 obndS (
 oloop (τ := Int) (ρ := (Unit) ⊕ Int) (fun e5 =>
 oite ((ilt e5 ((a0.map e_SI).length : Int))) (
 ogrd ((ile 0 e5)) (
 obnd (a0[e5.toNat]?) fun (x10 : ByteArray × Int) =>
 oite ((x10.1.toList == a1.toList)) (
 some (.inr (.inr (e5)))
 ) (
 some (.inl (IntKind.i64.wrap (e5 + (1 : Int))))))
 ) (
 some (.inr (.inl ())))
 ) (0 : Int)
 ) fun (_ : Unit) =>
 some (-1 : Int)
set_option maxHeartbeats 1000000 in
theorem c92 [LO]  {a0 : List (ByteArray × Int)} {a1 : ByteArray} {x : Int} (H : f92 a0 a1 = some x) : ICalls E 92 [(VS 2 (a0.map e_SI)), (.string a1)] AHeap.none fun v _ => v = (.int .i64 x) := by
  refine icalls_fn (pfnw ?_); unfold f92 at H;(conv=>whnf);refine pwa ?_;(conv=>whnf);obtain ⟨r1, h2, h3, h4⟩ := obndS_some H;refine pw_joinS (ρ := Unit) (fun e => ⟨[], ⟨0, [], false⟩⟩) r1 ?_ ?_
  · refine pwa ?_;(conv=>whnf);refine pw_block ?_;refine pw_loop (τ := Int) (fun e => ⟨[(0, (VS 2 (a0.map e_SI))), (1, (.string a1)), (5, (.int .i64 e))], ⟨0, [], false⟩⟩) h2 ?_ (fun _ => nl rfl) ?_
    · exact .sub' (nl rfl) (.cons rfl (.cons rfl (.cons rfl .nil)))
    · intro e5 x6 h7;refine pw_seq ?_;refine pwa ?_;(conv=>whnf);refine pw_cond ?_;(conv=>whnf);refine pbr_oite h7 (fun g8 h7 => ?_) (fun g8 h7 => ?_)
      · (conv=>whnf);refine pw_skip ?_;(conv=>whnf);refine pw_seq ?_;refine pw_block ?_;refine pwa ?_;(conv=>whnf);refine pbr_ogrd h7 (fun g9 h7 => ?_);(conv=>whnf);refine nth_o (l := a0) h7 (fun x10 _ h7 => ?_);(conv=>whnf);refine pw_cond ?_;(conv=>whnf);refine pbr_oite h7 (fun g11 h7 => ?_) (fun g11 h7 => ?_)
        · (conv=>whnf);refine pwa ?_;(conv=>whnf);refine pw_ret ?_;(conv=>whnf);cases h7;refine ⟨_, rfl, ?_⟩; rintro rfl;(conv=>whnf);obtain rfl := h4 _ rfl; rfl
        · (conv=>whnf);refine pw_skip ?_;(conv=>whnf);refine pw_ops ?_;refine po_all ?_;(conv=>whnf);cases h7;refine ⟨_, rfl, ?_⟩;exact .sub' (nl rfl) (.cons rfl (.cons rfl (.cons rfl .nil)))
      · (conv=>whnf);refine pw_exit ?_;(conv=>whnf);cases h7;refine ⟨_, rfl, ?_⟩; rintro rfl;(conv=>whnf);exact ⟨_, rfl, ⟨.nil, rfl⟩⟩
  · intro r14 hr; have H := h3 _ hr;refine pwa ?_;(conv=>whnf);refine pw_ret ?_;(conv=>whnf);cases H; rfl

/-- guidevane/guidevaneref09.CheckRules -/
noncomputable def f46 [LO]  (a0 : List Int) (a1 : List Int) (a2 : Int) (a3 : List (ByteArray × Int)) : Option (Int × Int) :=
 obnd (
 oite ((ieq ((a0.map eI).length : Int) (0 : Int))) (
 some true
 ) (
 some (!(ieq ((a1.map eI).length : Int) ((a0.map eI).length : Int))))
 ) fun (r1 : Bool) =>
 oite r1 (
 some ((0 : Int), (10 : Int))
 ) (
 oite ((ilt (5 : Int) ((a0.map eI).length : Int))) (
 some ((0 : Int), (8 : Int))
 ) (
 obndS (
 oloop (τ := Int) (ρ := (Unit) ⊕ (Int × Int)) (fun e12 =>
 oite ((ilt e12 ((a0.map eI).length : Int))) (
 obnd (
 ogrd ((ile 0 e12)) (
 obnd (a0[e12.toNat]?) fun (x21 : Int) =>
 obnd (f15 x21 (1 : Int) (1000000 : Int)) fun (y22 : Bool) =>
 oite (!y22) (
 some true
 ) (
 obnd (a1[e12.toNat]?) fun (x25 : Int) =>
 obnd (f15 x25 (1 : Int) (1000000 : Int)) fun (y26 : Bool) =>
 some (!y26)))
 ) fun (r16 : Bool) =>
 oite r16 (
 some (.inr (.inr ((e12, (2 : Int)))))
 ) (
 ogrd ((ile 0 e12)) (
 obnd (a1[e12.toNat]?) fun (x31 : Int) =>
 obnd (a0[e12.toNat]?) fun (x32 : Int) =>
 oite ((ilt x32 x31)) (
 some (.inr (.inr ((e12, (3 : Int)))))
 ) (
 obnd (
 oite ((ilt (0 : Int) e12)) (
 obnd (a0[e12.toNat]?) fun (x40 : Int) =>
 ogrd ((ile 0 (IntKind.i64.wrap (e12 - (1 : Int))))) (
 obnd (a0[(IntKind.i64.wrap (e12 - (1 : Int))).toNat]?) fun (x42 : Int) =>
 oite ((ile x40 x42)) (
 some true
 ) (
 obnd (a1[e12.toNat]?) fun (x44 : Int) =>
 obnd (a1[(IntKind.i64.wrap (e12 - (1 : Int))).toNat]?) fun (x45 : Int) =>
 some (ilt x44 x45)))
 ) (
 some false)
 ) fun (r35 : Bool) =>
 oite r35 (
 some (.inr (.inr ((e12, (9 : Int)))))
 ) (
 some (.inl (IntKind.i64.wrap (e12 + (1 : Int))))))))
 ) (
 some (.inr (.inl ())))
 ) (0 : Int)
 ) fun (_ : Unit) =>
 obnd (f15 a2 (0 : Int) (1000000 : Int)) fun (y50 : Bool) =>
 oite (!y50) (
 some ((0 : Int), (2 : Int))
 ) (
 oite ((ilt (10 : Int) ((a3.map e_SI).length : Int))) (
 some ((0 : Int), (8 : Int))
 ) (
 obndS (
 oloop (τ := Int) (ρ := (Unit) ⊕ (Int × Int)) (fun e58 =>
 oite ((ilt e58 ((a3.map e_SI).length : Int))) (
 ogrd ((ile 0 e58)) (
 obnd (a3[e58.toNat]?) fun (x63 : ByteArray × Int) =>
 obnd (f91 x63.1) fun (y64 : Bool) =>
 oite (!y64) (
 some (.inr (.inr ((e58, (4 : Int)))))
 ) (
 obnd (oslH a3 e58) fun (m68 : List (ByteArray × Int)) =>
 obnd (a3[e58.toNat]?) fun (x71 : ByteArray × Int) =>
 obnd (f92 m68 x71.1) fun (y72 : Int) =>
 oite ((ile (0 : Int) y72)) (
 some (.inr (.inr ((e58, (5 : Int)))))
 ) (
 obnd (a3[e58.toNat]?) fun (x76 : ByteArray × Int) =>
 obnd (f15 x76.2 (1 : Int) ((a0.map eI).length : Int)) fun (y77 : Bool) =>
 oite (!y77) (
 some (.inr (.inr ((e58, (2 : Int)))))
 ) (
 some (.inl (IntKind.i64.wrap (e58 + (1 : Int))))))))
 ) (
 some (.inr (.inl ())))
 ) (0 : Int)
 ) fun (_ : Unit) =>
 some ((0 : Int), (0 : Int))))))
set_option maxHeartbeats 1000000 in
theorem c46 [LO]  {a0 : List Int} {a1 : List Int} {a2 : Int} {a3 : List (ByteArray × Int)} {x : Int × Int} (H : f46 a0 a1 a2 a3 = some x) : ICalls E 46 [(.agg ⟨[(VS 1 (a0.map eI)), (VS 1 (a1.map eI)), (.int .i64 a2), (VS 2 (a3.map e_SI))]⟩)] AHeap.none fun v _ => v = (.tuple ⟨[(.int .i64 x.1), (.int .i64 x.2)]⟩) := by
  refine icalls_fn (pfnw ?_); unfold f46 at H;(conv=>whnf);refine pwa ?_;(conv=>whnf);refine pw_seq ?_;obtain ⟨r1, h2, H⟩ := obnd_some H;refine pw_join (ρ := Bool) (fun e => ⟨[(1, (.pointer (some ⟨0, 0, none⟩))), (18, (.bool e))], ⟨1, [(0, .rw [(VS 1 (a0.map eI)), (VS 1 (a1.map eI)), (.int .i64 a2), (VS 2 (a3.map e_SI))])], false⟩⟩) r1 ?_ ?_
  · refine pw_ops ?_;refine po_all ?_;(conv=>whnf);refine pbr_oite h2 (fun g5 h2 => ?_) (fun g5 h2 => ?_)
    · (conv=>whnf);(iterate 7 refine pbr_t g5 ?_;(conv=>whnf));cases h2;exact ⟨(.cons rfl (.cons rfl .nil)), rfl⟩
    · (conv=>whnf);(iterate 7 refine pbr_f g5 ?_;(conv=>whnf));cases h2;exact ⟨(.cons rfl (.cons rfl .nil)), rfl⟩
  · refine pw_cond ?_;(conv=>whnf);refine pbr_oite H (fun g6 H => ?_) (fun g6 H => ?_)
    · (conv=>whnf);refine pwa ?_;(conv=>whnf);refine pw_ret ?_;(conv=>whnf);cases H; rfl
    · (conv=>whnf);refine pw_skip ?_;(conv=>whnf);refine pw_seq ?_;refine pwa ?_;(conv=>whnf);refine pw_cond ?_;(conv=>whnf);refine pbr_oite H (fun g7 H => ?_) (fun g7 H => ?_)
      · (conv=>whnf);refine pwa ?_;(conv=>whnf);refine pw_ret ?_;(conv=>whnf);cases H; rfl
      · (conv=>whnf);refine pw_skip ?_;(conv=>whnf);obtain ⟨r8, h9, h10, h11⟩ := obndS_some H;refine pw_joinS (ρ := Unit) (fun e => ⟨[(1, (.pointer (some ⟨0, 0, none⟩)))], ⟨1, [(0, .rw [(VS 1 (a0.map eI)), (VS 1 (a1.map eI)), (.int .i64 a2), (VS 2 (a3.map e_SI))])], false⟩⟩) r8 ?_ ?_
        · refine pwa ?_;(conv=>whnf);refine pw_block ?_;refine pw_loop (τ := Int) (fun e => ⟨[(1, (.pointer (some ⟨0, 0, none⟩))), (4, (.int .i64 e))], ⟨1, [(0, .rw [(VS 1 (a0.map eI)), (VS 1 (a1.map eI)), (.int .i64 a2), (VS 2 (a3.map e_SI))])], false⟩⟩) h9 ?_ (fun _ => nl rfl) ?_
          · exact .sub' (nl rfl) (.cons rfl (.cons rfl .nil))
          · intro e12 x13 h14;refine pw_seq ?_;refine pwa ?_;(conv=>whnf);refine pw_cond ?_;(conv=>whnf);refine pbr_oite h14 (fun g15 h14 => ?_) (fun g15 h14 => ?_)
            · (conv=>whnf);refine pw_skip ?_;(conv=>whnf);refine pw_seq ?_;refine pw_block ?_;refine pw_seq ?_;obtain ⟨r16, h17, h14⟩ := obnd_some h14;refine pw_join (ρ := Bool) (fun e => ⟨[(1, (.pointer (some ⟨0, 0, none⟩))), (4, (.int .i64 e12)), (45, (.bool e))], ⟨1, [(0, .rw [(VS 1 (a0.map eI)), (VS 1 (a1.map eI)), (.int .i64 a2), (VS 2 (a3.map e_SI))])], false⟩⟩) r16 ?_ ?_
              · refine pw_ops ?_;refine po_all ?_;(conv=>whnf);refine pbr_ogrd h17 (fun g20 h17 => ?_);(conv=>whnf);refine nth_o (l := a0) h17 (fun x21 _ h17 => ?_);(conv=>whnf);obtain ⟨y22, h23, h17⟩ := obnd_some h17;refine (c15 h23).go ?_;(conv=>whnf);refine pbr_oite h17 (fun g24 h17 => ?_) (fun g24 h17 => ?_)
                · (conv=>whnf);(iterate 7 refine pbr_t g24 ?_;(conv=>whnf));cases h17;exact ⟨(.cons rfl (.cons rfl (.cons rfl .nil))), rfl⟩
                · (conv=>whnf);(iterate 3 refine pbr_f g24 ?_;(conv=>whnf));refine pbr_t g20 ?_;(conv=>whnf);refine nth_o (l := a1) h17 (fun x25 _ h17 => ?_);(conv=>whnf);refine pbr_f g24 ?_;(conv=>whnf);refine pbr_f g24 ?_;(conv=>whnf);obtain ⟨y26, h27, h17⟩ := obnd_some h17;refine (c15 h27).go ?_;(conv=>whnf);refine pbr_f g24 ?_;(conv=>whnf);refine pbr_f g24 ?_;(conv=>whnf);cases h17;exact ⟨(.cons rfl (.cons rfl (.cons rfl .nil))), rfl⟩
              · refine pw_cond ?_;(conv=>whnf);refine pbr_oite h14 (fun g28 h14 => ?_) (fun g28 h14 => ?_)
                · (conv=>whnf);refine pwa ?_;(conv=>whnf);refine pw_ret ?_;(conv=>whnf);cases h14;refine ⟨_, rfl, ?_⟩; rintro rfl;(conv=>whnf);obtain rfl := h11 _ rfl; rfl
                · (conv=>whnf);refine pw_skip ?_;(conv=>whnf);refine pw_seq ?_;refine pw_sd ?_;(conv=>whnf);refine pbr_ogrd h14 (fun g30 h14 => ?_);(conv=>whnf);refine nth_o (l := a1) h14 (fun x31 _ h14 => ?_);(conv=>whnf);refine pbr_t g30 ?_;(conv=>whnf);refine nth_o (l := a0) h14 (fun x32 _ h14 => ?_);(conv=>whnf);refine pw_cond ?_;(conv=>whnf);refine pbr_oite h14 (fun g33 h14 => ?_) (fun g33 h14 => ?_)
                  · (conv=>whnf);refine pwa ?_;(conv=>whnf);refine pw_ret ?_;(conv=>whnf);cases h14;refine ⟨_, rfl, ?_⟩; rintro rfl;(conv=>whnf);obtain rfl := h11 _ rfl; rfl
                  · (conv=>whnf);refine pw_skip ?_;(conv=>whnf);obtain ⟨r35, h36, h14⟩ := obnd_some h14;refine pw_join (ρ := Bool) (fun e => ⟨[(1, (.pointer (some ⟨0, 0, none⟩))), (4, (.int .i64 e12)), (88, (.bool e))], ⟨1, [(0, .rw [(VS 1 (a0.map eI)), (VS 1 (a1.map eI)), (.int .i64 a2), (VS 2 (a3.map e_SI))])], false⟩⟩) r35 ?_ ?_
                    · refine pw_draw ?_;(conv=>whnf);refine pbr_oite h36 (fun g39 h36 => ?_) (fun g39 h36 => ?_)
                      · (conv=>whnf);(iterate 3 refine pbr_t g39 ?_;(conv=>whnf));refine pbr_t g30 ?_;(conv=>whnf);refine nth_o (l := a0) h36 (fun x40 _ h36 => ?_);(conv=>whnf);(iterate 6 refine pbr_t g39 ?_;(conv=>whnf));refine pbr_ogrd h36 (fun g41 h36 => ?_);(conv=>whnf);refine nth_o (l := a0) h36 (fun x42 _ h36 => ?_);(conv=>whnf);refine pbr_t g39 ?_;(conv=>whnf);refine pbr_t g39 ?_;(conv=>whnf);refine pbr_t g39 ?_
                        (conv=>whnf);refine pbr_oite h36 (fun g43 h36 => ?_) (fun g43 h36 => ?_)
                        · (conv=>whnf);(iterate 11 refine pbr_t g43 ?_;(conv=>whnf));refine pbr_t g39 ?_;(conv=>whnf);refine pbr_t g43 ?_;(conv=>whnf);refine pbr_t g39 ?_;(conv=>whnf);cases h36;exact ⟨(.cons rfl (.cons rfl (.cons rfl .nil))), rfl⟩
                        · (conv=>whnf);(iterate 3 refine pbr_f g43 ?_;(conv=>whnf));refine pbr_t g30 ?_;(conv=>whnf);refine nth_o (l := a1) h36 (fun x44 _ h36 => ?_);(conv=>whnf);(iterate 6 refine pbr_f g43 ?_;(conv=>whnf));refine pbr_t g41 ?_;(conv=>whnf);refine nth_o (l := a1) h36 (fun x45 _ h36 => ?_);(conv=>whnf);refine pbr_f g43 ?_;(conv=>whnf);refine pbr_f g43 ?_;(conv=>whnf);refine pbr_t g39 ?_;(conv=>whnf);refine pbr_f g43 ?_
                          (conv=>whnf);refine pbr_t g39 ?_;(conv=>whnf);cases h36;exact ⟨(.cons rfl (.cons rfl (.cons rfl .nil))), rfl⟩
                      · (conv=>whnf);(iterate 14 refine pbr_f g39 ?_;(conv=>whnf));cases h36;exact ⟨(.cons rfl (.cons rfl (.cons rfl .nil))), rfl⟩
                    · refine pw_cond ?_;(conv=>whnf);refine pbr_oite h14 (fun g46 h14 => ?_) (fun g46 h14 => ?_)
                      · (conv=>whnf);refine pwa ?_;(conv=>whnf);refine pw_ret ?_;(conv=>whnf);cases h14;refine ⟨_, rfl, ?_⟩; rintro rfl;(conv=>whnf);obtain rfl := h11 _ rfl; rfl
                      · (conv=>whnf);refine pw_skip ?_;(conv=>whnf);refine pw_ops ?_;refine po_all ?_;(conv=>whnf);cases h14;refine ⟨_, rfl, ?_⟩;exact .sub' (nl rfl) (.cons rfl (.cons rfl .nil))
            · (conv=>whnf);refine pw_exit ?_;(conv=>whnf);cases h14;refine ⟨_, rfl, ?_⟩; rintro rfl;(conv=>whnf);exact ⟨_, rfl, ⟨(.cons rfl .nil), rfl⟩⟩
        · intro r49 hr; have H := h10 _ hr;refine pw_seq ?_;refine pwa ?_;(conv=>whnf);obtain ⟨y50, h51, H⟩ := obnd_some H;refine (c15 h51).go ?_;(conv=>whnf);refine pw_cond ?_;(conv=>whnf);refine pbr_oite H (fun g52 H => ?_) (fun g52 H => ?_)
          · (conv=>whnf);refine pwa ?_;(conv=>whnf);refine pw_ret ?_;(conv=>whnf);cases H; rfl
          · (conv=>whnf);refine pw_skip ?_;(conv=>whnf);refine pw_seq ?_;refine pwa ?_;(conv=>whnf);refine pw_cond ?_;(conv=>whnf);refine pbr_oite H (fun g53 H => ?_) (fun g53 H => ?_)
            · (conv=>whnf);refine pwa ?_;(conv=>whnf);refine pw_ret ?_;(conv=>whnf);cases H; rfl
            · (conv=>whnf);refine pw_skip ?_;(conv=>whnf);obtain ⟨r54, h55, h56, h57⟩ := obndS_some H;refine pw_joinS (ρ := Unit) (fun e => ⟨[], ⟨1, [(0, .rw [(VS 1 (a0.map eI)), (VS 1 (a1.map eI)), (.int .i64 a2), (VS 2 (a3.map e_SI))])], false⟩⟩) r54 ?_ ?_
              · refine pwa ?_;(conv=>whnf);refine pw_block ?_;refine pw_loop (τ := Int) (fun e => ⟨[(1, (.pointer (some ⟨0, 0, none⟩))), (5, (.int .i64 e))], ⟨1, [(0, .rw [(VS 1 (a0.map eI)), (VS 1 (a1.map eI)), (.int .i64 a2), (VS 2 (a3.map e_SI))])], false⟩⟩) h55 ?_ (fun _ => nl rfl) ?_
                · exact .sub' (nl rfl) (.cons rfl (.cons rfl .nil))
                · intro e58 x59 h60;refine pw_seq ?_;refine pwa ?_;(conv=>whnf);refine pw_cond ?_;(conv=>whnf);refine pbr_oite h60 (fun g61 h60 => ?_) (fun g61 h60 => ?_)
                  · (conv=>whnf);refine pw_skip ?_;(conv=>whnf);refine pw_seq ?_;refine pw_block ?_;refine pw_seq ?_;refine pwa ?_;(conv=>whnf);refine pbr_ogrd h60 (fun g62 h60 => ?_);(conv=>whnf);refine nth_o (l := a3) h60 (fun x63 _ h60 => ?_);(conv=>whnf);obtain ⟨y64, h65, h60⟩ := obnd_some h60;refine (c91 h65).go ?_;(conv=>whnf);refine pw_cond ?_;(conv=>whnf);refine pbr_oite h60 (fun g66 h60 => ?_) (fun g66 h60 => ?_)
                    · (conv=>whnf);refine pwa ?_;(conv=>whnf);refine pw_ret ?_;(conv=>whnf);cases h60;refine ⟨_, rfl, ?_⟩; rintro rfl;(conv=>whnf);obtain rfl := h57 _ rfl; rfl
                    · (conv=>whnf);refine pw_skip ?_;(conv=>whnf);refine pw_seq ?_;refine pw_sd ?_;(conv=>whnf);refine oslH_o (f := e_SI) h60 (fun m68 _ h60 h69 h70 => ?_);refine pbr_t (ile_t h69.1) ?_;(conv=>whnf);refine pbr_t (ile_t (by simpa only [List.length_map] using h69.2)) ?_; rw [h70];(conv=>whnf);refine pbr_t g62 ?_;(conv=>whnf);refine nth_o (l := a3) h60 (fun x71 _ h60 => ?_);(conv=>whnf);refine ⟨?_, trivial⟩;(conv=>whnf);obtain ⟨y72, h73, h60⟩ := obnd_some h60;refine (c92 h73).go ?_;(conv=>whnf);refine ⟨by repeat (first | exact trivial | refine And.intro rfl ?_), ?_⟩;(conv=>whnf);refine pw_cond ?_;(conv=>whnf)
                      refine pbr_oite h60 (fun g74 h60 => ?_) (fun g74 h60 => ?_)
                      · (conv=>whnf);refine pwa ?_;(conv=>whnf);refine pw_ret ?_;(conv=>whnf);cases h60;refine ⟨_, rfl, ?_⟩; rintro rfl;(conv=>whnf);obtain rfl := h57 _ rfl; rfl
                      · (conv=>whnf);refine pw_skip ?_;(conv=>whnf);refine pw_sd ?_;(conv=>whnf);refine pbr_t g62 ?_;(conv=>whnf);refine nth_o (l := a3) h60 (fun x76 _ h60 => ?_);(conv=>whnf);refine ⟨?_, trivial⟩;(conv=>whnf);obtain ⟨y77, h78, h60⟩ := obnd_some h60;refine (c15 h78).go ?_;(conv=>whnf);refine ⟨by repeat (first | exact trivial | refine And.intro rfl ?_), ?_⟩;(conv=>whnf);refine pw_cond ?_;(conv=>whnf);refine pbr_oite h60 (fun g79 h60 => ?_) (fun g79 h60 => ?_)
                        · (conv=>whnf);refine pwa ?_;(conv=>whnf);refine pw_ret ?_;(conv=>whnf);cases h60;refine ⟨_, rfl, ?_⟩; rintro rfl;(conv=>whnf);obtain rfl := h57 _ rfl; rfl
                        · (conv=>whnf);refine pw_skip ?_;(conv=>whnf);refine pw_ops ?_;refine po_all ?_;(conv=>whnf);cases h60;refine ⟨_, rfl, ?_⟩;exact .sub' (nl rfl) (.cons rfl (.cons rfl .nil))
                  · (conv=>whnf);refine pw_exit ?_;(conv=>whnf);cases h60;refine ⟨_, rfl, ?_⟩; rintro rfl;(conv=>whnf);exact ⟨_, rfl, ⟨.nil, rfl⟩⟩
              · intro r82 hr; have H := h56 _ hr;refine pwa ?_;(conv=>whnf);refine pw_ret ?_;(conv=>whnf);cases H; rfl

/-- guidevane/guidevaneref09.RulesErr -/
noncomputable def f39 [LO]  (a0 : List Int) (a1 : List Int) (a2 : Int) (a3 : List (ByteArray × Int)) : Option Int :=
 obnd (f46 a0 a1 a2 a3) fun (y1 : Int × Int) =>
 some y1.2
set_option maxHeartbeats 1000000 in
theorem c39 [LO]  {a0 : List Int} {a1 : List Int} {a2 : Int} {a3 : List (ByteArray × Int)} {x : Int} (H : f39 a0 a1 a2 a3 = some x) : ICalls E 39 [(.agg ⟨[(VS 1 (a0.map eI)), (VS 1 (a1.map eI)), (.int .i64 a2), (VS 2 (a3.map e_SI))]⟩)] AHeap.none fun v _ => v = (.int .i64 x) := by
  refine icalls_fn (pfnw ?_); unfold f39 at H;(conv=>whnf);refine pwa ?_;(conv=>whnf);refine pwa ?_;(conv=>whnf);obtain ⟨y1, h2, H⟩ := obnd_some H;refine (c46 h2).go ?_;(conv=>whnf);refine pwa ?_;(conv=>whnf);refine pw_ret ?_;(conv=>whnf);cases H; rfl

/-- guidevane/guidevaneref09.ReadingErr -/
noncomputable def f32  (a0 : Int) (a1 : Int) (a2 : Int) : Option Int :=
 obnd (
 obnd (f15 a0 (0 : Int) (36000 : Int)) fun (y5 : Bool) =>
 obnd (
 oite (!y5) (
 some true
 ) (
 obnd (f15 a1 (-50 : Int) (50 : Int)) fun (y10 : Bool) =>
 some (!y10))
 ) fun (r7 : Bool) =>
 oite r7 (
 some true
 ) (
 obnd (f15 a2 (-2000 : Int) (2000 : Int)) fun (y13 : Bool) =>
 some (!y13))
 ) fun (r1 : Bool) =>
 oite r1 (
 some (2 : Int)
 ) (
 some (0 : Int))
set_option maxHeartbeats 1000000 in
theorem c32  {a0 : Int} {a1 : Int} {a2 : Int} {x : Int} (H : f32 a0 a1 a2 = some x) : ICalls E 32 [(.agg ⟨[(.int .i64 a0), (.int .i64 a1), (.int .i64 a2)]⟩)] AHeap.none fun v _ => v = (.int .i64 x) := by
  refine icalls_fn (pfnw ?_); unfold f32 at H;(conv=>whnf);refine pwa ?_;(conv=>whnf);refine pw_seq ?_;obtain ⟨r1, h2, H⟩ := obnd_some H;refine pw_join (ρ := Bool) (fun e => ⟨[(18, (.bool e))], ⟨1, [(0, .rw [(.int .i64 a0), (.int .i64 a1), (.int .i64 a2)])], false⟩⟩) r1 ?_ ?_
  · refine pw_ops ?_;refine po_ops 5 ?_;(conv=>whnf);obtain ⟨y5, h6, h2⟩ := obnd_some h2;refine (c15 h6).go ?_;(conv=>whnf);obtain ⟨r7, h8, h2⟩ := obnd_some h2;refine po_seg (τ := Bool) 5 (fun e => ⟨[(1, (.pointer (some ⟨0, 0, none⟩))), (12, (.bool e))], ⟨1, [(0, .rw [(.int .i64 a0), (.int .i64 a1), (.int .i64 a2)])], false⟩⟩) r7 ?_ ?_
    · refine po_all ?_;(conv=>whnf);refine pbr_oite h8 (fun g9 h8 => ?_) (fun g9 h8 => ?_)
      · (conv=>whnf);(iterate 4 refine pbr_t g9 ?_;(conv=>whnf));cases h8;exact ⟨(.cons rfl (.cons rfl .nil)), rfl⟩
      · (conv=>whnf);refine pbr_f g9 ?_;(conv=>whnf);refine pbr_f g9 ?_;(conv=>whnf);obtain ⟨y10, h11, h8⟩ := obnd_some h8;refine (c15 h11).go ?_;(conv=>whnf);refine pbr_f g9 ?_;(conv=>whnf);refine pbr_f g9 ?_;(conv=>whnf);cases h8;exact ⟨(.cons rfl (.cons rfl .nil)), rfl⟩
    · refine po_all ?_;(conv=>whnf);refine pbr_oite h2 (fun g12 h2 => ?_) (fun g12 h2 => ?_)
      · (conv=>whnf);(iterate 4 refine pbr_t g12 ?_;(conv=>whnf));cases h2;exact ⟨(.cons rfl .nil), rfl⟩
      · (conv=>whnf);refine pbr_f g12 ?_;(conv=>whnf);refine pbr_f g12 ?_;(conv=>whnf);obtain ⟨y13, h14, h2⟩ := obnd_some h2;refine (c15 h14).go ?_;(conv=>whnf);refine pbr_f g12 ?_;(conv=>whnf);refine pbr_f g12 ?_;(conv=>whnf);cases h2;exact ⟨(.cons rfl .nil), rfl⟩
  · refine pw_cond ?_;(conv=>whnf);refine pbr_oite H (fun g15 H => ?_) (fun g15 H => ?_)
    · (conv=>whnf);refine pwa ?_;(conv=>whnf);refine pw_ret ?_;(conv=>whnf);cases H; rfl
    · (conv=>whnf);refine pw_skip ?_;(conv=>whnf);refine pwa ?_;(conv=>whnf);refine pw_ret ?_;(conv=>whnf);cases H; rfl

/-- guidevane/guidevaneref09.ReadingsErr -/
noncomputable def f51 [LO]  (a0 : List (Int × Int × Int)) : Option Int :=
 oite ((ieq ((a0.map e_III).length : Int) (0 : Int))) (
 some (10 : Int)
 ) (
 oite ((ilt (12 : Int) ((a0.map e_III).length : Int))) (
 some (8 : Int)
 ) (
 obndS (
 oloop (τ := Int) (ρ := (Unit) ⊕ Int) (fun e7 =>
 oite ((ilt e7 ((a0.map e_III).length : Int))) (
 ogrd ((ile 0 e7)) (
 obnd (a0[e7.toNat]?) fun (x12 : Int × Int × Int) =>
 obnd (f32 x12.1 x12.2.1 x12.2.2) fun (y13 : Int) =>
 oite ((!(ieq y13 (0 : Int)))) (
 some (.inr (.inr (y13)))
 ) (
 some (.inl (IntKind.i64.wrap (e7 + (1 : Int))))))
 ) (
 some (.inr (.inl ())))
 ) (0 : Int)
 ) fun (_ : Unit) =>
 some (0 : Int)))
set_option maxHeartbeats 1000000 in
theorem c51 [LO]  {a0 : List (Int × Int × Int)} {x : Int} (H : f51 a0 = some x) : ICalls E 51 [(VS 3 (a0.map e_III))] AHeap.none fun v _ => v = (.int .i64 x) := by
  refine icalls_fn (pfnw ?_); unfold f51 at H;(conv=>whnf);refine pwa ?_;(conv=>whnf);refine pw_seq ?_;refine pwa ?_;(conv=>whnf);refine pw_cond ?_;(conv=>whnf);refine pbr_oite H (fun g1 H => ?_) (fun g1 H => ?_)
  · (conv=>whnf);refine pwa ?_;(conv=>whnf);refine pw_ret ?_;(conv=>whnf);cases H; rfl
  · (conv=>whnf);refine pw_skip ?_;(conv=>whnf);refine pw_seq ?_;refine pwa ?_;(conv=>whnf);refine pw_cond ?_;(conv=>whnf);refine pbr_oite H (fun g2 H => ?_) (fun g2 H => ?_)
    · (conv=>whnf);refine pwa ?_;(conv=>whnf);refine pw_ret ?_;(conv=>whnf);cases H; rfl
    · (conv=>whnf);refine pw_skip ?_;(conv=>whnf);obtain ⟨r3, h4, h5, h6⟩ := obndS_some H;refine pw_joinS (ρ := Unit) (fun e => ⟨[], ⟨0, [], false⟩⟩) r3 ?_ ?_
      · refine pwa ?_;(conv=>whnf);refine pw_block ?_;refine pw_loop (τ := Int) (fun e => ⟨[(0, (VS 3 (a0.map e_III))), (3, (.int .i64 e))], ⟨0, [], false⟩⟩) h4 ?_ (fun _ => nl rfl) ?_
        · exact .sub' (nl rfl) (.cons rfl (.cons rfl .nil))
        · intro e7 x8 h9;refine pw_seq ?_;refine pwa ?_;(conv=>whnf);refine pw_cond ?_;(conv=>whnf);refine pbr_oite h9 (fun g10 h9 => ?_) (fun g10 h9 => ?_)
          · (conv=>whnf);refine pw_skip ?_;(conv=>whnf);refine pw_seq ?_;refine pw_block ?_;refine pwa ?_;(conv=>whnf);refine pbr_ogrd h9 (fun g11 h9 => ?_);(conv=>whnf);refine nth_o (l := a0) h9 (fun x12 _ h9 => ?_);(conv=>whnf);obtain ⟨y13, h14, h9⟩ := obnd_some h9;refine (c32 h14).go ?_;(conv=>whnf);refine pwa ?_;(conv=>whnf);refine pw_cond ?_;(conv=>whnf);refine pbr_oite h9 (fun g15 h9 => ?_) (fun g15 h9 => ?_)
            · (conv=>whnf);refine pwa ?_;(conv=>whnf);refine pw_ret ?_;(conv=>whnf);cases h9;refine ⟨_, rfl, ?_⟩; rintro rfl;(conv=>whnf);obtain rfl := h6 _ rfl; rfl
            · (conv=>whnf);refine pw_skip ?_;(conv=>whnf);refine pw_ops ?_;refine po_all ?_;(conv=>whnf);cases h9;refine ⟨_, rfl, ?_⟩;exact .sub' (nl rfl) (.cons rfl (.cons rfl .nil))
          · (conv=>whnf);refine pw_exit ?_;(conv=>whnf);cases h9;refine ⟨_, rfl, ?_⟩; rintro rfl;(conv=>whnf);exact ⟨_, rfl, ⟨.nil, rfl⟩⟩
      · intro r18 hr; have H := h5 _ hr;refine pwa ?_;(conv=>whnf);refine pw_ret ?_;(conv=>whnf);cases H; rfl

/-- guidevane/guidevaneref09.TermsErr -/
noncomputable def f52  (a0 : Int) : Option Int :=
 obnd (f15 a0 (1 : Int) (31 : Int)) fun (y1 : Bool) =>
 oite (!y1) (
 some (2 : Int)
 ) (
 some (0 : Int))
set_option maxHeartbeats 1000000 in
theorem c52  {a0 : Int} {x : Int} (H : f52 a0 = some x) : ICalls E 52 [(.int .i64 a0)] AHeap.none fun v _ => v = (.int .i64 x) := by
  refine icalls_fn (pfnw ?_); unfold f52 at H;(conv=>whnf);refine pwa ?_;(conv=>whnf);refine pw_seq ?_;refine pwa ?_;(conv=>whnf);obtain ⟨y1, h2, H⟩ := obnd_some H;refine (c15 h2).go ?_;(conv=>whnf);refine pw_cond ?_;(conv=>whnf);refine pbr_oite H (fun g3 H => ?_) (fun g3 H => ?_)
  · (conv=>whnf);refine pwa ?_;(conv=>whnf);refine pw_ret ?_;(conv=>whnf);cases H; rfl
  · (conv=>whnf);refine pw_skip ?_;(conv=>whnf);refine pwa ?_;(conv=>whnf);refine pw_ret ?_;(conv=>whnf);cases H; rfl

/-- guidevane/dam.FormatReading -/
noncomputable def f374  (a0 : Int) (a1 : Int) (a2 : Int) : Option ByteArray :=
 obnd (f385 a0) fun (y1 : ByteArray) =>
 obnd (f385 a1) fun (y3 : ByteArray) =>
 obnd (f385 a2) fun (y5 : ByteArray) =>
 obnd (f384 ([y1, y3, y5] : List ByteArray) (⟨#[32]⟩ : ByteArray)) fun (y7 : ByteArray) =>
 some y7
set_option maxHeartbeats 1000000 in
theorem c374  {a0 : Int} {a1 : Int} {a2 : Int} {x : ByteArray} (H : f374 a0 a1 a2 = some x) : ICalls E 374 [(.agg ⟨[(.int .i64 a0), (.int .i64 a1), (.int .i64 a2)]⟩)] AHeap.none fun v _ => v = (.string x) := by
  refine icalls_fn (pfnw ?_); unfold f374 at H;(conv=>whnf);refine pwa ?_;(conv=>whnf);refine pw_sd ?_;(conv=>whnf);refine ⟨?_, trivial⟩;(conv=>whnf);obtain ⟨y1, h2, H⟩ := obnd_some H;refine (c385 h2).go ?_;(conv=>whnf);refine ⟨by repeat (first | exact trivial | refine And.intro rfl ?_), ?_⟩;(conv=>whnf);refine ⟨?_, trivial⟩;(conv=>whnf);obtain ⟨y3, h4, H⟩ := obnd_some H;refine (c385 h4).go ?_;(conv=>whnf);refine ⟨by repeat (first | exact trivial | refine And.intro rfl ?_), ?_⟩;(conv=>whnf);refine ⟨?_, trivial⟩;(conv=>whnf);obtain ⟨y5, h6, H⟩ := obnd_some H;refine (c385 h6).go ?_;(conv=>whnf)
  refine ⟨by repeat (first | exact trivial | refine And.intro rfl ?_), ?_⟩;(conv=>whnf);refine ⟨?_, trivial⟩;(conv=>whnf);refine ⟨by repeat (first | exact trivial | refine And.intro rfl ?_), ?_⟩;(conv=>whnf);refine ⟨?_, trivial⟩;(conv=>whnf);obtain ⟨y7, h8, H⟩ := obnd_some H;refine ICalls.goW (c384 h8) (.cons (.vt _ _ _) (.cons (.refl _) .nil)) ?_;(conv=>whnf);refine ⟨by repeat (first | exact trivial | refine And.intro rfl ?_), ?_⟩;(conv=>whnf);refine pw_ret ?_;(conv=>whnf);cases H; rfl

/-- guidevane/dam.within -/
noncomputable def f65  (a0 : Int) (a1 : Int) (a2 : Int) : Option Bool :=
 obnd (
 oite ((ile a1 a0)) (
 some (ile a0 a2)
 ) (
 some false)
 ) fun (r1 : Bool) =>
 some r1
set_option maxHeartbeats 1000000 in
theorem c65  {a0 : Int} {a1 : Int} {a2 : Int} {x : Bool} (H : f65 a0 a1 a2 = some x) : ICalls E 65 [(.int .i64 a0), (.int .i64 a1), (.int .i64 a2)] AHeap.none fun v _ => v = (.bool x) := by
  refine icalls_fn (pfnw ?_); unfold f65 at H;(conv=>whnf);refine pwa ?_;(conv=>whnf);refine pw_so ?_;refine po_ops 4 ?_;(conv=>whnf);obtain ⟨r1, h2, H⟩ := obnd_some H;refine po_seg (τ := Bool) 4 (fun e => ⟨[(14, (.bool e))], ⟨0, [], false⟩⟩) r1 ?_ ?_
  · refine po_all ?_;(conv=>whnf);refine pbr_oite h2 (fun g3 h2 => ?_) (fun g3 h2 => ?_)
    · (conv=>whnf);(iterate 3 refine pbr_t g3 ?_;(conv=>whnf));cases h2;exact ⟨(.cons rfl .nil), rfl⟩
    · (conv=>whnf);(iterate 3 refine pbr_f g3 ?_;(conv=>whnf));cases h2;exact ⟨(.cons rfl .nil), rfl⟩
  · refine po_all ?_;(conv=>whnf);refine pw_ret ?_;(conv=>whnf);cases H; rfl

/-- guidevane/dam.isSized -/
noncomputable def f78  (a0 : Int) (a1 : Int) : Option Bool :=
 obnd (f65 a0 (IntKind.i64.wrap (0 - a1)) a1) fun (y1 : Bool) =>
 some y1
set_option maxHeartbeats 1000000 in
theorem c78  {a0 : Int} {a1 : Int} {x : Bool} (H : f78 a0 a1 = some x) : ICalls E 78 [(.int .i64 a0), (.int .i64 a1)] AHeap.none fun v _ => v = (.bool x) := by
  refine icalls_fn (pfnw ?_); unfold f78 at H;(conv=>whnf);refine pwa ?_;(conv=>whnf);refine pwa ?_;(conv=>whnf);obtain ⟨y1, h2, H⟩ := obnd_some H;refine (c65 h2).go ?_;(conv=>whnf);refine pw_ret ?_;(conv=>whnf);cases H; rfl

/-- guidevane/dam.unless -/
noncomputable def f64  (a0 : Bool) (a1 : Int) : Option Int :=
 oite a0 (
 some (0 : Int)
 ) (
 some a1)
set_option maxHeartbeats 1000000 in
theorem c64  {a0 : Bool} {a1 : Int} {x : Int} (H : f64 a0 a1 = some x) : ICalls E 64 [(.bool a0), (.int .i64 a1)] AHeap.none fun v _ => v = (.int .i64 x) := by
  refine icalls_fn (pfnw ?_); unfold f64 at H;(conv=>whnf);refine pwa ?_;(conv=>whnf);refine pw_seq ?_;refine pwa ?_;(conv=>whnf);refine pw_cond ?_;(conv=>whnf);refine pbr_oite H (fun g1 H => ?_) (fun g1 H => ?_)
  · (conv=>whnf);refine pwa ?_;(conv=>whnf);refine pw_ret ?_;(conv=>whnf);cases H; rfl
  · (conv=>whnf);refine pw_skip ?_;(conv=>whnf);refine pwa ?_;(conv=>whnf);refine pw_ret ?_;(conv=>whnf);cases H; rfl

/-- guidevane/dam.CheckReading -/
noncomputable def f33  (a0 : Int) (a1 : Int) (a2 : Int) : Option Int :=
 obnd (f65 a0 (0 : Int) (36000 : Int)) fun (y1 : Bool) =>
 obnd (
 oite y1 (
 obnd (f78 a1 (50 : Int)) fun (y6 : Bool) =>
 some y6
 ) (
 some false)
 ) fun (r3 : Bool) =>
 obnd (
 oite r3 (
 obnd (f78 a2 (2000 : Int)) fun (y11 : Bool) =>
 some y11
 ) (
 some false)
 ) fun (r8 : Bool) =>
 obnd (f64 r8 (2 : Int)) fun (y13 : Int) =>
 some y13
set_option maxHeartbeats 1000000 in
theorem c33  {a0 : Int} {a1 : Int} {a2 : Int} {x : Int} (H : f33 a0 a1 a2 = some x) : ICalls E 33 [(.agg ⟨[(.int .i64 a0), (.int .i64 a1), (.int .i64 a2)]⟩)] AHeap.none fun v _ => v = (.int .i64 x) := by
  refine icalls_fn (pfnw ?_); unfold f33 at H;(conv=>whnf);refine pwa ?_;(conv=>whnf);refine pw_so ?_;refine po_ops 4 ?_;(conv=>whnf);obtain ⟨y1, h2, H⟩ := obnd_some H;refine (c65 h2).go ?_;(conv=>whnf);obtain ⟨r3, h4, H⟩ := obnd_some H;refine po_seg (τ := Bool) 4 (fun e => ⟨[(1, (.pointer (some ⟨0, 0, none⟩))), (10, (.bool e))], ⟨1, [(0, .rw [(.int .i64 a0), (.int .i64 a1), (.int .i64 a2)])], false⟩⟩) r3 ?_ ?_
  · refine po_all ?_;(conv=>whnf);refine pbr_oite h4 (fun g5 h4 => ?_) (fun g5 h4 => ?_)
    · (conv=>whnf);refine pbr_t g5 ?_;(conv=>whnf);refine pbr_t g5 ?_;(conv=>whnf);obtain ⟨y6, h7, h4⟩ := obnd_some h4;refine (c78 h7).go ?_;(conv=>whnf);refine pbr_t g5 ?_;(conv=>whnf);cases h4;exact ⟨(.cons rfl (.cons rfl .nil)), rfl⟩
    · (conv=>whnf);(iterate 3 refine pbr_f g5 ?_;(conv=>whnf));cases h4;exact ⟨(.cons rfl (.cons rfl .nil)), rfl⟩
  · refine po_ops 1 ?_;(conv=>whnf);obtain ⟨r8, h9, H⟩ := obnd_some H;refine po_seg (τ := Bool) 4 (fun e => ⟨[(15, (.bool e))], ⟨1, [(0, .rw [(.int .i64 a0), (.int .i64 a1), (.int .i64 a2)])], false⟩⟩) r8 ?_ ?_
    · refine po_all ?_;(conv=>whnf);refine pbr_oite h9 (fun g10 h9 => ?_) (fun g10 h9 => ?_)
      · (conv=>whnf);refine pbr_t g10 ?_;(conv=>whnf);refine pbr_t g10 ?_;(conv=>whnf);obtain ⟨y11, h12, h9⟩ := obnd_some h9;refine (c78 h12).go ?_;(conv=>whnf);refine pbr_t g10 ?_;(conv=>whnf);cases h9;exact ⟨(.cons rfl .nil), rfl⟩
      · (conv=>whnf);(iterate 3 refine pbr_f g10 ?_;(conv=>whnf));cases h9;exact ⟨(.cons rfl .nil), rfl⟩
    · refine po_all ?_;(conv=>whnf);obtain ⟨y13, h14, H⟩ := obnd_some H;refine (c64 h14).go ?_;(conv=>whnf);refine pw_ret ?_;(conv=>whnf);cases H; rfl

/-- guidevane/dam.ParseReading -/
noncomputable def f373  (a0 : ByteArray) : Option (Int × Int × Int × Int) :=
 obnd (f382 a0 (⟨#[32]⟩ : ByteArray)) fun (y1 : (List ByteArray)) =>
 oite ((!(ieq ((y1.map eS).length : Int) (3 : Int)))) (
 some ((0 : Int), (0 : Int), (0 : Int), (7 : Int))
 ) (
 obndS (
 obnd (y1[(0 : Int).toNat]?) fun (x8 : ByteArray) =>
 obnd (f383 x8 (5 : Int) false) fun (y9 : Int × Bool) =>
 oite (!y9.2) (
 some (.inr (((0 : Int), (0 : Int), (0 : Int), (7 : Int))))
 ) (
 obnd (y1[(1 : Int).toNat]?) fun (x12 : ByteArray) =>
 obnd (f383 x12 (5 : Int) true) fun (y13 : Int × Bool) =>
 oite (!y13.2) (
 some (.inr (((0 : Int), (0 : Int), (0 : Int), (7 : Int))))
 ) (
 obnd (y1[(2 : Int).toNat]?) fun (x16 : ByteArray) =>
 obnd (f383 x16 (5 : Int) true) fun (y17 : Int × Bool) =>
 oite (!y17.2) (
 some (.inr (((0 : Int), (0 : Int), (0 : Int), (7 : Int))))
 ) (
 some (.inl (y9.1, y13.1, y17.1)))))
 ) fun (r20 : Int × Int × Int) =>
 obnd (f33 r20.1 r20.2.1 r20.2.2) fun (y21 : Int) =>
 oite ((!(ieq y21 (0 : Int)))) (
 some ((0 : Int), (0 : Int), (0 : Int), y21)
 ) (
 some (r20.1, r20.2.1, r20.2.2, (0 : Int))))
set_option maxHeartbeats 1000000 in
theorem c373  {a0 : ByteArray} {x : Int × Int × Int × Int} (H : f373 a0 = some x) : ICalls E 373 [(.string a0)] AHeap.none fun v _ => v = (.tuple ⟨[(.agg ⟨[(.int .i64 x.1), (.int .i64 x.2.1), (.int .i64 x.2.2.1)]⟩), (.int .i64 x.2.2.2)]⟩) := by
  refine icalls_fn (pfnw ?_); unfold f373 at H;(conv=>whnf);refine pwa ?_;(conv=>whnf);refine pwa ?_;(conv=>whnf);refine pwa ?_;(conv=>whnf);refine pwa ?_;(conv=>whnf);obtain ⟨y1, h2, H⟩ := obnd_some H;refine (c382 h2).go ?_;(conv=>whnf);refine pw_seq ?_;refine pwa ?_;(conv=>whnf);refine pw_cond ?_;(conv=>whnf);refine pbr_oite H (fun g3 H => ?_) (fun g3 H => ?_)
  · (conv=>whnf);refine pwa ?_;(conv=>whnf);refine pw_ret ?_;(conv=>whnf);cases H; rfl
  · (conv=>whnf);refine pw_skip ?_;(conv=>whnf);obtain ⟨r4, h5, h6, h7⟩ := obndS_some H;refine pw_joinS (ρ := Int × Int × Int) (fun e => ⟨[(2, (.pointer (some ⟨0, 0, none⟩))), (4, (.pointer (some ⟨1, 0, none⟩)))], ⟨3, [(2, .rw [(.pointer (some ⟨1, 0, none⟩)), (.pointer (some ⟨1, 1, none⟩)), (.pointer (some ⟨1, 2, none⟩))]), (1, .rw [(.int .i64 e.1), (.int .i64 e.2.1), (.int .i64 e.2.2)]), (0, .rw [(.int .i64 0), (.int .i64 0), (.int .i64 0)])], false⟩⟩) r4 ?_ ?_
    · refine pwa ?_;(conv=>whnf);refine pw_block ?_;refine pw_unroll 4 ?_;(conv=>whnf);refine pwa ?_;(conv=>whnf);refine pw_seq ?_;refine pw_cond ?_;(conv=>whnf);refine pw_skip ?_;(conv=>whnf);refine pw_seq ?_;refine pw_block ?_;refine pwa ?_;(conv=>whnf);refine pwa ?_;(conv=>whnf);refine nth_o (l := y1) h5 (fun x8 _ h5 => ?_);(conv=>whnf);obtain ⟨y9, h10, h5⟩ := obnd_some h5;refine (c383 h10).go ?_;(conv=>whnf);refine pw_seq ?_;refine pwa ?_;(conv=>whnf);refine pw_cond ?_;(conv=>whnf);refine pbr_oite h5 (fun g11 h5 => ?_) (fun g11 h5 => ?_)
      · (conv=>whnf);refine pwa ?_;(conv=>whnf);refine pw_ret ?_;(conv=>whnf);cases h5;obtain rfl := h7 _ rfl; rfl
      · (conv=>whnf);refine pw_skip ?_;(conv=>whnf);refine pw_ops ?_;refine po_all ?_;(conv=>whnf);refine pw_ops ?_;refine po_all ?_;(conv=>whnf);refine ⟨_, .refl, nl rfl, ?_⟩;(conv=>whnf);refine pwa ?_;(conv=>whnf);refine pw_seq ?_;refine pw_cond ?_;(conv=>whnf);refine pw_skip ?_;(conv=>whnf);refine pw_seq ?_;refine pw_block ?_;refine pwa ?_;(conv=>whnf);refine pwa ?_;(conv=>whnf);refine nth_o (l := y1) h5 (fun x12 _ h5 => ?_);(conv=>whnf);obtain ⟨y13, h14, h5⟩ := obnd_some h5;refine (c383 h14).go ?_;(conv=>whnf);refine pw_seq ?_;refine pw_so ?_
        refine po_all ?_;(conv=>whnf);refine pw_cond ?_;(conv=>whnf);refine pbr_oite h5 (fun g15 h5 => ?_) (fun g15 h5 => ?_)
        · (conv=>whnf);refine pwa ?_;(conv=>whnf);refine pw_ret ?_;(conv=>whnf);cases h5;obtain rfl := h7 _ rfl; rfl
        · (conv=>whnf);refine pw_skip ?_;(conv=>whnf);refine pw_ops ?_;refine po_all ?_;(conv=>whnf);refine pw_ops ?_;refine po_all ?_;(conv=>whnf);refine ⟨_, .refl, nl rfl, ?_⟩;(conv=>whnf);refine pwa ?_;(conv=>whnf);refine pw_seq ?_;refine pw_cond ?_;(conv=>whnf);refine pw_skip ?_;(conv=>whnf);refine pw_seq ?_;refine pw_block ?_;refine pwa ?_;(conv=>whnf);refine pwa ?_;(conv=>whnf);refine nth_o (l := y1) h5 (fun x16 _ h5 => ?_);(conv=>whnf);obtain ⟨y17, h18, h5⟩ := obnd_some h5;refine (c383 h18).go ?_;(conv=>whnf);refine pw_seq ?_;refine pw_so ?_
          refine po_all ?_;(conv=>whnf);refine pw_cond ?_;(conv=>whnf);refine pbr_oite h5 (fun g19 h5 => ?_) (fun g19 h5 => ?_)
          · (conv=>whnf);refine pwa ?_;(conv=>whnf);refine pw_ret ?_;(conv=>whnf);cases h5;obtain rfl := h7 _ rfl; rfl
          · (conv=>whnf);refine pw_skip ?_;(conv=>whnf);refine pw_ops ?_;refine po_all ?_;(conv=>whnf);refine pw_ops ?_;refine po_all ?_;(conv=>whnf);refine ⟨_, .refl, nl rfl, ?_⟩;(conv=>whnf);refine pwa ?_;(conv=>whnf);refine pw_seq ?_;refine pw_cond ?_;(conv=>whnf);refine pw_exit ?_;(conv=>whnf);cases h5;exact ⟨_, rfl, ⟨(.cons rfl (.cons rfl .nil)), rfl⟩⟩
    · intro r20 hr; have H := h6 _ hr;refine pw_seq ?_;refine pwa ?_;(conv=>whnf);obtain ⟨y21, h22, H⟩ := obnd_some H;refine (c33 h22).go ?_;(conv=>whnf);refine pwa ?_;(conv=>whnf);refine pw_cond ?_;(conv=>whnf);refine pbr_oite H (fun g23 H => ?_) (fun g23 H => ?_)
      · (conv=>whnf);refine pwa ?_;(conv=>whnf);refine pw_ret ?_;(conv=>whnf);cases H; rfl
      · (conv=>whnf);refine pw_skip ?_;(conv=>whnf);refine pwa ?_;(conv=>whnf);refine pw_ret ?_;(conv=>whnf);cases H; rfl

/-- guidevane/guidevaneref09.CopyReadings -/
noncomputable def f53  (a0 : List (Int × Int × Int)) : Option ((List (Int × Int × Int))) :=
 ogrd (fits 24 (([] : List (Int × Int × Int)).length + a0.length)) (
 some (([] : List (Int × Int × Int)) ++ a0))
set_option maxHeartbeats 1000000 in
theorem c53  {a0 : List (Int × Int × Int)} {x : (List (Int × Int × Int))} (H : f53 a0 = some x) : ICalls E 53 [(VS 3 (a0.map e_III))] AHeap.none fun v _ => v = (VS 3 (x.map e_III)) := by
  refine ICalls.frz ?_;refine icalls_fn (pfnw ?_); unfold f53 at H;(conv=>whnf);refine pwa ?_;(conv=>whnf);refine pwa ?_;(conv=>whnf);refine app_o (l := ([] : List (Int × Int × Int))) (m := a0) (f := e_III) H (by rfl) (by rfl) (by rfl) (fun H => ?_);(conv=>whnf);refine pw_ret ?_;(conv=>whnf);cases H; show ∃ D, Fz _ D 0 (VT 3 _ 0) _;exact ⟨fun _ => false, .vtc⟩

/-- guidevane/dam.first -/
noncomputable def f63 [LO]  (a0 : List Int) : Option Int :=
 obndS (
 oloop (τ := Int) (ρ := (Unit) ⊕ Int) (fun e5 =>
 oite ((ilt e5 ((a0.map eI).length : Int))) (
 ogrd ((ile 0 e5)) (
 obnd (a0[e5.toNat]?) fun (x10 : Int) =>
 oite ((!(ieq x10 (0 : Int)))) (
 some (.inr (.inr (x10)))
 ) (
 some (.inl (IntKind.i64.wrap (e5 + (1 : Int))))))
 ) (
 some (.inr (.inl ())))
 ) (0 : Int)
 ) fun (_ : Unit) =>
 some (0 : Int)
set_option maxHeartbeats 1000000 in
theorem c63 [LO]  {a0 : List Int} {x : Int} (H : f63 a0 = some x) : ICalls E 63 [(VS 1 (a0.map eI))] AHeap.none fun v _ => v = (.int .i64 x) := by
  refine icalls_fn (pfnw ?_); unfold f63 at H;(conv=>whnf);refine pwa ?_;(conv=>whnf);obtain ⟨r1, h2, h3, h4⟩ := obndS_some H;refine pw_joinS (ρ := Unit) (fun e => ⟨[], ⟨0, [], false⟩⟩) r1 ?_ ?_
  · refine pwa ?_;(conv=>whnf);refine pw_block ?_;refine pw_loop (τ := Int) (fun e => ⟨[(5, (VS 1 (a0.map eI))), (6, (.int .i64 ((a0.map eI).length : Int))), (7, (.int .i64 e))], ⟨0, [], false⟩⟩) h2 ?_ (fun _ => nl rfl) ?_
    · exact .sub' (nl rfl) (.cons rfl (.cons rfl (.cons rfl .nil)))
    · intro e5 x6 h7;refine pwa ?_;(conv=>whnf);refine pw_seq ?_;refine pw_cond ?_;(conv=>whnf);refine pbr_oite h7 (fun g8 h7 => ?_) (fun g8 h7 => ?_)
      · (conv=>whnf);refine pw_skip ?_;(conv=>whnf);refine pw_seq ?_;refine pw_block ?_;refine pwa ?_;(conv=>whnf);refine pbr_ogrd h7 (fun g9 h7 => ?_);(conv=>whnf);refine nth_o (l := a0) h7 (fun x10 _ h7 => ?_);(conv=>whnf);refine pwa ?_;(conv=>whnf);refine pw_cond ?_;(conv=>whnf);refine pbr_oite h7 (fun g11 h7 => ?_) (fun g11 h7 => ?_)
        · (conv=>whnf);refine pwa ?_;(conv=>whnf);refine pw_ret ?_;(conv=>whnf);cases h7;refine ⟨_, rfl, ?_⟩; rintro rfl;(conv=>whnf);obtain rfl := h4 _ rfl; rfl
        · (conv=>whnf);refine pw_skip ?_;(conv=>whnf);refine pw_ops ?_;refine po_all ?_;(conv=>whnf);cases h7;refine ⟨_, rfl, ?_⟩;exact .sub' (nl rfl) (.cons rfl (.cons rfl (.cons rfl .nil)))
      · (conv=>whnf);refine pw_exit ?_;(conv=>whnf);cases h7;refine ⟨_, rfl, ?_⟩; rintro rfl;(conv=>whnf);exact ⟨_, rfl, ⟨.nil, rfl⟩⟩
  · intro r14 hr; have H := h3 _ hr;refine pwa ?_;(conv=>whnf);refine pw_ret ?_;(conv=>whnf);cases H; rfl

/-- guidevane/dam.readingsErr -/
noncomputable def f93 [LO]  (a0 : List (Int × Int × Int)) : Option Int :=
 obnd (f64 ((ilt (0 : Int) ((a0.map e_III).length : Int))) (10 : Int)) fun (y1 : Int) =>
 obnd (f64 ((ile ((a0.map e_III).length : Int) (12 : Int))) (8 : Int)) fun (y3 : Int) =>
 obnd (f63 ([y1, y3] : List Int)) fun (y5 : Int) =>
 obnd (
 oloop (τ := Int × Int) (ρ := Int) (fun e11 =>
 oite ((ilt e11.2 ((a0.map e_III).length : Int))) (
 oite ((ieq e11.1 (0 : Int))) (
 ogrd ((ile 0 e11.2)) (
 obnd (a0[e11.2.toNat]?) fun (x17 : Int × Int × Int) =>
 obnd (f33 x17.1 x17.2.1 x17.2.2) fun (y18 : Int) =>
 some (.inl (y18, (IntKind.i64.wrap (e11.2 + (1 : Int))))))
 ) (
 some (.inr (e11.1)))
 ) (
 some (.inr (e11.1)))
 ) (y5, (0 : Int))
 ) fun (r7 : Int) =>
 some r7
set_option maxHeartbeats 1000000 in
theorem c93 [LO]  {a0 : List (Int × Int × Int)} {x : Int} (H : f93 a0 = some x) : ICalls E 93 [(VS 3 (a0.map e_III))] AHeap.none fun v _ => v = (.int .i64 x) := by
  refine icalls_fn (pfnw ?_); unfold f93 at H;(conv=>whnf);refine pwa ?_;(conv=>whnf);refine pwa ?_;(conv=>whnf);obtain ⟨y1, h2, H⟩ := obnd_some H;refine (c64 h2).go ?_;(conv=>whnf);obtain ⟨y3, h4, H⟩ := obnd_some H;refine (c64 h4).go ?_;(conv=>whnf);obtain ⟨y5, h6, H⟩ := obnd_some H;refine ICalls.goW (c63 h6) (.cons (.vt _ _ _) .nil) ?_;(conv=>whnf);obtain ⟨r7, h8, H⟩ := obnd_some H;refine pw_join (ρ := Int) (fun e => ⟨[(3, (.int .i64 e))], ⟨1, [(0, .tail 2 1)], false⟩⟩) r7 ?_ ?_
  · refine pwa ?_;(conv=>whnf);refine pw_block ?_;refine pw_loop (τ := Int × Int) (fun e => ⟨[(0, (VS 3 (a0.map e_III))), (3, (.int .i64 e.1)), (4, (.int .i64 e.2))], ⟨1, [(0, .tail 2 1)], false⟩⟩) h8 ?_ (fun _ => nl rfl) ?_
    · exact .sub' (nl rfl) (.cons rfl (.cons rfl (.cons rfl .nil)))
    · intro e11 x12 h13;refine pw_seq ?_;refine pwa ?_;(conv=>whnf);refine pbr_oite h13 (fun g14 h13 => ?_) (fun g14 h13 => ?_)
      · (conv=>whnf);refine pbr_t g14 ?_;(conv=>whnf);refine pbr_t g14 ?_;(conv=>whnf);refine pw_cond ?_;(conv=>whnf);refine pbr_oite h13 (fun g15 h13 => ?_) (fun g15 h13 => ?_)
        · (conv=>whnf);refine pw_skip ?_;(conv=>whnf);refine pw_seq ?_;refine pw_block ?_;refine pw_ops ?_;refine po_all ?_;(conv=>whnf);refine pbr_ogrd h13 (fun g16 h13 => ?_);(conv=>whnf);refine nth_o (l := a0) h13 (fun x17 _ h13 => ?_);(conv=>whnf);obtain ⟨y18, h19, h13⟩ := obnd_some h13;refine (c33 h19).go ?_;(conv=>whnf);refine pw_ops ?_;refine po_all ?_;(conv=>whnf);cases h13;refine ⟨_, rfl, ?_⟩;exact .sub' (nl rfl) (.cons rfl (.cons rfl (.cons rfl .nil)))
        · (conv=>whnf);refine pw_exit ?_;(conv=>whnf);cases h13;refine ⟨_, rfl, ?_⟩; rintro rfl;(conv=>whnf);exact ⟨(.cons rfl .nil), rfl⟩
      · (conv=>whnf);refine pbr_f g14 ?_;(conv=>whnf);refine pbr_f g14 ?_;(conv=>whnf);refine pw_cond ?_;(conv=>whnf);refine pw_exit ?_;(conv=>whnf);cases h13;refine ⟨_, rfl, ?_⟩; rintro rfl;(conv=>whnf);exact ⟨(.cons rfl .nil), rfl⟩
  · refine pwa ?_;(conv=>whnf);refine pw_ret ?_;(conv=>whnf);cases H; rfl

/-- (guidevane/dam.model).err -/
noncomputable def f94  (a0 : Int) : Option Int :=
 obnd (f65 a0 (1 : Int) (31 : Int)) fun (y1 : Bool) =>
 obnd (f64 y1 (2 : Int)) fun (y3 : Int) =>
 some y3
set_option maxHeartbeats 1000000 in
theorem c94  {a0 : Int} {x : Int} (H : f94 a0 = some x) : ICalls E 94 [(.int .i64 a0)] AHeap.none fun v _ => v = (.int .i64 x) := by
  refine icalls_fn (pfnw ?_); unfold f94 at H;(conv=>whnf);refine pwa ?_;(conv=>whnf);refine pwa ?_;(conv=>whnf);obtain ⟨y1, h2, H⟩ := obnd_some H;refine (c65 h2).go ?_;(conv=>whnf);obtain ⟨y3, h4, H⟩ := obnd_some H;refine (c64 h4).go ?_;(conv=>whnf);refine pw_ret ?_;(conv=>whnf);cases H; rfl

/-- (guidevane/dam.model).has -/
noncomputable def f114  (a0 : Int) (a1 : Int) : Option Bool :=
 ogrd (!((ilt a1 0))) (
 some (ieq (IntKind.i64.wrap (BitVec.ofInt (IntKind.bits .i64) (a0.fdiv (2 ^ (min a1.toNat (IntKind.bits .i64)))) &&& BitVec.ofInt (IntKind.bits .i64) (1 : Int)).toNat) (1 : Int)))
set_option maxHeartbeats 1000000 in
theorem c114  {a0 : Int} {a1 : Int} {x : Bool} (H : f114 a0 a1 = some x) : ICalls E 114 [(.int .i64 a0), (.int .i64 a1)] AHeap.none fun v _ => v = (.bool x) := by
  refine icalls_fn (pfnw ?_); unfold f114 at H;(conv=>whnf);refine pwa ?_;(conv=>whnf);refine pwa ?_;(conv=>whnf);refine pbr_ogrdn H (fun g1 H => ?_);(conv=>whnf);refine pw_ret ?_;(conv=>whnf);cases H; rfl

/-- (guidevane/dam.model).chosen -/
noncomputable def f95 [LO]  (a0 : Int) : Option ((List Int)) :=
 obnd (
 oloop (τ := (List Int) × Int) (ρ := (List Int)) (fun e5 =>
 oite ((ilt e5.2 (5 : Int))) (
 obnd (f114 a0 e5.2) fun (y9 : Bool) =>
 oite y9 (
 ogrd (fits 8 (e5.1.length + ([e5.2] : List Int).length)) (
 some (.inl (((e5.1 ++ ([e5.2] : List Int)), (IntKind.i64.wrap (e5.2 + (1 : Int)))))))
 ) (
 some (.inl (e5.1, (IntKind.i64.wrap (e5.2 + (1 : Int))))))
 ) (
 some (.inr (e5.1)))
 ) ((([] : List Int), (0 : Int)))
 ) fun (r1 : (List Int)) =>
 some r1
set_option maxHeartbeats 1000000 in
theorem c95 [LO]  {a0 : Int} {x : (List Int)} (H : f95 a0 = some x) : ICalls E 95 [(.int .i64 a0)] AHeap.none fun v _ => v = (VS 1 (x.map eI)) := by
  refine ICalls.frz ?_;refine icalls_fn (pfnw ?_); unfold f95 at H;(conv=>whnf);refine pwa ?_;(conv=>whnf);refine pwa ?_;(conv=>whnf);obtain ⟨r1, h2, H⟩ := obnd_some H;refine pw_join (ρ := (List Int)) (fun e => ⟨[(3, (VT 1 (e.map eI) 0))], ⟨1, [(0, .tail (e.map eI).length 1)], false⟩⟩) r1 ?_ ?_
  · refine pwa ?_;(conv=>whnf);refine pw_block ?_;refine pw_loop (τ := (List Int) × Int) (fun e => ⟨[(0, (.int .i64 a0)), (3, (VT 1 (e.1.map eI) 0)), (5, (.int .i64 e.2))], ⟨1, [(0, .tail (e.1.map eI).length 1)], false⟩⟩) h2 ?_ (fun _ => nl rfl) ?_
    · exact (Recast.nilTs 1 (nl rfl) (.same rfl (.turn rfl (.same rfl .nil))))
    · intro e5 x6 h7;refine pwa ?_;(conv=>whnf);refine pw_seq ?_;refine pw_cond ?_;(conv=>whnf);refine pbr_oite h7 (fun g8 h7 => ?_) (fun g8 h7 => ?_)
      · (conv=>whnf);refine pw_skip ?_;(conv=>whnf);refine pw_seq ?_;refine pw_block ?_;refine pwa ?_;(conv=>whnf);refine pwa ?_;(conv=>whnf);obtain ⟨y9, h10, h7⟩ := obnd_some h7;refine (c114 h10).go ?_;(conv=>whnf);refine pw_cond ?_;(conv=>whnf);refine pbr_oite h7 (fun g11 h7 => ?_) (fun g11 h7 => ?_)
        · (conv=>whnf);refine pw_ops ?_;refine po_all ?_;(conv=>whnf);refine app_o (l := e5.1) (m := ([e5.2] : List Int)) (f := eI) h7 (by rfl) (by rfl) (by rfl) (fun h7 => ?_);(conv=>whnf);refine pw_ops ?_;refine po_all ?_;(conv=>whnf);cases h7;refine ⟨_, rfl, ?_⟩;refine Recast.trunc (nl rfl) ?_ ?_
          · repeat (first | exact .nil | refine .cons rfl (by first | exact OBnd.rwc (nl rfl) rfl | exact OBnd.tail (nl rfl) | trivial) ?_)
          · repeat (first | exact .nil | refine .cons rfl (by first | exact Bnd.ptr (nl rfl) | exact Bnd.vt (nl rfl) | exact Bnd.cl) ?_)
        · (conv=>whnf);refine pw_skip ?_;(conv=>whnf);refine pw_ops ?_;refine po_all ?_;(conv=>whnf);cases h7;refine ⟨_, rfl, ?_⟩;exact .sub' (nl rfl) (.cons rfl (.cons rfl (.cons rfl .nil)))
      · (conv=>whnf);refine pw_exit ?_;(conv=>whnf);cases h7;refine ⟨_, rfl, ?_⟩; rintro rfl;(conv=>whnf);exact ⟨(.cons rfl .nil), rfl⟩
  · refine pwa ?_;(conv=>whnf);refine pw_ret ?_;(conv=>whnf);cases H; show ∃ D, Fz _ D 0 (VT 1 _ 0) _;exact ⟨fun _ => false, .vtc⟩

/-- guidevane/dam.terms -/
noncomputable def f77  (a0 : Int) (a1 : Int) (_ : Int) : Option (Int × Int × Int × Int × Int) :=
 ogrd ((ile 0 (IntKind.i64.wrap ((IntKind.i64.wrap ((a0.tmod (360 : Int)) * (4 : Int))).tdiv (360 : Int))))) (
 ogrd ((ilt (IntKind.i64.wrap ((IntKind.i64.wrap ((a0.tmod (360 : Int)) * (4 : Int))).tdiv (360 : Int))) 4)) (
 obnd (([((1 : Int), (0 : Int)), ((0 : Int), (1 : Int)), ((-1 : Int), (0 : Int)), ((0 : Int), (-1 : Int))] : List (Int × Int))[(IntKind.i64.wrap ((IntKind.i64.wrap ((a0.tmod (360 : Int)) * (4 : Int))).tdiv (360 : Int))).toNat]?) fun (x3 : Int × Int) =>
 some ((1 : Int), a1, x3.1, x3.2, (IntKind.i64.wrap (a0.tdiv (360 : Int))))))
set_option maxHeartbeats 1000000 in
theorem c77  {a0 : Int} {a1 : Int} {a2 : Int} {x : Int × Int × Int × Int × Int} (H : f77 a0 a1 a2 = some x) : ICalls E 77 [(.agg ⟨[(.int .i64 a0), (.int .i64 a1), (.int .i64 a2)]⟩)] AHeap.none fun v _ => v = (.agg ⟨[(.int .i64 x.1), (.int .i64 x.2.1), (.int .i64 x.2.2.1), (.int .i64 x.2.2.2.1), (.int .i64 x.2.2.2.2)]⟩) := by
  refine icalls_fn (pfnw ?_); unfold f77 at H;(conv=>whnf);refine pwa ?_;(conv=>whnf);refine pwa ?_;(conv=>whnf);refine pbr_ogrd H (fun g1 H => ?_);(conv=>whnf);refine pbr_ogrd H (fun g2 H => ?_);(conv=>whnf);refine agg_o (l := ([((1 : Int), (0 : Int)), ((0 : Int), (1 : Int)), ((-1 : Int), (0 : Int)), ((0 : Int), (-1 : Int))] : List (Int × Int))) (f := (fun x => [(.int .i64 x.1), (.int .i64 x.2)])) H rfl (fun _ => rfl) (fun x3 _ H => ?_);(conv=>whnf);refine pwa ?_;(conv=>whnf);refine pw_ret ?_;(conv=>whnf);cases H; rfl

/-- guidevane/dam.size -/
noncomputable def f100  (a0 : Int) : Option Int :=
 some (imax a0 (IntKind.i64.wrap (0 - a0)))
set_option maxHeartbeats 1000000 in
theorem c100  {a0 : Int} {x : Int} (H : f100 a0 = some x) : ICalls E 100 [(.int .i64 a0)] AHeap.none fun v _ => v = (.int .i64 x) := by
  refine icalls_fn (pfnw ?_); unfold f100 at H;(conv=>whnf);refine pwa ?_;(conv=>whnf);refine pwa ?_;(conv=>whnf);refine pw_ret ?_;(conv=>whnf);cases H; rfl

/-- guidevane/dam.divisor -/
noncomputable def f97 [LO]  (a0 : Int) (a1 : Int) (a2 : Int) (a3 : Int) (a4 : Int) (a5 : Int) : Option Int :=
 obnd (
 obnd (
 oloop (τ := Int × Int) (ρ := Int) (fun e9 =>
 oite ((!(ieq e9.2 (0 : Int)))) (
 ogrd (!((ieq e9.2 0))) (
 some (.inl (e9.2, (e9.1.tmod e9.2))))
 ) (
 some (.inr (e9.1)))
 ) (a0, a1)
 ) fun (r5 : Int) =>
 obnd (
 oloop (τ := Int × Int) (ρ := Int) (fun e19 =>
 oite ((!(ieq e19.2 (0 : Int)))) (
 ogrd (!((ieq e19.2 0))) (
 some (.inl (e19.2, (e19.1.tmod e19.2))))
 ) (
 some (.inr (e19.1)))
 ) (r5, a2)
 ) fun (r15 : Int) =>
 obnd (
 oloop (τ := Int × Int) (ρ := Int) (fun e29 =>
 oite ((!(ieq e29.2 (0 : Int)))) (
 ogrd (!((ieq e29.2 0))) (
 some (.inl (e29.2, (e29.1.tmod e29.2))))
 ) (
 some (.inr (e29.1)))
 ) (r15, a3)
 ) fun (r25 : Int) =>
 obnd (
 oloop (τ := Int × Int) (ρ := Int) (fun e39 =>
 oite ((!(ieq e39.2 (0 : Int)))) (
 ogrd (!((ieq e39.2 0))) (
 some (.inl (e39.2, (e39.1.tmod e39.2))))
 ) (
 some (.inr (e39.1)))
 ) (r25, a4)
 ) fun (r35 : Int) =>
 obnd (
 oloop (τ := Int × Int) (ρ := Int) (fun e49 =>
 oite ((!(ieq e49.2 (0 : Int)))) (
 ogrd (!((ieq e49.2 0))) (
 some (.inl (e49.2, (e49.1.tmod e49.2))))
 ) (
 some (.inr (e49.1)))
 ) (r35, a5)
 ) fun (r45 : Int) =>
 some r45
 ) fun (r1 : Int) =>
 obnd (f100 r1) fun (y55 : Int) =>
 some y55
set_option maxHeartbeats 1000000 in
theorem c97 [LO]  {a0 : Int} {a1 : Int} {a2 : Int} {a3 : Int} {a4 : Int} {a5 : Int} {x : Int} (H : f97 a0 a1 a2 a3 a4 a5 = some x) : ICalls E 97 [(.agg ⟨[(.int .i64 a0), (.int .i64 a1), (.int .i64 a2), (.int .i64 a3), (.int .i64 a4), (.int .i64 a5)]⟩)] AHeap.none fun v _ => v = (.int .i64 x) := by
  refine icalls_fn (pfnw ?_); unfold f97 at H;(conv=>whnf);refine pwa ?_;(conv=>whnf);refine pwa ?_;(conv=>whnf);obtain ⟨r1, h2, H⟩ := obnd_some H;refine pw_join (ρ := Int) (fun e => ⟨[(3, (.int .i64 e))], ⟨1, [(0, .rw [(.int .i64 a0), (.int .i64 a1), (.int .i64 a2), (.int .i64 a3), (.int .i64 a4), (.int .i64 a5)])], false⟩⟩) r1 ?_ ?_
  · refine pwa ?_;(conv=>whnf);refine pw_block ?_;refine pw_unroll 6 ?_;(conv=>whnf);refine pwa ?_;(conv=>whnf);refine pw_seq ?_;refine pw_cond ?_;(conv=>whnf);refine pw_skip ?_;(conv=>whnf);obtain ⟨r5, h6, h2⟩ := obnd_some h2;refine pw_join (ρ := Int) (fun e => ⟨[(3, (.int .i64 e)), (9, (.agg ⟨[(.int .i64 a1), (.int .i64 a2), (.int .i64 a3), (.int .i64 a4), (.int .i64 a5)]⟩)), (10, (.int .i64 0))], ⟨1, [(0, .rw [(.int .i64 a0), (.int .i64 a1), (.int .i64 a2), (.int .i64 a3), (.int .i64 a4), (.int .i64 a5)])], false⟩⟩) r5 ?_ ?_
    · refine pw_block ?_;refine pwa ?_;(conv=>whnf);refine pw_block ?_;refine pw_loop (τ := Int × Int) (fun e => ⟨[(3, (.int .i64 e.1)), (5, (.int .i64 e.2)), (9, (.agg ⟨[(.int .i64 a1), (.int .i64 a2), (.int .i64 a3), (.int .i64 a4), (.int .i64 a5)]⟩)), (10, (.int .i64 0))], ⟨1, [(0, .rw [(.int .i64 a0), (.int .i64 a1), (.int .i64 a2), (.int .i64 a3), (.int .i64 a4), (.int .i64 a5)])], false⟩⟩) h6 ?_ (fun _ => nl rfl) ?_
      · exact .sub' (nl rfl) (.cons rfl (.cons rfl (.cons rfl (.cons rfl .nil))))
      · intro e9 x10 h11;refine pw_seq ?_;refine pwa ?_;(conv=>whnf);refine pw_cond ?_;(conv=>whnf);refine pbr_oite h11 (fun g12 h11 => ?_) (fun g12 h11 => ?_)
        · (conv=>whnf);refine pw_skip ?_;(conv=>whnf);refine pw_block ?_;refine pw_draw ?_;(conv=>whnf);refine pbr_ogrdn h11 (fun g13 h11 => ?_);(conv=>whnf);refine ⟨?_, trivial⟩;(conv=>whnf);refine ⟨by repeat (first | exact trivial | refine And.intro rfl ?_), ?_⟩;(conv=>whnf);refine ⟨?_, trivial⟩;(conv=>whnf);refine ⟨by repeat (first | exact trivial | refine And.intro rfl ?_), ?_⟩;(conv=>whnf);cases h11;refine ⟨_, rfl, ?_⟩;exact .sub' (nl rfl) (.cons rfl (.cons rfl (.cons rfl (.cons rfl .nil))))
        · (conv=>whnf);refine pw_exit ?_;(conv=>whnf);cases h11;refine ⟨_, rfl, ?_⟩; rintro rfl;(conv=>whnf);exact ⟨(.cons rfl (.cons rfl (.cons rfl .nil))), rfl⟩
    · refine pw_ops ?_;refine po_all ?_;(conv=>whnf);refine ⟨_, .refl, nl rfl, ?_⟩;(conv=>whnf);refine pwa ?_;(conv=>whnf);refine pw_seq ?_;refine pw_cond ?_;(conv=>whnf);refine pw_skip ?_;(conv=>whnf);obtain ⟨r15, h16, h2⟩ := obnd_some h2;refine pw_join (ρ := Int) (fun e => ⟨[(3, (.int .i64 e)), (9, (.agg ⟨[(.int .i64 a1), (.int .i64 a2), (.int .i64 a3), (.int .i64 a4), (.int .i64 a5)]⟩)), (10, (.int .i64 1))], ⟨1, [(0, .rw [(.int .i64 a0), (.int .i64 a1), (.int .i64 a2), (.int .i64 a3), (.int .i64 a4), (.int .i64 a5)])], false⟩⟩) r15 ?_ ?_
      · refine pw_block ?_;refine pwa ?_;(conv=>whnf);refine pw_block ?_;refine pw_loop (τ := Int × Int) (fun e => ⟨[(3, (.int .i64 e.1)), (5, (.int .i64 e.2)), (9, (.agg ⟨[(.int .i64 a1), (.int .i64 a2), (.int .i64 a3), (.int .i64 a4), (.int .i64 a5)]⟩)), (10, (.int .i64 1))], ⟨1, [(0, .rw [(.int .i64 a0), (.int .i64 a1), (.int .i64 a2), (.int .i64 a3), (.int .i64 a4), (.int .i64 a5)])], false⟩⟩) h16 ?_ (fun _ => nl rfl) ?_
        · exact .sub' (nl rfl) (.cons rfl (.cons rfl (.cons rfl (.cons rfl .nil))))
        · intro e19 x20 h21;refine pw_seq ?_;refine pwa ?_;(conv=>whnf);refine pw_cond ?_;(conv=>whnf);refine pbr_oite h21 (fun g22 h21 => ?_) (fun g22 h21 => ?_)
          · (conv=>whnf);refine pw_skip ?_;(conv=>whnf);refine pw_block ?_;refine pw_draw ?_;(conv=>whnf);refine pbr_ogrdn h21 (fun g23 h21 => ?_);(conv=>whnf);refine ⟨?_, trivial⟩;(conv=>whnf);refine ⟨by repeat (first | exact trivial | refine And.intro rfl ?_), ?_⟩;(conv=>whnf);refine ⟨?_, trivial⟩;(conv=>whnf);refine ⟨by repeat (first | exact trivial | refine And.intro rfl ?_), ?_⟩;(conv=>whnf);cases h21;refine ⟨_, rfl, ?_⟩;exact .sub' (nl rfl) (.cons rfl (.cons rfl (.cons rfl (.cons rfl .nil))))
          · (conv=>whnf);refine pw_exit ?_;(conv=>whnf);cases h21;refine ⟨_, rfl, ?_⟩; rintro rfl;(conv=>whnf);exact ⟨(.cons rfl (.cons rfl (.cons rfl .nil))), rfl⟩
      · refine pw_ops ?_;refine po_all ?_;(conv=>whnf);refine ⟨_, .refl, nl rfl, ?_⟩;(conv=>whnf);refine pwa ?_;(conv=>whnf);refine pw_seq ?_;refine pw_cond ?_;(conv=>whnf);refine pw_skip ?_;(conv=>whnf);obtain ⟨r25, h26, h2⟩ := obnd_some h2;refine pw_join (ρ := Int) (fun e => ⟨[(3, (.int .i64 e)), (9, (.agg ⟨[(.int .i64 a1), (.int .i64 a2), (.int .i64 a3), (.int .i64 a4), (.int .i64 a5)]⟩)), (10, (.int .i64 2))], ⟨1, [(0, .rw [(.int .i64 a0), (.int .i64 a1), (.int .i64 a2), (.int .i64 a3), (.int .i64 a4), (.int .i64 a5)])], false⟩⟩) r25 ?_ ?_
        · refine pw_block ?_;refine pwa ?_;(conv=>whnf);refine pw_block ?_;refine pw_loop (τ := Int × Int) (fun e => ⟨[(3, (.int .i64 e.1)), (5, (.int .i64 e.2)), (9, (.agg ⟨[(.int .i64 a1), (.int .i64 a2), (.int .i64 a3), (.int .i64 a4), (.int .i64 a5)]⟩)), (10, (.int .i64 2))], ⟨1, [(0, .rw [(.int .i64 a0), (.int .i64 a1), (.int .i64 a2), (.int .i64 a3), (.int .i64 a4), (.int .i64 a5)])], false⟩⟩) h26 ?_ (fun _ => nl rfl) ?_
          · exact .sub' (nl rfl) (.cons rfl (.cons rfl (.cons rfl (.cons rfl .nil))))
          · intro e29 x30 h31;refine pw_seq ?_;refine pwa ?_;(conv=>whnf);refine pw_cond ?_;(conv=>whnf);refine pbr_oite h31 (fun g32 h31 => ?_) (fun g32 h31 => ?_)
            · (conv=>whnf);refine pw_skip ?_;(conv=>whnf);refine pw_block ?_;refine pw_draw ?_;(conv=>whnf);refine pbr_ogrdn h31 (fun g33 h31 => ?_);(conv=>whnf);refine ⟨?_, trivial⟩;(conv=>whnf);refine ⟨by repeat (first | exact trivial | refine And.intro rfl ?_), ?_⟩;(conv=>whnf);refine ⟨?_, trivial⟩;(conv=>whnf);refine ⟨by repeat (first | exact trivial | refine And.intro rfl ?_), ?_⟩;(conv=>whnf);cases h31;refine ⟨_, rfl, ?_⟩;exact .sub' (nl rfl) (.cons rfl (.cons rfl (.cons rfl (.cons rfl .nil))))
            · (conv=>whnf);refine pw_exit ?_;(conv=>whnf);cases h31;refine ⟨_, rfl, ?_⟩; rintro rfl;(conv=>whnf);exact ⟨(.cons rfl (.cons rfl (.cons rfl .nil))), rfl⟩
        · refine pw_ops ?_;refine po_all ?_;(conv=>whnf);refine ⟨_, .refl, nl rfl, ?_⟩;(conv=>whnf);refine pwa ?_;(conv=>whnf);refine pw_seq ?_;refine pw_cond ?_;(conv=>whnf);refine pw_skip ?_;(conv=>whnf);obtain ⟨r35, h36, h2⟩ := obnd_some h2;refine pw_join (ρ := Int) (fun e => ⟨[(3, (.int .i64 e)), (9, (.agg ⟨[(.int .i64 a1), (.int .i64 a2), (.int .i64 a3), (.int .i64 a4), (.int .i64 a5)]⟩)), (10, (.int .i64 3))], ⟨1, [(0, .rw [(.int .i64 a0), (.int .i64 a1), (.int .i64 a2), (.int .i64 a3), (.int .i64 a4), (.int .i64 a5)])], false⟩⟩) r35 ?_ ?_
          · refine pw_block ?_;refine pwa ?_;(conv=>whnf);refine pw_block ?_;refine pw_loop (τ := Int × Int) (fun e => ⟨[(3, (.int .i64 e.1)), (5, (.int .i64 e.2)), (9, (.agg ⟨[(.int .i64 a1), (.int .i64 a2), (.int .i64 a3), (.int .i64 a4), (.int .i64 a5)]⟩)), (10, (.int .i64 3))], ⟨1, [(0, .rw [(.int .i64 a0), (.int .i64 a1), (.int .i64 a2), (.int .i64 a3), (.int .i64 a4), (.int .i64 a5)])], false⟩⟩) h36 ?_ (fun _ => nl rfl) ?_
            · exact .sub' (nl rfl) (.cons rfl (.cons rfl (.cons rfl (.cons rfl .nil))))
            · intro e39 x40 h41;refine pw_seq ?_;refine pwa ?_;(conv=>whnf);refine pw_cond ?_;(conv=>whnf);refine pbr_oite h41 (fun g42 h41 => ?_) (fun g42 h41 => ?_)
              · (conv=>whnf);refine pw_skip ?_;(conv=>whnf);refine pw_block ?_;refine pw_draw ?_;(conv=>whnf);refine pbr_ogrdn h41 (fun g43 h41 => ?_);(conv=>whnf);refine ⟨?_, trivial⟩;(conv=>whnf);refine ⟨by repeat (first | exact trivial | refine And.intro rfl ?_), ?_⟩;(conv=>whnf);refine ⟨?_, trivial⟩;(conv=>whnf);refine ⟨by repeat (first | exact trivial | refine And.intro rfl ?_), ?_⟩;(conv=>whnf);cases h41;refine ⟨_, rfl, ?_⟩;exact .sub' (nl rfl) (.cons rfl (.cons rfl (.cons rfl (.cons rfl .nil))))
              · (conv=>whnf);refine pw_exit ?_;(conv=>whnf);cases h41;refine ⟨_, rfl, ?_⟩; rintro rfl;(conv=>whnf);exact ⟨(.cons rfl (.cons rfl (.cons rfl .nil))), rfl⟩
          · refine pw_ops ?_;refine po_all ?_;(conv=>whnf);refine ⟨_, .refl, nl rfl, ?_⟩;(conv=>whnf);refine pwa ?_;(conv=>whnf);refine pw_seq ?_;refine pw_cond ?_;(conv=>whnf);refine pw_skip ?_;(conv=>whnf);obtain ⟨r45, h46, h2⟩ := obnd_some h2;refine pw_join (ρ := Int) (fun e => ⟨[(3, (.int .i64 e)), (9, (.agg ⟨[(.int .i64 a1), (.int .i64 a2), (.int .i64 a3), (.int .i64 a4), (.int .i64 a5)]⟩)), (10, (.int .i64 4))], ⟨1, [(0, .rw [(.int .i64 a0), (.int .i64 a1), (.int .i64 a2), (.int .i64 a3), (.int .i64 a4), (.int .i64 a5)])], false⟩⟩) r45 ?_ ?_
            · refine pw_block ?_;refine pwa ?_;(conv=>whnf);refine pw_block ?_;refine pw_loop (τ := Int × Int) (fun e => ⟨[(3, (.int .i64 e.1)), (5, (.int .i64 e.2)), (9, (.agg ⟨[(.int .i64 a1), (.int .i64 a2), (.int .i64 a3), (.int .i64 a4), (.int .i64 a5)]⟩)), (10, (.int .i64 4))], ⟨1, [(0, .rw [(.int .i64 a0), (.int .i64 a1), (.int .i64 a2), (.int .i64 a3), (.int .i64 a4), (.int .i64 a5)])], false⟩⟩) h46 ?_ (fun _ => nl rfl) ?_
              · exact .sub' (nl rfl) (.cons rfl (.cons rfl (.cons rfl (.cons rfl .nil))))
              · intro e49 x50 h51;refine pw_seq ?_;refine pwa ?_;(conv=>whnf);refine pw_cond ?_;(conv=>whnf);refine pbr_oite h51 (fun g52 h51 => ?_) (fun g52 h51 => ?_)
                · (conv=>whnf);refine pw_skip ?_;(conv=>whnf);refine pw_block ?_;refine pw_draw ?_;(conv=>whnf);refine pbr_ogrdn h51 (fun g53 h51 => ?_);(conv=>whnf);refine ⟨?_, trivial⟩;(conv=>whnf);refine ⟨by repeat (first | exact trivial | refine And.intro rfl ?_), ?_⟩;(conv=>whnf);refine ⟨?_, trivial⟩;(conv=>whnf);refine ⟨by repeat (first | exact trivial | refine And.intro rfl ?_), ?_⟩;(conv=>whnf);cases h51;refine ⟨_, rfl, ?_⟩;exact .sub' (nl rfl) (.cons rfl (.cons rfl (.cons rfl (.cons rfl .nil))))
                · (conv=>whnf);refine pw_exit ?_;(conv=>whnf);cases h51;refine ⟨_, rfl, ?_⟩; rintro rfl;(conv=>whnf);exact ⟨(.cons rfl (.cons rfl (.cons rfl .nil))), rfl⟩
            · refine pw_ops ?_;refine po_all ?_;(conv=>whnf);refine ⟨_, .refl, nl rfl, ?_⟩;(conv=>whnf);refine pwa ?_;(conv=>whnf);refine pw_seq ?_;refine pw_cond ?_;(conv=>whnf);refine pw_exit ?_;(conv=>whnf);cases h2;exact ⟨(.cons rfl .nil), rfl⟩
  · refine pwa ?_;(conv=>whnf);obtain ⟨y55, h56, H⟩ := obnd_some H;refine (c100 h56).go ?_;(conv=>whnf);refine pw_ret ?_;(conv=>whnf);cases H; rfl

/-- slices.IndexFunc[[]int,int] -/
noncomputable def f70 [LO] (p0 : Int → Option Bool) (a0 : List Int) : Option Int :=
 obndS (
 oloop (τ := Int) (ρ := (Unit) ⊕ Int) (fun e5 =>
 oite ((ilt e5 ((a0.map eI).length : Int))) (
 ogrd ((ile 0 e5)) (
 obnd (a0[e5.toNat]?) fun (x10 : Int) =>
 obnd (p0 x10) fun (y11 : Bool) =>
 oite y11 (
 some (.inr (.inr (e5)))
 ) (
 some (.inl (IntKind.i64.wrap (e5 + (1 : Int))))))
 ) (
 some (.inr (.inl ())))
 ) (0 : Int)
 ) fun (_ : Unit) =>
 some (-1 : Int)
set_option maxHeartbeats 1000000 in
theorem c70 [LO] {p0 : Int → Option Bool} {a0 : List Int} {g0 : Value} [Cl g0] (hp0 : ∀ y0 y, p0 y0 = some y → ICallV E g0 [(.int .i64 y0)] AHeap.none fun v _ => v = (.bool y)) {x : Int} (H : f70 p0 a0 = some x) : ICalls E 70 [(VS 1 (a0.map eI)), g0] AHeap.none fun v _ => v = (.int .i64 x) := by
  refine icalls_fn (pfnw ?_); unfold f70 at H;(conv=>whnf);refine pwa ?_;(conv=>whnf);obtain ⟨r1, h2, h3, h4⟩ := obndS_some H;refine pw_joinS (ρ := Unit) (fun e => ⟨[], ⟨0, [], false⟩⟩) r1 ?_ ?_
  · refine pwa ?_;(conv=>whnf);refine pw_block ?_;refine pw_loop (τ := Int) (fun e => ⟨[(0, (VS 1 (a0.map eI))), (1, g0), (7, (.int .i64 ((a0.map eI).length : Int))), (8, (.int .i64 e))], ⟨0, [], false⟩⟩) h2 ?_ (fun _ => nl rfl) ?_
    · exact .sub' (nl rfl) (.cons rfl (.cons rfl (.cons rfl (.cons rfl .nil))))
    · intro e5 x6 h7;refine pwa ?_;(conv=>whnf);refine pw_seq ?_;refine pw_cond ?_;(conv=>whnf);refine pbr_oite h7 (fun g8 h7 => ?_) (fun g8 h7 => ?_)
      · (conv=>whnf);refine pw_skip ?_;(conv=>whnf);refine pw_seq ?_;refine pw_block ?_;refine pwa ?_;(conv=>whnf);refine pwa ?_;(conv=>whnf);refine pbr_ogrd h7 (fun g9 h7 => ?_);(conv=>whnf);refine nth_o (l := a0) h7 (fun x10 _ h7 => ?_);(conv=>whnf);obtain ⟨y11, h12, h7⟩ := obnd_some h7;refine ICallV.go (hp0 _ _ h12) ?_;(conv=>whnf);refine pw_cond ?_;(conv=>whnf);refine pbr_oite h7 (fun g13 h7 => ?_) (fun g13 h7 => ?_)
        · (conv=>whnf);refine pwa ?_;(conv=>whnf);refine pw_ret ?_;(conv=>whnf);cases h7;refine ⟨_, rfl, ?_⟩; rintro rfl;(conv=>whnf);obtain rfl := h4 _ rfl; rfl
        · (conv=>whnf);refine pw_skip ?_;(conv=>whnf);refine pw_ops ?_;refine po_all ?_;(conv=>whnf);cases h7;refine ⟨_, rfl, ?_⟩;exact .sub' (nl rfl) (.cons rfl (.cons rfl (.cons rfl (.cons rfl .nil))))
      · (conv=>whnf);refine pw_exit ?_;(conv=>whnf);cases h7;refine ⟨_, rfl, ?_⟩; rintro rfl;(conv=>whnf);exact ⟨_, rfl, ⟨.nil, rfl⟩⟩
  · intro r16 hr; have H := h3 _ hr;refine pwa ?_;(conv=>whnf);refine pw_ret ?_;(conv=>whnf);cases H; rfl

/-- slices.ContainsFunc[[]int,int] -/
noncomputable def f80 [LO] (p0 : Int → Option Bool) (a0 : List Int) : Option Bool :=
 obnd (f70 p0 a0) fun (y1 : Int) =>
 some (ile (0 : Int) y1)
set_option maxHeartbeats 1000000 in
theorem c80 [LO] {p0 : Int → Option Bool} {a0 : List Int} {g0 : Value} [Cl g0] (hp0 : ∀ y0 y, p0 y0 = some y → ICallV E g0 [(.int .i64 y0)] AHeap.none fun v _ => v = (.bool y)) {x : Bool} (H : f80 p0 a0 = some x) : ICalls E 80 [(VS 1 (a0.map eI)), g0] AHeap.none fun v _ => v = (.bool x) := by
  refine icalls_fn (pfnw ?_); unfold f80 at H;(conv=>whnf);refine pwa ?_;(conv=>whnf);refine pwa ?_;(conv=>whnf);obtain ⟨y1, h2, H⟩ := obnd_some H;refine (c70 hp0 h2).go ?_;(conv=>whnf);refine pw_ret ?_;(conv=>whnf);cases H; rfl

/-- guidevane/dam.fitErr$1 -/
noncomputable def f116  (a0 : Int) : Option Bool :=
 obnd (f78 a0 (1000000000000 : Int)) fun (y1 : Bool) =>
 some (!y1)
set_option maxHeartbeats 1000000 in
theorem c116  {a0 : Int} {x : Bool} (H : f116 a0 = some x) : ICalls E 116 [(.int .i64 a0)] AHeap.none fun v _ => v = (.bool x) := by
  refine icalls_fn (pfnw ?_); unfold f116 at H;(conv=>whnf);refine pwa ?_;(conv=>whnf);refine pwa ?_;(conv=>whnf);obtain ⟨y1, h2, H⟩ := obnd_some H;refine (c78 h2).go ?_;(conv=>whnf);refine pw_ret ?_;(conv=>whnf);cases H; rfl

/-- guidevane/dam.fitErr -/
noncomputable def f98 [LO]  (a0 : Int) (a1 : Int) (a2 : Int) (a3 : Int) (a4 : Int) (a5 : Int) : Option Int :=
 obnd (f80 (fun (z0 : Int) => f116 z0) ([a1, a2, a3, a4, a5] : List Int)) fun (y1 : Bool) =>
 obnd (f65 a0 (1 : Int) (1000000000000 : Int)) fun (y3 : Bool) =>
 obnd (
 oite y3 (
 some (!y1)
 ) (
 some false)
 ) fun (r5 : Bool) =>
 obnd (f64 r5 (2 : Int)) fun (y8 : Int) =>
 some y8
set_option maxHeartbeats 1000000 in
theorem c98 [LO]  {a0 : Int} {a1 : Int} {a2 : Int} {a3 : Int} {a4 : Int} {a5 : Int} {x : Int} (H : f98 a0 a1 a2 a3 a4 a5 = some x) : ICalls E 98 [(.agg ⟨[(.int .i64 a0), (.int .i64 a1), (.int .i64 a2), (.int .i64 a3), (.int .i64 a4), (.int .i64 a5)]⟩)] AHeap.none fun v _ => v = (.int .i64 x) := by
  refine icalls_fn (pfnw ?_); unfold f98 at H;(conv=>whnf);refine pwa ?_;(conv=>whnf);refine pwa ?_;(conv=>whnf);obtain ⟨y1, h2, H⟩ := obnd_some H;refine ICalls.goD (c80 (fun _ _ h => (c116 h).asV) h2) (.cons (.sl1 rfl rfl (nl rfl) rfl (by intro v hv; replace hv : v ∈ ([(.int .i64 a1), (.int .i64 a2), (.int .i64 a3), (.int .i64 a4), (.int .i64 a5)] : List Value) := hv; simp only [List.mem_cons, List.not_mem_nil, or_false] at hv; rcases hv with rfl | rfl | rfl | rfl | rfl <;> rfl)) (.cons .cl .nil)) rfl ?_;(conv=>whnf);refine pw_so ?_;refine po_ops 4 ?_
  (conv=>whnf);obtain ⟨y3, h4, H⟩ := obnd_some H;refine (c65 h4).go ?_;(conv=>whnf);obtain ⟨r5, h6, H⟩ := obnd_some H;refine po_seg (τ := Bool) 3 (fun e => ⟨[(13, (.bool e))], ⟨1, [(0, .rw [(.int .i64 a0), (.int .i64 a1), (.int .i64 a2), (.int .i64 a3), (.int .i64 a4), (.int .i64 a5)])], false⟩⟩) r5 ?_ ?_
  · refine po_all ?_;(conv=>whnf);refine pbr_oite h6 (fun g7 h6 => ?_) (fun g7 h6 => ?_)
    · (conv=>whnf);refine pbr_t g7 ?_;(conv=>whnf);refine pbr_t g7 ?_;(conv=>whnf);cases h6;exact ⟨(.cons rfl .nil), rfl⟩
    · (conv=>whnf);refine pbr_f g7 ?_;(conv=>whnf);refine pbr_f g7 ?_;(conv=>whnf);cases h6;exact ⟨(.cons rfl .nil), rfl⟩
  · refine po_all ?_;(conv=>whnf);obtain ⟨y8, h9, H⟩ := obnd_some H;refine (c64 h9).go ?_;(conv=>whnf);refine pw_ret ?_;(conv=>whnf);cases H; rfl

/-- guidevane/dam.FitOf -/
noncomputable def f55 [LO]  (a0 : List (Int × Int × Int)) (a1 : Int) : Option (Int × Int × Int × Int × Int × Int × Int) :=
 obnd (f93 a0) fun (y1 : Int) =>
 obnd (f94 a1) fun (y3 : Int) =>
 obnd (f63 ([y1, y3] : List Int)) fun (y5 : Int) =>
 oite ((!(ieq y5 (0 : Int)))) (
 some ((0 : Int), (0 : Int), (0 : Int), (0 : Int), (0 : Int), (0 : Int), y5)
 ) (
 obnd (f95 a1) fun (y8 : (List Int)) =>
 obnd (
 ogrd (mfits 24 ((y8.map eI).length : Int) ((y8.map eI).length : Int)) (
 ogrd (mfits 8 ((y8.map eI).length : Int) ((y8.map eI).length : Int)) (
 some ()))
 ) fun (_ : Unit) =>
 obnd (
 oloop (τ := Int × (List ((List Int))) × (List Int)) (ρ := (List ((List Int))) × (List Int)) (fun e20 =>
 oite ((ilt e20.1 ((y8.map eI).length : Int))) (
 obnd (
 ogrd ((ile 0 e20.1)) (
 obnd (y8[e20.1.toNat]?) fun (x29 : Int) =>
 ogrd (mfits 8 ((y8.map eI).length : Int) ((y8.map eI).length : Int)) (
 ogrd ((ilt e20.1 (((y8.map eI).length : Int).toNat : Int))) (
 ogrd (Nat.blt e20.1.toNat e20.2.1.length) (
 oloop (τ := Int × (List Int) × (List Int)) (ρ := (List Int) × (List Int)) (fun e33 =>
 oite ((ilt e33.1 ((a0.map e_III).length : Int))) (
 obnd (
 ogrd ((ile 0 e33.1)) (
 obnd (a0[e33.1.toNat]?) fun (x42 : Int × Int × Int) =>
 obnd (f77 x42.1 x42.2.1 x42.2.2) fun (y43 : Int × Int × Int × Int × Int) =>
 obnd (e33.2.1[e20.1.toNat]?) fun (x45 : Int) =>
 ogrd ((ile 0 x29)) (
 ogrd ((ilt x29 5)) (
 obnd (([y43.1, y43.2.1, y43.2.2.1, y43.2.2.2.1, y43.2.2.2.2] : List Int)[(0 + x29.toNat * 1)]?) fun (x50 : Int) =>
 ogrd (Nat.blt e20.1.toNat e33.2.1.length) (
 oloop (τ := Int × (List Int)) (ρ := Int × Int × Int × Int × Int × Int × Int × Int × (List Int) × (List Int)) (fun e52 =>
 oite ((ilt e52.1 ((y8.map eI).length : Int))) (
 ogrd ((ile 0 e52.1)) (
 obnd (y8[e52.1.toNat]?) fun (x57 : Int) =>
 ogrd ((ilt e52.1 (((y8.map eI).length : Int).toNat : Int))) (
 obnd (e52.2[e52.1.toNat]?) fun (x59 : Int) =>
 obnd (([y43.1, y43.2.1, y43.2.2.1, y43.2.2.2.1, y43.2.2.2.2] : List Int)[(0 + x29.toNat * 1)]?) fun (x62 : Int) =>
 ogrd ((ile 0 x57)) (
 ogrd ((ilt x57 5)) (
 obnd (([y43.1, y43.2.1, y43.2.2.1, y43.2.2.2.1, y43.2.2.2.2] : List Int)[(0 + x57.toNat * 1)]?) fun (x65 : Int) =>
 ogrd (Nat.blt e52.1.toNat e52.2.length) (
 some (.inl (((IntKind.i64.wrap (e52.1 + (1 : Int))), (e52.2.set e52.1.toNat (IntKind.i64.wrap (x59 + (IntKind.i64.wrap (x62 * x65)))))))))))))
 ) (
 some (.inr ((x42.1, x42.2.1, x42.2.2, y43.1, y43.2.1, y43.2.2.1, y43.2.2.2.1, y43.2.2.2.2, (e33.2.1.set e20.1.toNat (IntKind.i64.wrap (x45 + (IntKind.i64.wrap (x50 * x42.2.2))))), e52.2))))
 ) ((0 : Int), e33.2.2)))))
 ) fun (r37 : Int × Int × Int × Int × Int × Int × Int × Int × (List Int) × (List Int)) =>
 some (.inl ((IntKind.i64.wrap (e33.1 + (1 : Int))), r37.2.2.2.2.2.2.2.2.1, r37.2.2.2.2.2.2.2.2.2))
 ) (
 some (.inr ((e33.2.1, e33.2.2))))
 ) (((0 : Int), e20.2.2, (List.replicate ((y8.map eI).length : Int).toNat (0 : Int))))))))
 ) fun (r24 : (List Int) × (List Int)) =>
 ogrd (Nat.beq ((y8.map eI).length : Int).toNat r24.2.length) (
 some (.inl (((IntKind.i64.wrap (e20.1 + (1 : Int))), (e20.2.1.set e20.1.toNat r24.2), r24.1))))
 ) (
 some (.inr ((e20.2.1, e20.2.2))))
 ) (((0 : Int), (List.replicate ((y8.map eI).length : Int).toNat ([] : List Int)), (List.replicate ((y8.map eI).length : Int).toNat (0 : Int))))
 ) fun (r16 : (List ((List Int))) × (List Int)) =>
 ogrd (Nat.beq ((y8.map eI).length : Int).toNat r16.1.length) (
 obnd (f96 r16.1) fun (y72 : Int) =>
 oite ((ieq y72 (0 : Int))) (
 some ((0 : Int), (0 : Int), (0 : Int), (0 : Int), (0 : Int), (0 : Int), (12 : Int))
 ) (
 obnd (
 oloop (τ := Int × Int × Int × Int × Int × Int) (ρ := Int × Int × Int × Int × Int) (fun e79 =>
 oite ((ilt e79.1 ((y8.map eI).length : Int))) (
 ogrd ((ile 0 e79.1)) (
 obnd (y8[e79.1.toNat]?) fun (x84 : Int) =>
 ogrd (mfits 24 (((y8.map eI).length : Int).toNat : Int) (((y8.map eI).length : Int).toNat : Int)) (
 obnd (
 oloop (τ := Int × (List ((List Int)))) (ρ := (List ((List Int)))) (fun e90 =>
 oite ((ilt e90.1 (((y8.map eI).length : Int).toNat : Int))) (
 ogrd ((ile 0 e90.1)) (
 obnd (r16.1[e90.1.toNat]?) fun (x95 : (List Int)) =>
 obnd (f73 x95) fun (y98 : (List Int)) =>
 ogrd ((ilt e90.1 ((((y8.map eI).length : Int).toNat : Int).toNat : Int))) (
 ogrd (Nat.blt e90.1.toNat e90.2.length) (
 obnd (r16.2[e90.1.toNat]?) fun (x102 : Int) =>
 ogrd ((ilt e79.1 (y98.length : Int))) (
 ogrd (Nat.blt e79.1.toNat y98.length) (
 ogrd (Nat.beq y98.length (y98.set e79.1.toNat x102).length) (
 some (.inl (((IntKind.i64.wrap (e90.1 + (1 : Int))), (e90.2.set e90.1.toNat (y98.set e79.1.toNat x102)))))))))))
 ) (
 some (.inr (e90.2)))
 ) (((0 : Int), (List.replicate (((y8.map eI).length : Int).toNat : Int).toNat ([] : List Int))))
 ) fun (r86 : (List ((List Int)))) =>
 ogrd (Nat.beq (((y8.map eI).length : Int).toNat : Int).toNat r86.length) (
 obnd (f96 r86) fun (y110 : Int) =>
 ogrd ((ile 0 x84)) (
 ogrd ((ilt x84 5)) (
 some (.inl (((IntKind.i64.wrap (e79.1 + (1 : Int))), (sel x84.toNat 0 y110 e79.2.1), (sel x84.toNat 1 y110 e79.2.2.1), (sel x84.toNat 2 y110 e79.2.2.2.1), (sel x84.toNat 3 y110 e79.2.2.2.2.1), (sel x84.toNat 4 y110 e79.2.2.2.2.2)))))))))
 ) (
 some (.inr ((e79.2.1, e79.2.2.1, e79.2.2.2.1, e79.2.2.2.2.1, e79.2.2.2.2.2))))
 ) (((0 : Int), (0 : Int), (0 : Int), (0 : Int), (0 : Int), (0 : Int)))
 ) fun (r75 : Int × Int × Int × Int × Int) =>
 obnd (f97 y72 r75.1 r75.2.1 r75.2.2.1 r75.2.2.2.1 r75.2.2.2.2) fun (y115 : Int) =>
 ogrd (!((ieq y115 0))) (
 obnd (
 some ()
 ) fun (_ : Unit) =>
 obnd (f98 (IntKind.i64.wrap (y72.tdiv y115)) (IntKind.i64.wrap (r75.1.tdiv y115)) (IntKind.i64.wrap (r75.2.1.tdiv y115)) (IntKind.i64.wrap (r75.2.2.1.tdiv y115)) (IntKind.i64.wrap (r75.2.2.2.1.tdiv y115)) (IntKind.i64.wrap (r75.2.2.2.2.tdiv y115))) fun (y122 : Int) =>
 oite ((!(ieq y122 (0 : Int)))) (
 some ((0 : Int), (0 : Int), (0 : Int), (0 : Int), (0 : Int), (0 : Int), (8 : Int))
 ) (
 some ((IntKind.i64.wrap (y72.tdiv y115)), (IntKind.i64.wrap (r75.1.tdiv y115)), (IntKind.i64.wrap (r75.2.1.tdiv y115)), (IntKind.i64.wrap (r75.2.2.1.tdiv y115)), (IntKind.i64.wrap (r75.2.2.2.1.tdiv y115)), (IntKind.i64.wrap (r75.2.2.2.2.tdiv y115)), (0 : Int)))))))
set_option maxHeartbeats 1000000 in
theorem c55 [LO]  {a0 : List (Int × Int × Int)} {a1 : Int} {x : Int × Int × Int × Int × Int × Int × Int} (H : f55 a0 a1 = some x) : ICalls E 55 [(VS 3 (a0.map e_III)), (.int .i64 a1)] AHeap.none fun v _ => v = (.tuple ⟨[(.agg ⟨[(.int .i64 x.1), (.int .i64 x.2.1), (.int .i64 x.2.2.1), (.int .i64 x.2.2.2.1), (.int .i64 x.2.2.2.2.1), (.int .i64 x.2.2.2.2.2.1)]⟩), (.int .i64 x.2.2.2.2.2.2)]⟩) := by
  refine icalls_fn (pfnw ?_); unfold f55 at H;(conv=>whnf);refine pwa ?_;(conv=>whnf);refine pwa ?_;(conv=>whnf);refine pw_seq ?_;refine pwa ?_;(conv=>whnf);obtain ⟨y1, h2, H⟩ := obnd_some H;refine (c93 h2).go ?_;(conv=>whnf);obtain ⟨y3, h4, H⟩ := obnd_some H;refine (c94 h4).go ?_;(conv=>whnf);obtain ⟨y5, h6, H⟩ := obnd_some H;refine ICalls.goW (c63 h6) (.cons (.vt _ _ _) .nil) ?_;(conv=>whnf);refine pwa ?_;(conv=>whnf);refine pw_cond ?_;(conv=>whnf);refine pbr_oite H (fun g7 H => ?_) (fun g7 H => ?_)
  · (conv=>whnf);refine pwa ?_;(conv=>whnf);refine pw_ret ?_;(conv=>whnf);cases H; rfl
  · (conv=>whnf);refine pw_skip ?_;(conv=>whnf);refine pwa ?_;(conv=>whnf);obtain ⟨y8, h9, H⟩ := obnd_some H;refine (c95 h9).go ?_;(conv=>whnf);obtain ⟨r10, h11, H⟩ := obnd_some H;refine pw_joinR (ρ := Unit) (fun e => ⟨[(0, (VS 3 (a0.map e_III))), (4, (.pointer (some ⟨0, 0, none⟩))), (8, (VS 1 (y8.map eI))), (9, (.slice (some ⟨2, 0, none⟩) ((y8.map eI).length : Int).toNat 1)), (10, (.slice (some ⟨3, 0, none⟩) ((y8.map eI).length : Int).toNat 1))], ⟨4, [(3, .rw ((List.replicate ((y8.map eI).length : Int).toNat (0 : Int)).map eI)), (2, .rw ((List.replicate ((y8.map eI).length : Int).toNat ([] : List Int)).map e_L1I)), (1, .tail 2 1), (0, .rw [(.int .i64 0), (.int .i64 0), (.int .i64 0), (.int .i64 0), (.int .i64 0), (.int .i64 0)])], false⟩⟩) r10 ?_ ?_
    · refine pw_draw ?_;(conv=>whnf);refine ⟨?_, ?_⟩
      · (conv=>whnf);obtain ⟨g14, h11⟩ := ogrd_some h11;refine mk_n g14 ?_;(conv=>whnf);refine ⟨by repeat (first | exact trivial | refine And.intro rfl ?_), ?_⟩;(conv=>whnf);refine ⟨?_, trivial⟩;(conv=>whnf);obtain ⟨g15, h11⟩ := ogrd_some h11;refine mk_o (f := eI) (x := (0 : Int)) rfl g15 ?_;(conv=>whnf);refine ⟨by repeat (first | exact trivial | refine And.intro rfl ?_), ?_⟩;(conv=>whnf);cases h11;refine Recast.trans (Recast.nilrow (b := 2) (f := e_L1I) (x := ([] : List Int)) (l2 := [(3, .rw ((List.replicate ((y8.map eI).length : Int).toNat (0 : Int)).map eI)), (2, .rw ((List.replicate ((y8.map eI).length : Int).toNat ([] : List Int)).map e_L1I)), (1, .tail 2 1), (0, .rw [(.int .i64 0), (.int .i64 0), (.int .i64 0), (.int .i64 0), (.int .i64 0), (.int .i64 0)])]) rfl (nl rfl) rfl rfl) ?_
        exact Recast.fz (fun _ => false) (nl rfl) (.cons (.same rfl rfl (OBnd.rwc (nl rfl) (oneL_map fun _ => rfl))) (.cons (.same rfl rfl (OBnd.rwc (nl rfl) (oneL_map fun _ => rfl))) (.cons (.same rfl rfl (OBnd.tail (nl rfl))) (.cons (.same rfl rfl (OBnd.rwl (nl rfl) rfl (.cons .cl (.cons .cl (.cons .cl (.cons .cl (.cons .cl (.cons .cl .nil)))))))) .nil)))) (.cons rfl (.same _ .cl) (.cons rfl (.same _ (.ptr (nl rfl))) (.cons rfl (.same _ .cl) (.cons rfl (.same _ (.slice (nl rfl))) (.cons rfl (.same _ (.slice (nl rfl))) .nil)))))
      · obtain ⟨g14, h11⟩ := ogrd_some h11;obtain ⟨g15, h11⟩ := ogrd_some h11;(conv=>whnf);refine ⟨?_, trivial⟩;(conv=>whnf);refine mk_o (f := eI) (x := (0 : Int)) rfl g15 ?_;(conv=>whnf);refine ⟨by repeat (first | exact trivial | refine And.intro rfl ?_), ?_⟩;(conv=>whnf);refine ⟨?_, trivial⟩;(conv=>whnf);refine mk_n g14 ?_;(conv=>whnf);refine ⟨by repeat (first | exact trivial | refine And.intro rfl ?_), ?_⟩;(conv=>whnf);cases h11;refine Recast.trans (Recast.nilrow (b := 3) (f := e_L1I) (x := ([] : List Int)) (l2 := [(3, .rw ((List.replicate ((y8.map eI).length : Int).toNat ([] : List Int)).map e_L1I)), (2, .rw ((List.replicate ((y8.map eI).length : Int).toNat (0 : Int)).map eI)), (1, .tail 2 1), (0, .rw [(.int .i64 0), (.int .i64 0), (.int .i64 0), (.int .i64 0), (.int .i64 0), (.int .i64 0)])]) rfl (nl rfl) rfl rfl) ?_
        refine Recast.trans (s' := ⟨[(0, (VS 3 (a0.map e_III))), (4, (.pointer (some ⟨0, 0, none⟩))), (8, (VS 1 (y8.map eI))), (9, (.slice (some ⟨3, 0, none⟩) ((y8.map eI).length : Int).toNat 1)), (10, (.slice (some ⟨4, 0, none⟩) ((y8.map eI).length : Int).toNat 1))], ⟨5, [(3, .rw ((List.replicate ((y8.map eI).length : Int).toNat ([] : List Int)).map e_L1I)), (4, .rw ((List.replicate ((y8.map eI).length : Int).toNat (0 : Int)).map eI)), (1, .tail 2 1), (0, .rw [(.int .i64 0), (.int .i64 0), (.int .i64 0), (.int .i64 0), (.int .i64 0), (.int .i64 0)])], false⟩⟩) (Recast.mv 2 4 (nl rfl) (nl rfl) (.cons (.rw (nn rfl) (nn rfl) (nl rfl) rfl (oneL_map fun _ => rfl) .cl) (.cons (.mv rfl (nl rfl) rfl (oneL_map fun _ => rfl) .cl) (.cons (.tail (nl rfl) rfl) (.cons (.rw (nn rfl) (nn rfl) (nl rfl) rfl rfl (.of (.cons .cl (.cons .cl (.cons .cl (.cons .cl (.cons .cl (.cons .cl .nil)))))))) .nil)))) (.cons rfl .cl (.cons rfl (.ptr (nn rfl) (nl rfl)) (.cons rfl .cl (.cons rfl (.slice (nn rfl) (nl rfl)) (.cons rfl (.slicem (nl rfl)) .nil)))))) ?_
        refine Recast.trans (s' := ⟨[(0, (VS 3 (a0.map e_III))), (4, (.pointer (some ⟨0, 0, none⟩))), (8, (VS 1 (y8.map eI))), (9, (.slice (some ⟨5, 0, none⟩) ((y8.map eI).length : Int).toNat 1)), (10, (.slice (some ⟨4, 0, none⟩) ((y8.map eI).length : Int).toNat 1))], ⟨6, [(5, .rw ((List.replicate ((y8.map eI).length : Int).toNat ([] : List Int)).map e_L1I)), (4, .rw ((List.replicate ((y8.map eI).length : Int).toNat (0 : Int)).map eI)), (1, .tail 2 1), (0, .rw [(.int .i64 0), (.int .i64 0), (.int .i64 0), (.int .i64 0), (.int .i64 0), (.int .i64 0)])], false⟩⟩) (Recast.mv 3 5 (nl rfl) (nl rfl) (.cons (.mv rfl (nl rfl) rfl (oneL_map fun _ => rfl) .cl) (.cons (.rw (nn rfl) (nn rfl) (nl rfl) rfl (oneL_map fun _ => rfl) .cl) (.cons (.tail (nl rfl) rfl) (.cons (.rw (nn rfl) (nn rfl) (nl rfl) rfl rfl (.of (.cons .cl (.cons .cl (.cons .cl (.cons .cl (.cons .cl (.cons .cl .nil)))))))) .nil)))) (.cons rfl .cl (.cons rfl (.ptr (nn rfl) (nl rfl)) (.cons rfl .cl (.cons rfl (.slicem (nl rfl)) (.cons rfl (.slice (nn rfl) (nl rfl)) .nil)))))) ?_
        refine Recast.trans (s' := ⟨[(0, (VS 3 (a0.map e_III))), (4, (.pointer (some ⟨0, 0, none⟩))), (8, (VS 1 (y8.map eI))), (9, (.slice (some ⟨5, 0, none⟩) ((y8.map eI).length : Int).toNat 1)), (10, (.slice (some ⟨3, 0, none⟩) ((y8.map eI).length : Int).toNat 1))], ⟨6, [(5, .rw ((List.replicate ((y8.map eI).length : Int).toNat ([] : List Int)).map e_L1I)), (3, .rw ((List.replicate ((y8.map eI).length : Int).toNat (0 : Int)).map eI)), (1, .tail 2 1), (0, .rw [(.int .i64 0), (.int .i64 0), (.int .i64 0), (.int .i64 0), (.int .i64 0), (.int .i64 0)])], false⟩⟩) (Recast.mv 4 3 (nl rfl) (nl rfl) (.cons (.rw (nn rfl) (nn rfl) (nl rfl) rfl (oneL_map fun _ => rfl) .cl) (.cons (.mv rfl (nl rfl) rfl (oneL_map fun _ => rfl) .cl) (.cons (.tail (nl rfl) rfl) (.cons (.rw (nn rfl) (nn rfl) (nl rfl) rfl rfl (.of (.cons .cl (.cons .cl (.cons .cl (.cons .cl (.cons .cl (.cons .cl .nil)))))))) .nil)))) (.cons rfl .cl (.cons rfl (.ptr (nn rfl) (nl rfl)) (.cons rfl .cl (.cons rfl (.slice (nn rfl) (nl rfl)) (.cons rfl (.slicem (nl rfl)) .nil)))))) ?_
        exact (Recast.mv 5 2 (nl rfl) (nl rfl) (.cons (.rw (nn rfl) (nn rfl) (nl rfl) rfl (oneL_map fun _ => rfl) .cl) (.cons (.mv rfl (nl rfl) rfl (oneL_map fun _ => rfl) .cl) (.cons (.tail (nl rfl) rfl) (.cons (.rw (nn rfl) (nn rfl) (nl rfl) rfl rfl (.of (.cons .cl (.cons .cl (.cons .cl (.cons .cl (.cons .cl (.cons .cl .nil)))))))) .nil)))) (.cons rfl .cl (.cons rfl (.ptr (nn rfl) (nl rfl)) (.cons rfl .cl (.cons rfl (.slicem (nl rfl)) (.cons rfl (.slice (nn rfl) (nl rfl)) .nil))))))
    · obtain ⟨r16, h17, H⟩ := obnd_some H;refine pw_join (ρ := (List ((List Int))) × (List Int)) (fun e => ⟨[(4, (.pointer (some ⟨0, 0, none⟩))), (8, (VS 1 (y8.map eI))), (9, (.slice (some ⟨2, 0, none⟩) ((y8.map eI).length : Int).toNat 1)), (10, (.slice (some ⟨3, 0, none⟩) ((y8.map eI).length : Int).toNat 1))], ⟨4, [(3, .rw (e.2.map eI)), (2, .rw (e.1.map e_L1I)), (1, .tail 2 1), (0, .rw [(.int .i64 0), (.int .i64 0), (.int .i64 0), (.int .i64 0), (.int .i64 0), (.int .i64 0)])], false⟩⟩) r16 ?_ ?_
      · refine pwa ?_;(conv=>whnf);refine pw_block ?_;refine pw_loop (τ := Int × (List ((List Int))) × (List Int)) (fun e => ⟨[(0, (VS 3 (a0.map e_III))), (4, (.pointer (some ⟨0, 0, none⟩))), (8, (VS 1 (y8.map eI))), (9, (.slice (some ⟨2, 0, none⟩) ((y8.map eI).length : Int).toNat 1)), (10, (.slice (some ⟨3, 0, none⟩) ((y8.map eI).length : Int).toNat 1)), (45, (VS 1 (y8.map eI))), (46, (.int .i64 ((y8.map eI).length : Int))), (47, (.int .i64 e.1))], ⟨4, [(3, .rw (e.2.2.map eI)), (2, .rw (e.2.1.map e_L1I)), (1, .tail 2 1), (0, .rw [(.int .i64 0), (.int .i64 0), (.int .i64 0), (.int .i64 0), (.int .i64 0), (.int .i64 0)])], false⟩⟩) h17 ?_ (fun _ => nl rfl) ?_
        · exact .sub' (nl rfl) (.cons rfl (.cons rfl (.cons rfl (.cons rfl (.cons rfl (.cons rfl (.cons rfl (.cons rfl .nil))))))))
        · intro e20 x21 h22;refine pwa ?_;(conv=>whnf);refine pw_seq ?_;refine pw_cond ?_;(conv=>whnf);refine pbr_oite h22 (fun g23 h22 => ?_) (fun g23 h22 => ?_)
          · (conv=>whnf);refine pw_skip ?_;(conv=>whnf);obtain ⟨r24, h25, h22⟩ := obnd_some h22;refine pw_join (ρ := (List Int) × (List Int)) (fun e => ⟨[(0, (VS 3 (a0.map e_III))), (4, (.pointer (some ⟨0, 0, none⟩))), (8, (VS 1 (y8.map eI))), (9, (.slice (some ⟨2, 0, none⟩) ((y8.map eI).length : Int).toNat 1)), (10, (.slice (some ⟨3, 0, none⟩) ((y8.map eI).length : Int).toNat 1)), (45, (VS 1 (y8.map eI))), (46, (.int .i64 ((y8.map eI).length : Int))), (47, (.int .i64 e20.1))], ⟨5, [(4, .rw (e.2.map eI)), (3, .rw (e.1.map eI)), (2, .rw ((e20.2.1.map e_L1I).set e20.1.toNat (.slice (some ⟨4, 0, none⟩) ((y8.map eI).length : Int).toNat 1))), (1, .tail 2 1), (0, .rw [(.int .i64 0), (.int .i64 0), (.int .i64 0), (.int .i64 0), (.int .i64 0), (.int .i64 0)])], false⟩⟩) r24 ?_ ?_
            · refine pw_block ?_;refine pwa ?_;(conv=>whnf);refine pbr_ogrd h25 (fun g28 h25 => ?_);(conv=>whnf);refine nth_o (l := y8) h25 (fun x29 _ h25 => ?_);(conv=>whnf);refine pwa ?_;(conv=>whnf);obtain ⟨g30, h25⟩ := ogrd_some h25;refine mk_o (f := eI) (x := (0 : Int)) rfl g30 ?_;(conv=>whnf);refine pbr_t g28 ?_;(conv=>whnf);refine pbr_ogrd h25 (fun g31 h25 => ?_);(conv=>whnf);obtain ⟨g32, h25⟩ := ogrd_some h25;refine set_h (l := e20.2.1) (f := e_L1I) g32 rfl ?_;(conv=>whnf);refine pwa ?_;(conv=>whnf);refine pw_block ?_;refine pw_loop (τ := Int × (List Int) × (List Int)) (fun e => ⟨[(0, (VS 3 (a0.map e_III))), (4, (.pointer (some ⟨0, 0, none⟩))), (8, (VS 1 (y8.map eI))), (9, (.slice (some ⟨2, 0, none⟩) ((y8.map eI).length : Int).toNat 1)), (10, (.slice (some ⟨3, 0, none⟩) ((y8.map eI).length : Int).toNat 1)), (11, (.int .i64 e20.1)), (12, (.int .i64 x29)), (45, (VS 1 (y8.map eI))), (46, (.int .i64 ((y8.map eI).length : Int))), (47, (.int .i64 e20.1)), (58, (VS 3 (a0.map e_III))), (59, (.int .i64 ((a0.map e_III).length : Int))), (60, (.int .i64 e.1))], ⟨5, [(4, .rw (e.2.2.map eI)), (3, .rw (e.2.1.map eI)), (2, .rw ((e20.2.1.map e_L1I).set e20.1.toNat (.slice (some ⟨4, 0, none⟩) ((y8.map eI).length : Int).toNat 1))), (1, .tail 2 1), (0, .rw [(.int .i64 0), (.int .i64 0), (.int .i64 0), (.int .i64 0), (.int .i64 0), (.int .i64 0)])], false⟩⟩) h25 ?_ (fun _ => nl rfl) ?_
              · exact .sub' (nl rfl) (.cons rfl (.cons rfl (.cons rfl (.cons rfl (.cons rfl (.cons rfl (.cons rfl (.cons rfl (.cons rfl (.cons rfl (.cons rfl (.cons rfl (.cons rfl .nil)))))))))))))
              · intro e33 x34 h35;refine pwa ?_;(conv=>whnf);refine pw_seq ?_;refine pw_cond ?_;(conv=>whnf);refine pbr_oite h35 (fun g36 h35 => ?_) (fun g36 h35 => ?_)
                · (conv=>whnf);refine pw_skip ?_;(conv=>whnf);obtain ⟨r37, h38, h35⟩ := obnd_some h35;refine pw_join (ρ := Int × Int × Int × Int × Int × Int × Int × Int × (List Int) × (List Int)) (fun e => ⟨[(0, (VS 3 (a0.map e_III))), (4, (.pointer (some ⟨0, 0, none⟩))), (8, (VS 1 (y8.map eI))), (9, (.slice (some ⟨2, 0, none⟩) ((y8.map eI).length : Int).toNat 1)), (10, (.slice (some ⟨3, 0, none⟩) ((y8.map eI).length : Int).toNat 1)), (11, (.int .i64 e20.1)), (12, (.int .i64 x29)), (45, (VS 1 (y8.map eI))), (46, (.int .i64 ((y8.map eI).length : Int))), (47, (.int .i64 e20.1)), (58, (VS 3 (a0.map e_III))), (59, (.int .i64 ((a0.map e_III).length : Int))), (60, (.int .i64 e33.1))], ⟨7, [(6, .rw [(.int .i64 e.2.2.2.1), (.int .i64 e.2.2.2.2.1), (.int .i64 e.2.2.2.2.2.1), (.int .i64 e.2.2.2.2.2.2.1), (.int .i64 e.2.2.2.2.2.2.2.1)]), (5, .rw [(.int .i64 e.1), (.int .i64 e.2.1), (.int .i64 e.2.2.1)]), (4, .rw (e.2.2.2.2.2.2.2.2.2.map eI)), (3, .rw (e.2.2.2.2.2.2.2.2.1.map eI)), (2, .rw ((e20.2.1.map e_L1I).set e20.1.toNat (.slice (some ⟨4, 0, none⟩) ((y8.map eI).length : Int).toNat 1))), (1, .tail 2 1), (0, .rw [(.int .i64 0), (.int .i64 0), (.int .i64 0), (.int .i64 0), (.int .i64 0), (.int .i64 0)])], false⟩⟩) r37 ?_ ?_
                  · refine pw_block ?_;refine pwa ?_;(conv=>whnf);refine pbr_ogrd h38 (fun g41 h38 => ?_);(conv=>whnf);refine nth_o (l := a0) h38 (fun x42 _ h38 => ?_);(conv=>whnf);refine pwa ?_;(conv=>whnf);obtain ⟨y43, h44, h38⟩ := obnd_some h38;refine (c77 h44).go ?_;(conv=>whnf);refine pw_sd ?_;(conv=>whnf);refine pbr_t g28 ?_;(conv=>whnf);refine pbr_t g31 ?_;(conv=>whnf);refine nth_a (l := e33.2.1) (f := eI) h38 (fun x45 h46 h38 => ?_);(conv=>whnf);refine pbr_ogrd h38 (fun g48 h38 => ?_);(conv=>whnf);refine pbr_ogrd h38 (fun g49 h38 => ?_);(conv=>whnf);refine nth_o (f := eI) (l := ([y43.1, y43.2.1, y43.2.2.1, y43.2.2.2.1, y43.2.2.2.2] : List Int)) h38 (fun x50 _ h38 => ?_)
                    (conv=>whnf);refine pbr_t g28 ?_;(conv=>whnf);refine pbr_t g31 ?_;(conv=>whnf);refine ⟨?_, trivial⟩;(conv=>whnf);obtain ⟨g51, h38⟩ := ogrd_some h38;refine set_a (l := e33.2.1) (f := eI) (x := (IntKind.i64.wrap (x45 + (IntKind.i64.wrap (x50 * x42.2.2))))) g51 rfl ?_;(conv=>whnf);refine ⟨by repeat (first | exact trivial | refine And.intro rfl ?_ | refine And.intro (lev_a (l := e33.2.1) (f := eI) rfl h46) ?_), ?_⟩;(conv=>whnf);refine pwa ?_;(conv=>whnf);refine pw_block ?_;refine pw_loop (τ := Int × (List Int)) (fun e => ⟨[(0, (VS 3 (a0.map e_III))), (4, (.pointer (some ⟨0, 0, none⟩))), (8, (VS 1 (y8.map eI))), (9, (.slice (some ⟨2, 0, none⟩) ((y8.map eI).length : Int).toNat 1)), (10, (.slice (some ⟨3, 0, none⟩) ((y8.map eI).length : Int).toNat 1)), (11, (.int .i64 e20.1)), (12, (.int .i64 x29)), (15, (.pointer (some ⟨6, 0, none⟩))), (45, (VS 1 (y8.map eI))), (46, (.int .i64 ((y8.map eI).length : Int))), (47, (.int .i64 e20.1)), (58, (VS 3 (a0.map e_III))), (59, (.int .i64 ((a0.map e_III).length : Int))), (60, (.int .i64 e33.1)), (78, (VS 1 (y8.map eI))), (79, (.int .i64 ((y8.map eI).length : Int))), (80, (.int .i64 e.1))], ⟨7, [(6, .rw [(.int .i64 y43.1), (.int .i64 y43.2.1), (.int .i64 y43.2.2.1), (.int .i64 y43.2.2.2.1), (.int .i64 y43.2.2.2.2)]), (5, .rw [(.int .i64 x42.1), (.int .i64 x42.2.1), (.int .i64 x42.2.2)]), (4, .rw (e.2.map eI)), (3, .rw ((e33.2.1.set e20.1.toNat (IntKind.i64.wrap (x45 + (IntKind.i64.wrap (x50 * x42.2.2))))).map eI)), (2, .rw ((e20.2.1.map e_L1I).set e20.1.toNat (.slice (some ⟨4, 0, none⟩) ((y8.map eI).length : Int).toNat 1))), (1, .tail 2 1), (0, .rw [(.int .i64 0), (.int .i64 0), (.int .i64 0), (.int .i64 0), (.int .i64 0), (.int .i64 0)])], false⟩⟩) h38 ?_ (fun _ => nl rfl) ?_
                    · exact .sub' (nl rfl) (.cons rfl (.cons rfl (.cons rfl (.cons rfl (.cons rfl (.cons rfl (.cons rfl (.cons rfl (.cons rfl (.cons rfl (.cons rfl (.cons rfl (.cons rfl (.cons rfl (.cons rfl (.cons rfl (.cons rfl .nil)))))))))))))))))
                    · intro e52 x53 h54;refine pwa ?_;(conv=>whnf);refine pw_seq ?_;refine pw_cond ?_;(conv=>whnf);refine pbr_oite h54 (fun g55 h54 => ?_) (fun g55 h54 => ?_)
                      · (conv=>whnf);refine pw_skip ?_;(conv=>whnf);refine pw_seq ?_;refine pw_block ?_;refine pwa ?_;(conv=>whnf);refine pbr_ogrd h54 (fun g56 h54 => ?_);(conv=>whnf);refine nth_o (l := y8) h54 (fun x57 _ h54 => ?_);(conv=>whnf);refine pw_draw ?_;(conv=>whnf);refine pbr_t g28 ?_;(conv=>whnf);refine pbr_t g31 ?_;(conv=>whnf);refine nth_h g32 ?_;(conv=>whnf);refine pbr_t g56 ?_;(conv=>whnf);refine pbr_ogrd h54 (fun g58 h54 => ?_);(conv=>whnf);refine nth_a (l := e52.2) (f := eI) h54 (fun x59 h60 h54 => ?_);(conv=>whnf);refine pbr_t g48 ?_;(conv=>whnf);refine pbr_t g49 ?_;(conv=>whnf);refine nth_o (f := eI) (l := ([y43.1, y43.2.1, y43.2.2.1, y43.2.2.2.1, y43.2.2.2.2] : List Int)) h54 (fun x62 _ h54 => ?_)
                        (conv=>whnf);refine pbr_ogrd h54 (fun g63 h54 => ?_);(conv=>whnf);refine pbr_ogrd h54 (fun g64 h54 => ?_);(conv=>whnf);refine nth_o (f := eI) (l := ([y43.1, y43.2.1, y43.2.2.1, y43.2.2.2.1, y43.2.2.2.2] : List Int)) h54 (fun x65 _ h54 => ?_);(conv=>whnf);refine pbr_t g56 ?_;(conv=>whnf);refine pbr_t g58 ?_;(conv=>whnf);refine ⟨?_, trivial⟩;(conv=>whnf);obtain ⟨g66, h54⟩ := ogrd_some h54;refine set_a (l := e52.2) (f := eI) (x := (IntKind.i64.wrap (x59 + (IntKind.i64.wrap (x62 * x65))))) g66 rfl ?_;(conv=>whnf);refine ⟨by repeat (first | exact trivial | refine And.intro rfl ?_ | refine And.intro (lev_h (l := e20.2.1) (f := e_L1I) rfl g32) ?_ | refine And.intro (lev_a (l := e52.2) (f := eI) rfl h60) ?_), ?_⟩
                        (conv=>whnf);refine pw_ops ?_;refine po_all ?_;(conv=>whnf);cases h54;refine ⟨_, rfl, ?_⟩;exact .sub' (nl rfl) (.cons rfl (.cons rfl (.cons rfl (.cons rfl (.cons rfl (.cons rfl (.cons rfl (.cons rfl (.cons rfl (.cons rfl (.cons rfl (.cons rfl (.cons rfl (.cons rfl (.cons rfl (.cons rfl (.cons rfl .nil)))))))))))))))))
                      · (conv=>whnf);refine pw_exit ?_;(conv=>whnf);cases h54;refine ⟨_, rfl, ?_⟩; rintro rfl;(conv=>whnf);exact ⟨(.cons rfl (.cons rfl (.cons rfl (.cons rfl (.cons rfl (.cons rfl (.cons rfl (.cons rfl (.cons rfl (.cons rfl (.cons rfl (.cons rfl (.cons rfl .nil))))))))))))), rfl⟩
                  · refine pw_ops ?_;refine po_all ?_;(conv=>whnf);cases h35;refine ⟨_, rfl, ?_⟩;exact Recast.fz (fun _ => false) (nl rfl) (.cons (.same rfl rfl (OBnd.rwc (nl rfl) (oneL_map fun _ => rfl))) (.cons (.same rfl rfl (OBnd.rwc (nl rfl) (oneL_map fun _ => rfl))) (.cons (.same rfl rfl (OBnd.rwh (nl rfl) (fun _ => rfl) rfl (.slice (nl rfl)))) (.cons (.same rfl rfl (OBnd.tail (nl rfl))) (.cons (.same rfl rfl (OBnd.rwl (nl rfl) rfl (.cons .cl (.cons .cl (.cons .cl (.cons .cl (.cons .cl (.cons .cl .nil)))))))) .nil))))) (.cons rfl (.same _ .cl) (.cons rfl (.same _ (.ptr (nl rfl))) (.cons rfl (.same _ .cl) (.cons rfl (.same _ (.slice (nl rfl))) (.cons rfl (.same _ (.slice (nl rfl))) (.cons rfl (.same _ .cl) (.cons rfl (.same _ .cl) (.cons rfl (.same _ .cl) (.cons rfl (.same _ .cl) (.cons rfl (.same _ .cl) (.cons rfl (.same _ .cl) (.cons rfl (.same _ .cl) (.cons rfl (.same _ .cl) .nil)))))))))))))
                · (conv=>whnf);refine pw_exit ?_;(conv=>whnf);cases h35;refine ⟨_, rfl, ?_⟩; rintro rfl;(conv=>whnf);exact ⟨(.cons rfl (.cons rfl (.cons rfl (.cons rfl (.cons rfl (.cons rfl (.cons rfl (.cons rfl .nil)))))))), rfl⟩
            · refine pw_ops ?_;refine po_all ?_;(conv=>whnf);obtain ⟨g69, h22⟩ := ogrd_some h22;cases h22;refine ⟨_, rfl, ?_⟩;exact Recast.fz (fun b => Nat.beq b 4) (nl rfl) (.cons (.same rfl rfl (OBnd.rwc (nl rfl) (oneL_map fun _ => rfl))) (.cons (.hole rfl (nl rfl) rfl (.slm rfl rfl g69 (fun _ => rfl)) (fun _ => rfl)) (.cons (.same rfl rfl (OBnd.tail (nl rfl))) (.cons (.same rfl rfl (OBnd.rwl (nl rfl) rfl (.cons .cl (.cons .cl (.cons .cl (.cons .cl (.cons .cl (.cons .cl .nil)))))))) .nil)))) (.cons rfl (.same _ .cl) (.cons rfl (.same _ (.ptr (nl rfl))) (.cons rfl (.same _ .cl) (.cons rfl (.same _ (.slice (nl rfl))) (.cons rfl (.same _ (.slice (nl rfl))) (.cons rfl (.same _ .cl) (.cons rfl (.same _ .cl) (.cons rfl (.same _ .cl) .nil))))))))
          · (conv=>whnf);refine pw_exit ?_;(conv=>whnf);cases h22;refine ⟨_, rfl, ?_⟩; rintro rfl;(conv=>whnf);exact ⟨(.cons rfl (.cons rfl (.cons rfl (.cons rfl .nil)))), rfl⟩
      · refine pwa ?_;(conv=>whnf);obtain ⟨g71, H⟩ := ogrd_some H;obtain ⟨y72, h73, H⟩ := obnd_some H;refine ICalls.goD (c96 h73) (.cons (.slm rfl g71 (fun _ => rfl)) .nil) rfl ?_;(conv=>whnf);refine pw_seq ?_;refine pwa ?_;(conv=>whnf);refine pw_cond ?_;(conv=>whnf);refine pbr_oite H (fun g74 H => ?_) (fun g74 H => ?_)
        · (conv=>whnf);refine pwa ?_;(conv=>whnf);refine pw_ret ?_;(conv=>whnf);cases H; rfl
        · (conv=>whnf);refine pw_skip ?_;(conv=>whnf);obtain ⟨r75, h76, H⟩ := obnd_some H;refine pw_join (ρ := Int × Int × Int × Int × Int) (fun e => ⟨[(4, (.pointer (some ⟨0, 0, none⟩))), (18, (.pointer (some ⟨4, 0, none⟩)))], ⟨5, [(4, .rw [(.int .i64 y72), (.int .i64 e.1), (.int .i64 e.2.1), (.int .i64 e.2.2.1), (.int .i64 e.2.2.2.1), (.int .i64 e.2.2.2.2)]), (3, .rw (r16.2.map eI)), (2, .rw (r16.1.map e_L1I)), (1, .tail 2 1), (0, .rw [(.int .i64 0), (.int .i64 0), (.int .i64 0), (.int .i64 0), (.int .i64 0), (.int .i64 0)])], false⟩⟩) r75 ?_ ?_
          · refine pwa ?_;(conv=>whnf);refine pw_block ?_;refine pw_loop (τ := Int × Int × Int × Int × Int × Int) (fun e => ⟨[(4, (.pointer (some ⟨0, 0, none⟩))), (9, (.slice (some ⟨2, 0, none⟩) ((y8.map eI).length : Int).toNat 1)), (10, (.slice (some ⟨3, 0, none⟩) ((y8.map eI).length : Int).toNat 1)), (18, (.pointer (some ⟨4, 0, none⟩))), (111, (VS 1 (y8.map eI))), (112, (.int .i64 ((y8.map eI).length : Int))), (113, (.int .i64 e.1))], ⟨5, [(4, .rw [(.int .i64 y72), (.int .i64 e.2.1), (.int .i64 e.2.2.1), (.int .i64 e.2.2.2.1), (.int .i64 e.2.2.2.2.1), (.int .i64 e.2.2.2.2.2)]), (3, .rw (r16.2.map eI)), (2, .rw (r16.1.map e_L1I)), (1, .tail 2 1), (0, .rw [(.int .i64 0), (.int .i64 0), (.int .i64 0), (.int .i64 0), (.int .i64 0), (.int .i64 0)])], false⟩⟩) h76 ?_ (fun _ => nl rfl) ?_
            · exact .sub' (nl rfl) (.cons rfl (.cons rfl (.cons rfl (.cons rfl (.cons rfl (.cons rfl (.cons rfl .nil)))))))
            · intro e79 x80 h81;refine pwa ?_;(conv=>whnf);refine pw_seq ?_;refine pw_cond ?_;(conv=>whnf);refine pbr_oite h81 (fun g82 h81 => ?_) (fun g82 h81 => ?_)
              · (conv=>whnf);refine pw_skip ?_;(conv=>whnf);refine pw_seq ?_;refine pw_block ?_;refine pwa ?_;(conv=>whnf);refine pbr_ogrd h81 (fun g83 h81 => ?_);(conv=>whnf);refine nth_o (l := y8) h81 (fun x84 _ h81 => ?_);(conv=>whnf);refine pw_soR ?_;refine po_all ?_;(conv=>whnf);obtain ⟨g85, h81⟩ := ogrd_some h81;refine mk_n g85 ?_;(conv=>whnf);refine ⟨_, (Recast.nilrow (b := 5) (f := e_L1I) (x := ([] : List Int)) (l2 := [(5, .rw ((List.replicate (((y8.map eI).length : Int).toNat : Int).toNat ([] : List Int)).map e_L1I)), (4, .rw [(.int .i64 y72), (.int .i64 e79.2.1), (.int .i64 e79.2.2.1), (.int .i64 e79.2.2.2.1), (.int .i64 e79.2.2.2.2.1), (.int .i64 e79.2.2.2.2.2)]), (3, .rw (r16.2.map eI)), (2, .rw (r16.1.map e_L1I)), (1, .tail 2 1), (0, .rw [(.int .i64 0), (.int .i64 0), (.int .i64 0), (.int .i64 0), (.int .i64 0), (.int .i64 0)])]) rfl (nl rfl) rfl rfl), ?_⟩
                obtain ⟨r86, h87, h81⟩ := obnd_some h81;refine pw_join (ρ := (List ((List Int)))) (fun e => ⟨[(4, (.pointer (some ⟨0, 0, none⟩))), (9, (.slice (some ⟨2, 0, none⟩) ((y8.map eI).length : Int).toNat 1)), (10, (.slice (some ⟨3, 0, none⟩) ((y8.map eI).length : Int).toNat 1)), (18, (.pointer (some ⟨4, 0, none⟩))), (20, (.int .i64 x84)), (21, (.slice (some ⟨5, 0, none⟩) (((y8.map eI).length : Int).toNat : Int).toNat 1)), (111, (VS 1 (y8.map eI))), (112, (.int .i64 ((y8.map eI).length : Int))), (113, (.int .i64 e79.1))], ⟨6, [(5, .rw (e.map e_L1I)), (4, .rw [(.int .i64 y72), (.int .i64 e79.2.1), (.int .i64 e79.2.2.1), (.int .i64 e79.2.2.2.1), (.int .i64 e79.2.2.2.2.1), (.int .i64 e79.2.2.2.2.2)]), (3, .rw (r16.2.map eI)), (2, .rw (r16.1.map e_L1I)), (1, .tail 2 1), (0, .rw [(.int .i64 0), (.int .i64 0), (.int .i64 0), (.int .i64 0), (.int .i64 0), (.int .i64 0)])], false⟩⟩) r86 ?_ ?_
                · refine pwa ?_;(conv=>whnf);refine pw_block ?_;refine pw_loop (τ := Int × (List ((List Int)))) (fun e => ⟨[(4, (.pointer (some ⟨0, 0, none⟩))), (9, (.slice (some ⟨2, 0, none⟩) ((y8.map eI).length : Int).toNat 1)), (10, (.slice (some ⟨3, 0, none⟩) ((y8.map eI).length : Int).toNat 1)), (18, (.pointer (some ⟨4, 0, none⟩))), (19, (.int .i64 e79.1)), (20, (.int .i64 x84)), (21, (.slice (some ⟨5, 0, none⟩) (((y8.map eI).length : Int).toNat : Int).toNat 1)), (111, (VS 1 (y8.map eI))), (112, (.int .i64 ((y8.map eI).length : Int))), (113, (.int .i64 e79.1)), (121, (.slice (some ⟨2, 0, none⟩) ((y8.map eI).length : Int).toNat 1)), (122, (.int .i64 (((y8.map eI).length : Int).toNat : Int))), (123, (.int .i64 e.1))], ⟨6, [(5, .rw (e.2.map e_L1I)), (4, .rw [(.int .i64 y72), (.int .i64 e79.2.1), (.int .i64 e79.2.2.1), (.int .i64 e79.2.2.2.1), (.int .i64 e79.2.2.2.2.1), (.int .i64 e79.2.2.2.2.2)]), (3, .rw (r16.2.map eI)), (2, .rw (r16.1.map e_L1I)), (1, .tail 2 1), (0, .rw [(.int .i64 0), (.int .i64 0), (.int .i64 0), (.int .i64 0), (.int .i64 0), (.int .i64 0)])], false⟩⟩) h87 ?_ (fun _ => nl rfl) ?_
                  · exact .sub' (nl rfl) (.cons rfl (.cons rfl (.cons rfl (.cons rfl (.cons rfl (.cons rfl (.cons rfl (.cons rfl (.cons rfl (.cons rfl (.cons rfl (.cons rfl (.cons rfl .nil)))))))))))))
                  · intro e90 x91 h92;refine pwa ?_;(conv=>whnf);refine pw_seq ?_;refine pw_cond ?_;(conv=>whnf);refine pbr_oite h92 (fun g93 h92 => ?_) (fun g93 h92 => ?_)
                    · (conv=>whnf);refine pw_skip ?_;(conv=>whnf);refine pw_seq ?_;refine pw_block ?_;refine pwa ?_;(conv=>whnf);refine pbr_ogrd h92 (fun g94 h92 => ?_);(conv=>whnf);refine pbr_t g93 ?_;(conv=>whnf);refine nth_a (l := r16.1) (f := e_L1I) h92 (fun x95 h96 h92 => ?_);(conv=>whnf);refine pwa ?_;(conv=>whnf);obtain ⟨y98, h99, h92⟩ := obnd_some h92;refine ICalls.goN (f := eI) (c73 h99) (.cons (.refl _) .nil) ?_;(conv=>whnf);refine pbr_t g94 ?_;(conv=>whnf);refine pbr_ogrd h92 (fun g100 h92 => ?_);(conv=>whnf);obtain ⟨g101, h92⟩ := ogrd_some h92;refine set_h (l := e90.2) (f := e_L1I) g101 rfl ?_
                      (conv=>whnf);refine pw_draw ?_;(conv=>whnf);refine pbr_t g94 ?_;(conv=>whnf);refine pbr_t g100 ?_;(conv=>whnf);refine nth_h g101 ?_;(conv=>whnf);refine pbr_t g94 ?_;(conv=>whnf);refine pbr_t g93 ?_;(conv=>whnf);refine nth_a (l := r16.2) (f := eI) h92 (fun x102 h103 h92 => ?_);(conv=>whnf);refine pbr_t g83 ?_;(conv=>whnf);refine pbr_ogrd h92 (fun g105 h92 => ?_);(conv=>whnf);refine ⟨?_, trivial⟩;(conv=>whnf);obtain ⟨g106, h92⟩ := ogrd_some h92;refine set_a (l := y98) (f := eI) (x := x102) g106 rfl ?_;(conv=>whnf);refine ⟨by repeat (first | exact trivial | refine And.intro rfl ?_ | refine And.intro (lev_h (l := e90.2) (f := e_L1I) rfl g101) ?_ | refine And.intro (lev_a (l := r16.2) (f := eI) rfl h103) ?_), ?_⟩
                      (conv=>whnf);refine pw_ops ?_;refine po_all ?_;(conv=>whnf);obtain ⟨g107, h92⟩ := ogrd_some h92;cases h92;refine ⟨_, rfl, ?_⟩;exact Recast.fz (fun b => Nat.beq b 6) (nl rfl) (.cons (.hole rfl (nl rfl) rfl (.slm rfl rfl g107 (fun _ => rfl)) (fun _ => rfl)) (.cons (.same rfl rfl (OBnd.rwl (nl rfl) rfl (.cons .cl (.cons .cl (.cons .cl (.cons .cl (.cons .cl (.cons .cl .nil)))))))) (.cons (.same rfl rfl (OBnd.rwc (nl rfl) (oneL_map fun _ => rfl))) (.cons (.same rfl rfl (OBnd.rwc (nl rfl) (oneL_map fun _ => rfl))) (.cons (.same rfl rfl (OBnd.tail (nl rfl))) (.cons (.same rfl rfl (OBnd.rwl (nl rfl) rfl (.cons .cl (.cons .cl (.cons .cl (.cons .cl (.cons .cl (.cons .cl .nil)))))))) .nil)))))) (.cons rfl (.same _ (.ptr (nl rfl))) (.cons rfl (.same _ (.slice (nl rfl))) (.cons rfl (.same _ (.slice (nl rfl))) (.cons rfl (.same _ (.ptr (nl rfl))) (.cons rfl (.same _ .cl) (.cons rfl (.same _ .cl) (.cons rfl (.same _ (.slice (nl rfl))) (.cons rfl (.same _ .cl) (.cons rfl (.same _ .cl) (.cons rfl (.same _ .cl) (.cons rfl (.same _ (.slice (nl rfl))) (.cons rfl (.same _ .cl) (.cons rfl (.same _ .cl) .nil)))))))))))))
                    · (conv=>whnf);refine pw_exit ?_;(conv=>whnf);cases h92;refine ⟨_, rfl, ?_⟩; rintro rfl;(conv=>whnf);exact ⟨(.cons rfl (.cons rfl (.cons rfl (.cons rfl (.cons rfl (.cons rfl (.cons rfl (.cons rfl (.cons rfl .nil))))))))), rfl⟩
                · refine pw_ops ?_;refine po_all ?_;(conv=>whnf);obtain ⟨g109, h81⟩ := ogrd_some h81;obtain ⟨y110, h111, h81⟩ := obnd_some h81;refine ICalls.goD (c96 h111) (.cons (.slm rfl g109 (fun _ => rfl)) .nil) rfl ?_;(conv=>whnf);refine pbr_ogrd h81 (fun g112 h81 => ?_);(conv=>whnf);refine pbr_ogrd h81 (fun g113 h81 => ?_);(conv=>whnf);refine set_d (f := eI) [(.int .i64 y72)] [] [e79.2.1, e79.2.2.1, e79.2.2.2.1, e79.2.2.2.2.1, e79.2.2.2.2.2] (x := y110) (i := x84) (off := 1) rfl rfl rfl g112 g113 rfl ?_;(conv=>whnf);refine pw_ops ?_;refine po_all ?_;(conv=>whnf);cases h81;refine ⟨_, rfl, ?_⟩;exact Recast.fz (fun _ => false) (nl rfl) (.cons (.same rfl rfl (OBnd.rwl (nl rfl) rfl (.cons .cl (.cons .cl (.cons .cl (.cons .cl (.cons .cl (.cons .cl .nil)))))))) (.cons (.same rfl rfl (OBnd.rwc (nl rfl) (oneL_map fun _ => rfl))) (.cons (.same rfl rfl (OBnd.rwc (nl rfl) (oneL_map fun _ => rfl))) (.cons (.same rfl rfl (OBnd.tail (nl rfl))) (.cons (.same rfl rfl (OBnd.rwl (nl rfl) rfl (.cons .cl (.cons .cl (.cons .cl (.cons .cl (.cons .cl (.cons .cl .nil)))))))) .nil))))) (.cons rfl (.same _ (.ptr (nl rfl))) (.cons rfl (.same _ (.slice (nl rfl))) (.cons rfl (.same _ (.slice (nl rfl))) (.cons rfl (.same _ (.ptr (nl rfl))) (.cons rfl (.same _ .cl) (.cons rfl (.same _ .cl) (.cons rfl (.same _ .cl) .nil)))))))
              · (conv=>whnf);refine pw_exit ?_;(conv=>whnf);cases h81;refine ⟨_, rfl, ?_⟩; rintro rfl;(conv=>whnf);exact ⟨(.cons rfl (.cons rfl .nil)), rfl⟩
          · refine pwa ?_;(conv=>whnf);obtain ⟨y115, h116, H⟩ := obnd_some H;refine (c97 h116).go ?_;(conv=>whnf);refine pwa ?_;(conv=>whnf);refine pbr_ogrdn H (fun g117 H => ?_);(conv=>whnf);obtain ⟨r118, h119, H⟩ := obnd_some H;refine pw_join (ρ := Unit) (fun e => ⟨[(4, (.pointer (some ⟨0, 0, none⟩))), (18, (.pointer (some ⟨4, 0, none⟩)))], ⟨5, [(4, .rw [(.int .i64 (IntKind.i64.wrap (y72.tdiv y115))), (.int .i64 (IntKind.i64.wrap (r75.1.tdiv y115))), (.int .i64 (IntKind.i64.wrap (r75.2.1.tdiv y115))), (.int .i64 (IntKind.i64.wrap (r75.2.2.1.tdiv y115))), (.int .i64 (IntKind.i64.wrap (r75.2.2.2.1.tdiv y115))), (.int .i64 (IntKind.i64.wrap (r75.2.2.2.2.tdiv y115)))]), (3, .rw (r16.2.map eI)), (2, .rw (r16.1.map e_L1I)), (1, .tail 2 1), (0, .rw [(.int .i64 0), (.int .i64 0), (.int .i64 0), (.int .i64 0), (.int .i64 0), (.int .i64 0)])], false⟩⟩) r118 ?_ ?_
            · refine pwa ?_;(conv=>whnf);refine pw_block ?_;refine pw_unroll 6 ?_;(conv=>whnf);refine pwa ?_;(conv=>whnf);refine pw_seq ?_;refine pw_cond ?_;(conv=>whnf);refine pw_skip ?_;(conv=>whnf);refine pw_seq ?_;refine pw_block ?_;refine pwa ?_;(conv=>whnf);refine pw_ops ?_;refine po_all ?_;(conv=>whnf);refine pbr_f g117 ?_;(conv=>whnf);refine pw_ops ?_;refine po_all ?_;(conv=>whnf);refine ⟨_, .refl, nl rfl, ?_⟩;(conv=>whnf);refine pwa ?_;(conv=>whnf);refine pw_seq ?_;refine pw_cond ?_;(conv=>whnf);refine pw_skip ?_;(conv=>whnf)
              refine pw_seq ?_;refine pw_block ?_;refine pwa ?_;(conv=>whnf);refine pw_ops ?_;refine po_all ?_;(conv=>whnf);refine pbr_f g117 ?_;(conv=>whnf);refine pw_ops ?_;refine po_all ?_;(conv=>whnf);refine ⟨_, .refl, nl rfl, ?_⟩;(conv=>whnf);refine pwa ?_;(conv=>whnf);refine pw_seq ?_;refine pw_cond ?_;(conv=>whnf);refine pw_skip ?_;(conv=>whnf);refine pw_seq ?_;refine pw_block ?_;refine pwa ?_;(conv=>whnf);refine pw_ops ?_;refine po_all ?_;(conv=>whnf);refine pbr_f g117 ?_;(conv=>whnf);refine pw_ops ?_;refine po_all ?_;(conv=>whnf);refine ⟨_, .refl, nl rfl, ?_⟩
              (conv=>whnf);refine pwa ?_;(conv=>whnf);refine pw_seq ?_;refine pw_cond ?_;(conv=>whnf);refine pw_skip ?_;(conv=>whnf);refine pw_seq ?_;refine pw_block ?_;refine pwa ?_;(conv=>whnf);refine pw_ops ?_;refine po_all ?_;(conv=>whnf);refine pbr_f g117 ?_;(conv=>whnf);refine pw_ops ?_;refine po_all ?_;(conv=>whnf);refine ⟨_, .refl, nl rfl, ?_⟩;(conv=>whnf);refine pwa ?_;(conv=>whnf);refine pw_seq ?_;refine pw_cond ?_;(conv=>whnf);refine pw_skip ?_;(conv=>whnf);refine pw_seq ?_;refine pw_block ?_;refine pwa ?_;(conv=>whnf)
              refine pw_ops ?_;refine po_all ?_;(conv=>whnf);refine pbr_f g117 ?_;(conv=>whnf);refine pw_ops ?_;refine po_all ?_;(conv=>whnf);refine ⟨_, .refl, nl rfl, ?_⟩;(conv=>whnf);refine pwa ?_;(conv=>whnf);refine pw_seq ?_;refine pw_cond ?_;(conv=>whnf);refine pw_exit ?_;(conv=>whnf);cases h119;exact ⟨(.cons rfl (.cons rfl .nil)), rfl⟩
            · refine pw_seq ?_;refine pwa ?_;(conv=>whnf);obtain ⟨y122, h123, H⟩ := obnd_some H;refine (c98 h123).go ?_;(conv=>whnf);refine pw_cond ?_;(conv=>whnf);refine pbr_oite H (fun g124 H => ?_) (fun g124 H => ?_)
              · (conv=>whnf);refine pwa ?_;(conv=>whnf);refine pw_ret ?_;(conv=>whnf);cases H; rfl
              · (conv=>whnf);refine pw_skip ?_;(conv=>whnf);refine pwa ?_;(conv=>whnf);refine pw_ret ?_;(conv=>whnf);cases H; rfl

/-- guidevane/dam.given -/
noncomputable def f117 [LO]  (a0 : Int) (a1 : Int) (a2 : Int) (a3 : Int) (a4 : Int) (a5 : Int) (a6 : Int) (a7 : Int) (a8 : Int) (a9 : List Int) : Option Int :=
 obnd (f77 a6 a7 a8) fun (y1 : Int × Int × Int × Int × Int) =>
 obnd (
 oloop (τ := Int × Int) (ρ := Int) (fun e7 =>
 oite ((ilt e7.2 ((a9.map eI).length : Int))) (
 ogrd ((ile 0 e7.2)) (
 obnd (a9[e7.2.toNat]?) fun (x12 : Int) =>
 ogrd ((ile 0 x12)) (
 ogrd ((ilt x12 5)) (
 obnd (([a0, a1, a2, a3, a4, a5] : List Int)[(1 + x12.toNat * 1)]?) fun (x15 : Int) =>
 obnd (([y1.1, y1.2.1, y1.2.2.1, y1.2.2.2.1, y1.2.2.2.2] : List Int)[(0 + x12.toNat * 1)]?) fun (x16 : Int) =>
 some (.inl (((IntKind.i64.wrap (e7.1 + (IntKind.i64.wrap (x15 * x16)))), (IntKind.i64.wrap (e7.2 + (1 : Int)))))))))
 ) (
 some (.inr (e7.1)))
 ) (((0 : Int), (0 : Int)))
 ) fun (r3 : Int) =>
 some r3
set_option maxHeartbeats 1000000 in
theorem c117 [LO]  {a0 : Int} {a1 : Int} {a2 : Int} {a3 : Int} {a4 : Int} {a5 : Int} {a6 : Int} {a7 : Int} {a8 : Int} {a9 : List Int} {x : Int} (H : f117 a0 a1 a2 a3 a4 a5 a6 a7 a8 a9 = some x) : ICalls E 117 [(.agg ⟨[(.int .i64 a0), (.int .i64 a1), (.int .i64 a2), (.int .i64 a3), (.int .i64 a4), (.int .i64 a5)]⟩), (.agg ⟨[(.int .i64 a6), (.int .i64 a7), (.int .i64 a8)]⟩), (VS 1 (a9.map eI))] AHeap.none fun v _ => v = (.int .i64 x) := by
  refine icalls_fn (pfnw ?_); unfold f117 at H;(conv=>whnf);refine pwa ?_;(conv=>whnf);refine pwa ?_;(conv=>whnf);refine pwa ?_;(conv=>whnf);obtain ⟨y1, h2, H⟩ := obnd_some H;refine (c77 h2).go ?_;(conv=>whnf);obtain ⟨r3, h4, H⟩ := obnd_some H;refine pw_join (ρ := Int) (fun e => ⟨[(7, (.int .i64 e))], ⟨3, [(2, .rw [(.int .i64 y1.1), (.int .i64 y1.2.1), (.int .i64 y1.2.2.1), (.int .i64 y1.2.2.2.1), (.int .i64 y1.2.2.2.2)]), (1, .rw [(.int .i64 a6), (.int .i64 a7), (.int .i64 a8)]), (0, .rw [(.int .i64 a0), (.int .i64 a1), (.int .i64 a2), (.int .i64 a3), (.int .i64 a4), (.int .i64 a5)])], false⟩⟩) r3 ?_ ?_
  · refine pwa ?_;(conv=>whnf);refine pw_block ?_;refine pw_loop (τ := Int × Int) (fun e => ⟨[(3, (.pointer (some ⟨0, 0, none⟩))), (7, (.int .i64 e.1)), (8, (.pointer (some ⟨2, 0, none⟩))), (13, (VS 1 (a9.map eI))), (14, (.int .i64 ((a9.map eI).length : Int))), (15, (.int .i64 e.2))], ⟨3, [(2, .rw [(.int .i64 y1.1), (.int .i64 y1.2.1), (.int .i64 y1.2.2.1), (.int .i64 y1.2.2.2.1), (.int .i64 y1.2.2.2.2)]), (1, .rw [(.int .i64 a6), (.int .i64 a7), (.int .i64 a8)]), (0, .rw [(.int .i64 a0), (.int .i64 a1), (.int .i64 a2), (.int .i64 a3), (.int .i64 a4), (.int .i64 a5)])], false⟩⟩) h4 ?_ (fun _ => nl rfl) ?_
    · exact .sub' (nl rfl) (.cons rfl (.cons rfl (.cons rfl (.cons rfl (.cons rfl (.cons rfl .nil))))))
    · intro e7 x8 h9;refine pwa ?_;(conv=>whnf);refine pw_seq ?_;refine pw_cond ?_;(conv=>whnf);refine pbr_oite h9 (fun g10 h9 => ?_) (fun g10 h9 => ?_)
      · (conv=>whnf);refine pw_skip ?_;(conv=>whnf);refine pw_seq ?_;refine pw_block ?_;refine pwa ?_;(conv=>whnf);refine pbr_ogrd h9 (fun g11 h9 => ?_);(conv=>whnf);refine nth_o (l := a9) h9 (fun x12 _ h9 => ?_);(conv=>whnf);refine pw_draw ?_;(conv=>whnf);refine pbr_ogrd h9 (fun g13 h9 => ?_);(conv=>whnf);refine pbr_ogrd h9 (fun g14 h9 => ?_);(conv=>whnf);refine nth_o (f := eI) (l := ([a0, a1, a2, a3, a4, a5] : List Int)) h9 (fun x15 _ h9 => ?_);(conv=>whnf);refine pbr_t g13 ?_;(conv=>whnf);refine pbr_t g14 ?_;(conv=>whnf);refine nth_o (f := eI) (l := ([y1.1, y1.2.1, y1.2.2.1, y1.2.2.2.1, y1.2.2.2.2] : List Int)) h9 (fun x16 _ h9 => ?_)
        (conv=>whnf);refine ⟨?_, trivial⟩;(conv=>whnf);refine ⟨by repeat (first | exact trivial | refine And.intro rfl ?_), ?_⟩;(conv=>whnf);refine pw_ops ?_;refine po_all ?_;(conv=>whnf);cases h9;refine ⟨_, rfl, ?_⟩;exact .sub' (nl rfl) (.cons rfl (.cons rfl (.cons rfl (.cons rfl (.cons rfl (.cons rfl .nil))))))
      · (conv=>whnf);refine pw_exit ?_;(conv=>whnf);cases h9;refine ⟨_, rfl, ?_⟩; rintro rfl;(conv=>whnf);exact ⟨(.cons rfl .nil), rfl⟩
  · refine pwa ?_;(conv=>whnf);refine pw_ret ?_;(conv=>whnf);cases H; rfl

/-- guidevane/dam.whole -/
noncomputable def f102 [LO]  (a0 : Int) (a1 : Int) (a2 : Int) (a3 : Int) (a4 : Int) (a5 : Int) (a6 : Int) (a7 : Int) (a8 : Int) : Option Int :=
 obnd (f95 (31 : Int)) fun (y1 : (List Int)) =>
 obnd (f117 a0 a1 a2 a3 a4 a5 a6 a7 a8 y1) fun (y3 : Int) =>
 some y3
set_option maxHeartbeats 1000000 in
theorem c102 [LO]  {a0 : Int} {a1 : Int} {a2 : Int} {a3 : Int} {a4 : Int} {a5 : Int} {a6 : Int} {a7 : Int} {a8 : Int} {x : Int} (H : f102 a0 a1 a2 a3 a4 a5 a6 a7 a8 = some x) : ICalls E 102 [(.agg ⟨[(.int .i64 a0), (.int .i64 a1), (.int .i64 a2), (.int .i64 a3), (.int .i64 a4), (.int .i64 a5)]⟩), (.agg ⟨[(.int .i64 a6), (.int .i64 a7), (.int .i64 a8)]⟩)] AHeap.none fun v _ => v = (.int .i64 x) := by
  refine icalls_fn (pfnw ?_); unfold f102 at H;(conv=>whnf);refine pwa ?_;(conv=>whnf);refine pw_sd ?_;(conv=>whnf);refine ⟨?_, trivial⟩;(conv=>whnf);obtain ⟨y1, h2, H⟩ := obnd_some H;refine (c95 h2).go ?_;(conv=>whnf);refine ⟨by repeat (first | exact trivial | refine And.intro rfl ?_), ?_⟩;(conv=>whnf);refine ⟨?_, trivial⟩;(conv=>whnf);obtain ⟨y3, h4, H⟩ := obnd_some H;refine (c117 h4).go ?_;(conv=>whnf);refine ⟨by repeat (first | exact trivial | refine And.intro rfl ?_), ?_⟩;(conv=>whnf);refine pw_ret ?_;(conv=>whnf);cases H; rfl

/-- guidevane/dam.rounded -/
noncomputable def f101  (a0 : Int) (a1 : Int) : Option (Int × Int) :=
 ogrd (!((ieq a1 0))) (
 obnd (
 oite ((ilt (a0.tmod a1) (0 : Int))) (
 some (IntKind.i64.wrap ((IntKind.i64.wrap (a0.tdiv a1)) - (1 : Int)))
 ) (
 some (IntKind.i64.wrap (a0.tdiv a1)))
 ) fun (r2 : Int) =>
 obnd (
 oite ((!(ieq (IntKind.i64.wrap (r2 * a1)) a0))) (
 some (IntKind.i64.wrap (r2 + (1 : Int)))
 ) (
 some r2)
 ) fun (r7 : Int) =>
 some (r2, r7))
set_option maxHeartbeats 1000000 in
theorem c101  {a0 : Int} {a1 : Int} {x : Int × Int} (H : f101 a0 a1 = some x) : ICalls E 101 [(.int .i64 a0), (.int .i64 a1)] AHeap.none fun v _ => v = (.agg ⟨[(.int .i64 x.1), (.int .i64 x.2)]⟩) := by
  refine icalls_fn (pfnw ?_); unfold f101 at H;(conv=>whnf);refine pwa ?_;(conv=>whnf);refine pwa ?_;(conv=>whnf);refine pbr_ogrdn H (fun g1 H => ?_);(conv=>whnf);obtain ⟨r2, h3, H⟩ := obnd_some H;refine pw_join (ρ := Int) (fun e => ⟨[(0, (.int .i64 a0)), (1, (.int .i64 a1)), (4, (.pointer (some ⟨0, 0, none⟩))), (5, (.int .i64 e))], ⟨1, [(0, .rw [(.int .i64 0), (.int .i64 0)])], false⟩⟩) r2 ?_ ?_
  · refine pwa ?_;(conv=>whnf);refine pbr_f g1 ?_;(conv=>whnf);refine pw_cond ?_;(conv=>whnf);refine pbr_oite h3 (fun g6 h3 => ?_) (fun g6 h3 => ?_)
    · (conv=>whnf);refine pw_ops ?_;refine po_all ?_;(conv=>whnf);cases h3;exact ⟨(.cons rfl (.cons rfl (.cons rfl (.cons rfl .nil)))), rfl⟩
    · (conv=>whnf);refine pw_skip ?_;(conv=>whnf);cases h3;exact ⟨(.cons rfl (.cons rfl (.cons rfl (.cons rfl .nil)))), rfl⟩
  · refine pwa ?_;(conv=>whnf);obtain ⟨r7, h8, H⟩ := obnd_some H;refine pw_join (ρ := Int) (fun e => ⟨[(4, (.pointer (some ⟨0, 0, none⟩))), (5, (.int .i64 r2)), (6, (.int .i64 e))], ⟨1, [(0, .rw [(.int .i64 0), (.int .i64 0)])], false⟩⟩) r7 ?_ ?_
    · refine pwa ?_;(conv=>whnf);refine pw_cond ?_;(conv=>whnf);refine pbr_oite h8 (fun g11 h8 => ?_) (fun g11 h8 => ?_)
      · (conv=>whnf);refine pw_ops ?_;refine po_all ?_;(conv=>whnf);cases h8;exact ⟨(.cons rfl (.cons rfl (.cons rfl .nil))), rfl⟩
      · (conv=>whnf);refine pw_skip ?_;(conv=>whnf);cases h8;exact ⟨(.cons rfl (.cons rfl (.cons rfl .nil))), rfl⟩
    · refine pwa ?_;(conv=>whnf);refine pw_ret ?_;(conv=>whnf);cases H; rfl

/-- guidevane/dam.residuals -/
noncomputable def f99 [LO]  (a0 : List (Int × Int × Int)) (a1 : Int) (a2 : Int) (a3 : Int) (a4 : Int) (a5 : Int) (a6 : Int) : Option ((List (Int × Int))) :=
 obnd (
 oloop (τ := (List (Int × Int)) × Int) (ρ := (List (Int × Int))) (fun e5 =>
 oite ((ilt e5.2 ((a0.map e_III).length : Int))) (
 ogrd ((ile 0 e5.2)) (
 obnd (a0[e5.2.toNat]?) fun (x10 : Int × Int × Int) =>
 obnd (f102 a1 a2 a3 a4 a5 a6 x10.1 x10.2.1 x10.2.2) fun (y11 : Int) =>
 obnd (f101 (IntKind.i64.wrap ((IntKind.i64.wrap (a1 * x10.2.2)) - y11)) a1) fun (y13 : Int × Int) =>
 ogrd (fits 16 (e5.1.length + ([(y13.1, y13.2)] : List (Int × Int)).length)) (
 some (.inl (((e5.1 ++ ([(y13.1, y13.2)] : List (Int × Int))), (IntKind.i64.wrap (e5.2 + (1 : Int))))))))
 ) (
 some (.inr (e5.1)))
 ) ((([] : List (Int × Int)), (0 : Int)))
 ) fun (r1 : (List (Int × Int))) =>
 some r1
set_option maxHeartbeats 1000000 in
theorem c99 [LO]  {a0 : List (Int × Int × Int)} {a1 : Int} {a2 : Int} {a3 : Int} {a4 : Int} {a5 : Int} {a6 : Int} {x : (List (Int × Int))} (H : f99 a0 a1 a2 a3 a4 a5 a6 = some x) : ICalls E 99 [(VS 3 (a0.map e_III)), (.agg ⟨[(.int .i64 a1), (.int .i64 a2), (.int .i64 a3), (.int .i64 a4), (.int .i64 a5), (.int .i64 a6)]⟩)] AHeap.none fun v _ => v = (VS 2 (x.map e_II)) := by
  refine ICalls.frz ?_;refine icalls_fn (pfnw ?_); unfold f99 at H;(conv=>whnf);refine pwa ?_;(conv=>whnf);refine pwa ?_;(conv=>whnf);obtain ⟨r1, h2, H⟩ := obnd_some H;refine pw_join (ρ := (List (Int × Int))) (fun e => ⟨[(5, (VT 2 (e.map e_II) 1))], ⟨2, [(1, .tail (e.map e_II).length 2), (0, .rw [(.int .i64 a1), (.int .i64 a2), (.int .i64 a3), (.int .i64 a4), (.int .i64 a5), (.int .i64 a6)])], false⟩⟩) r1 ?_ ?_
  · refine pwa ?_;(conv=>whnf);refine pw_block ?_;refine pw_loop (τ := (List (Int × Int)) × Int) (fun e => ⟨[(3, (.pointer (some ⟨0, 0, none⟩))), (5, (VT 2 (e.1.map e_II) 1)), (8, (VS 3 (a0.map e_III))), (9, (.int .i64 ((a0.map e_III).length : Int))), (10, (.int .i64 e.2))], ⟨2, [(1, .tail (e.1.map e_II).length 2), (0, .rw [(.int .i64 a1), (.int .i64 a2), (.int .i64 a3), (.int .i64 a4), (.int .i64 a5), (.int .i64 a6)])], false⟩⟩) h2 ?_ (fun _ => nl rfl) ?_
    · exact (Recast.nilTs 2 (nl rfl) (.same rfl (.turn rfl (.same rfl (.same rfl (.same rfl .nil))))))
    · intro e5 x6 h7;refine pwa ?_;(conv=>whnf);refine pw_seq ?_;refine pw_cond ?_;(conv=>whnf);refine pbr_oite h7 (fun g8 h7 => ?_) (fun g8 h7 => ?_)
      · (conv=>whnf);refine pw_skip ?_;(conv=>whnf);refine pw_seq ?_;refine pw_block ?_;refine pwa ?_;(conv=>whnf);refine pbr_ogrd h7 (fun g9 h7 => ?_);(conv=>whnf);refine nth_o (l := a0) h7 (fun x10 _ h7 => ?_);(conv=>whnf);refine pw_draw ?_;(conv=>whnf);refine ⟨?_, trivial⟩;(conv=>whnf);obtain ⟨y11, h12, h7⟩ := obnd_some h7;refine (c102 h12).go ?_;(conv=>whnf);refine ⟨by repeat (first | exact trivial | refine And.intro rfl ?_), ?_⟩;(conv=>whnf);refine ⟨?_, trivial⟩;(conv=>whnf);obtain ⟨y13, h14, h7⟩ := obnd_some h7;refine (c101 h14).go ?_;(conv=>whnf);refine ⟨by repeat (first | exact trivial | refine And.intro rfl ?_), ?_⟩
        (conv=>whnf);refine ⟨?_, trivial⟩;(conv=>whnf);refine ⟨by repeat (first | exact trivial | refine And.intro rfl ?_), ?_⟩;(conv=>whnf);refine ⟨?_, trivial⟩;(conv=>whnf);refine app_o (l := e5.1) (m := ([(y13.1, y13.2)] : List (Int × Int))) (f := e_II) h7 (by rfl) (by rfl) (by rfl) (fun h7 => ?_);(conv=>whnf);refine ⟨by repeat (first | exact trivial | refine And.intro rfl ?_), ?_⟩;(conv=>whnf);refine ⟨?_, trivial⟩;(conv=>whnf);refine ⟨by repeat (first | exact trivial | refine And.intro rfl ?_), ?_⟩;(conv=>whnf);refine pw_ops ?_;refine po_all ?_;(conv=>whnf);cases h7;refine ⟨_, rfl, ?_⟩;refine Recast.trunc (nl rfl) ?_ ?_
        · repeat (first | exact .nil | refine .cons rfl (by first | exact OBnd.rwc (nl rfl) rfl | exact OBnd.tail (nl rfl) | trivial) ?_)
        · repeat (first | exact .nil | refine .cons rfl (by first | exact Bnd.ptr (nl rfl) | exact Bnd.vt (nl rfl) | exact Bnd.cl) ?_)
      · (conv=>whnf);refine pw_exit ?_;(conv=>whnf);cases h7;refine ⟨_, rfl, ?_⟩; rintro rfl;(conv=>whnf);exact ⟨(.cons rfl .nil), rfl⟩
  · refine pwa ?_;(conv=>whnf);refine pw_ret ?_;(conv=>whnf);cases H; show ∃ D, Fz _ D 0 (VT 2 _ 1) _;exact ⟨fun _ => false, .vtc⟩

/-- guidevane/dam.ResidualsOf -/
noncomputable def f56 [LO]  (a0 : List (Int × Int × Int)) (a1 : Int) (a2 : Int) (a3 : Int) (a4 : Int) (a5 : Int) (a6 : Int) : Option ((List (Int × Int)) × Int) :=
 obnd (f93 a0) fun (y1 : Int) =>
 obnd (f98 a1 a2 a3 a4 a5 a6) fun (y3 : Int) =>
 obnd (f63 ([y1, y3] : List Int)) fun (y5 : Int) =>
 oite ((!(ieq y5 (0 : Int)))) (
 some (([] : List (Int × Int)), y5)
 ) (
 obnd (f99 a0 a1 a2 a3 a4 a5 a6) fun (y8 : (List (Int × Int))) =>
 some (y8, (0 : Int)))
set_option maxHeartbeats 1000000 in
theorem c56 [LO]  {a0 : List (Int × Int × Int)} {a1 : Int} {a2 : Int} {a3 : Int} {a4 : Int} {a5 : Int} {a6 : Int} {x : (List (Int × Int)) × Int} (H : f56 a0 a1 a2 a3 a4 a5 a6 = some x) : ICalls E 56 [(VS 3 (a0.map e_III)), (.agg ⟨[(.int .i64 a1), (.int .i64 a2), (.int .i64 a3), (.int .i64 a4), (.int .i64 a5), (.int .i64 a6)]⟩)] AHeap.none fun v _ => v = (.tuple ⟨[(VS 2 (x.1.map e_II)), (.int .i64 x.2)]⟩) := by
  refine ICalls.frz ?_;refine icalls_fn (pfnw ?_); unfold f56 at H;(conv=>whnf);refine pwa ?_;(conv=>whnf);refine pw_seq ?_;refine pw_sd ?_;(conv=>whnf);refine ⟨?_, trivial⟩;(conv=>whnf);obtain ⟨y1, h2, H⟩ := obnd_some H;refine (c93 h2).go ?_;(conv=>whnf);refine ⟨by repeat (first | exact trivial | refine And.intro rfl ?_), ?_⟩;(conv=>whnf);refine ⟨?_, trivial⟩;(conv=>whnf);obtain ⟨y3, h4, H⟩ := obnd_some H;refine (c98 h4).go ?_;(conv=>whnf);refine ⟨by repeat (first | exact trivial | refine And.intro rfl ?_), ?_⟩;(conv=>whnf);refine ⟨?_, trivial⟩;(conv=>whnf);refine ⟨by repeat (first | exact trivial | refine And.intro rfl ?_), ?_⟩
  (conv=>whnf);refine ⟨?_, trivial⟩;(conv=>whnf);obtain ⟨y5, h6, H⟩ := obnd_some H;refine ICalls.goW (c63 h6) (.cons (.vt _ _ _) .nil) ?_;(conv=>whnf);refine ⟨by repeat (first | exact trivial | refine And.intro rfl ?_), ?_⟩;(conv=>whnf);refine pwa ?_;(conv=>whnf);refine pw_cond ?_;(conv=>whnf);refine pbr_oite H (fun g7 H => ?_) (fun g7 H => ?_)
  · (conv=>whnf);refine pwa ?_;(conv=>whnf);refine pw_ret ?_;(conv=>whnf);cases H; show ∃ D, Fz _ D 0 (.tuple ⟨[(.slice none 0 0), (.int .i64 y5)]⟩) _;exact ⟨fun _ => false, .tuplel (.cons (.nil _) (.cons .cl (.nil)))⟩
  · (conv=>whnf);refine pw_skip ?_;(conv=>whnf);refine pwa ?_;(conv=>whnf);obtain ⟨y8, h9, H⟩ := obnd_some H;refine (c99 h9).go ?_;(conv=>whnf);refine pw_ret ?_;(conv=>whnf);cases H; show ∃ D, Fz _ D 0 (.tuple ⟨[(VS 2 _), (.int .i64 0)]⟩) _;exact ⟨fun _ => false, .tuplel (.cons .cl (.cons .cl (.nil)))⟩

/-- guidevane/dam.SpreadOf -/
noncomputable def f57 [LO]  (a0 : List (Int × Int × Int)) (a1 : Int) (a2 : Int) (a3 : Int) (a4 : Int) (a5 : Int) (a6 : Int) : Option (Int × Int) :=
 obnd (f56 a0 a1 a2 a3 a4 a5 a6) fun (y1 : (List (Int × Int)) × Int) =>
 obnd (
 oloop (τ := Int × Int) (ρ := Int) (fun e7 =>
 oite ((ilt e7.2 ((y1.1.map e_II).length : Int))) (
 ogrd ((ile 0 e7.2)) (
 obnd (y1.1[e7.2.toNat]?) fun (x12 : Int × Int) =>
 obnd (f100 x12.1) fun (y13 : Int) =>
 obnd (f100 x12.2) fun (y15 : Int) =>
 some (.inl (((imax (imax e7.1 y13) y15), (IntKind.i64.wrap (e7.2 + (1 : Int)))))))
 ) (
 some (.inr (e7.1)))
 ) (((0 : Int), (0 : Int)))
 ) fun (r3 : Int) =>
 some (r3, y1.2)
set_option maxHeartbeats 1000000 in
theorem c57 [LO]  {a0 : List (Int × Int × Int)} {a1 : Int} {a2 : Int} {a3 : Int} {a4 : Int} {a5 : Int} {a6 : Int} {x : Int × Int} (H : f57 a0 a1 a2 a3 a4 a5 a6 = some x) : ICalls E 57 [(VS 3 (a0.map e_III)), (.agg ⟨[(.int .i64 a1), (.int .i64 a2), (.int .i64 a3), (.int .i64 a4), (.int .i64 a5), (.int .i64 a6)]⟩)] AHeap.none fun v _ => v = (.tuple ⟨[(.int .i64 x.1), (.int .i64 x.2)]⟩) := by
  refine icalls_fn (pfnw ?_); unfold f57 at H;(conv=>whnf);refine pwa ?_;(conv=>whnf);refine pwa ?_;(conv=>whnf);obtain ⟨y1, h2, H⟩ := obnd_some H;refine (c56 h2).go ?_;(conv=>whnf);refine pwa ?_;(conv=>whnf);obtain ⟨r3, h4, H⟩ := obnd_some H;refine pw_join (ρ := Int) (fun e => ⟨[(7, (.int .i64 y1.2)), (8, (.int .i64 e))], ⟨1, [(0, .rw [(.int .i64 a1), (.int .i64 a2), (.int .i64 a3), (.int .i64 a4), (.int .i64 a5), (.int .i64 a6)])], false⟩⟩) r3 ?_ ?_
  · refine pwa ?_;(conv=>whnf);refine pw_block ?_;refine pw_loop (τ := Int × Int) (fun e => ⟨[(7, (.int .i64 y1.2)), (8, (.int .i64 e.1)), (17, (VS 2 (y1.1.map e_II))), (18, (.int .i64 ((y1.1.map e_II).length : Int))), (19, (.int .i64 e.2))], ⟨1, [(0, .rw [(.int .i64 a1), (.int .i64 a2), (.int .i64 a3), (.int .i64 a4), (.int .i64 a5), (.int .i64 a6)])], false⟩⟩) h4 ?_ (fun _ => nl rfl) ?_
    · exact .sub' (nl rfl) (.cons rfl (.cons rfl (.cons rfl (.cons rfl (.cons rfl .nil)))))
    · intro e7 x8 h9;refine pwa ?_;(conv=>whnf);refine pw_seq ?_;refine pw_cond ?_;(conv=>whnf);refine pbr_oite h9 (fun g10 h9 => ?_) (fun g10 h9 => ?_)
      · (conv=>whnf);refine pw_skip ?_;(conv=>whnf);refine pw_seq ?_;refine pw_block ?_;refine pwa ?_;(conv=>whnf);refine pbr_ogrd h9 (fun g11 h9 => ?_);(conv=>whnf);refine nth_o (l := y1.1) h9 (fun x12 _ h9 => ?_);(conv=>whnf);refine pw_draw ?_;(conv=>whnf);refine ⟨?_, trivial⟩;(conv=>whnf);obtain ⟨y13, h14, h9⟩ := obnd_some h9;refine (c100 h14).go ?_;(conv=>whnf);refine ⟨by repeat (first | exact trivial | refine And.intro rfl ?_), ?_⟩;(conv=>whnf);refine ⟨?_, trivial⟩;(conv=>whnf);obtain ⟨y15, h16, h9⟩ := obnd_some h9;refine (c100 h16).go ?_;(conv=>whnf);refine ⟨by repeat (first | exact trivial | refine And.intro rfl ?_), ?_⟩
        (conv=>whnf);refine ⟨?_, trivial⟩;(conv=>whnf);refine ⟨by repeat (first | exact trivial | refine And.intro rfl ?_), ?_⟩;(conv=>whnf);refine pw_ops ?_;refine po_all ?_;(conv=>whnf);cases h9;refine ⟨_, rfl, ?_⟩;refine Recast.trunc (nl rfl) ?_ ?_
        · repeat (first | exact .nil | refine .cons rfl (by first | exact OBnd.rwc (nl rfl) rfl | exact OBnd.tail (nl rfl) | trivial) ?_)
        · repeat (first | exact .nil | refine .cons rfl (by first | exact Bnd.ptr (nl rfl) | exact Bnd.vt (nl rfl) | exact Bnd.cl) ?_)
      · (conv=>whnf);refine pw_exit ?_;(conv=>whnf);cases h9;refine ⟨_, rfl, ?_⟩; rintro rfl;(conv=>whnf);exact ⟨(.cons rfl (.cons rfl .nil)), rfl⟩
  · refine pwa ?_;(conv=>whnf);refine pw_ret ?_;(conv=>whnf);cases H; rfl

/-- guidevane/dam.ForecastOf -/
noncomputable def f59 [LO]  (a0 : List (Int × Int × Int)) (a1 : Int) (a2 : Int) (a3 : Int) (a4 : Int) (a5 : Int) (a6 : Int) (a7 : Int) (a8 : Int) (a9 : Int) : Option (Int × Int × Int) :=
 obnd (f57 a0 a1 a2 a3 a4 a5 a6) fun (y1 : Int × Int) =>
 obnd (f33 a7 a8 a9) fun (y3 : Int) =>
 obnd (f63 ([y1.2, y3] : List Int)) fun (y5 : Int) =>
 oite ((!(ieq y5 (0 : Int)))) (
 some ((0 : Int), (0 : Int), y5)
 ) (
 obnd (
 obnd (f102 a1 a2 a3 a4 a5 a6 a7 a8 a9) fun (y12 : Int) =>
 obnd (f101 y12 a1) fun (y14 : Int × Int) =>
 some (y14.1, y14.2)
 ) fun (r8 : Int × Int) =>
 some ((IntKind.i64.wrap (r8.1 - y1.1)), (IntKind.i64.wrap (r8.2 + y1.1)), (0 : Int)))
set_option maxHeartbeats 1000000 in
theorem c59 [LO]  {a0 : List (Int × Int × Int)} {a1 : Int} {a2 : Int} {a3 : Int} {a4 : Int} {a5 : Int} {a6 : Int} {a7 : Int} {a8 : Int} {a9 : Int} {x : Int × Int × Int} (H : f59 a0 a1 a2 a3 a4 a5 a6 a7 a8 a9 = some x) : ICalls E 59 [(VS 3 (a0.map e_III)), (.agg ⟨[(.int .i64 a1), (.int .i64 a2), (.int .i64 a3), (.int .i64 a4), (.int .i64 a5), (.int .i64 a6)]⟩), (.agg ⟨[(.int .i64 a7), (.int .i64 a8), (.int .i64 a9)]⟩)] AHeap.none fun v _ => v = (.tuple ⟨[(.agg ⟨[(.int .i64 x.1), (.int .i64 x.2.1)]⟩), (.int .i64 x.2.2)]⟩) := by
  refine icalls_fn (pfnw ?_); unfold f59 at H;(conv=>whnf);refine pwa ?_;(conv=>whnf);refine pwa ?_;(conv=>whnf);obtain ⟨y1, h2, H⟩ := obnd_some H;refine (c57 h2).go ?_;(conv=>whnf);refine pw_seq ?_;refine pwa ?_;(conv=>whnf);obtain ⟨y3, h4, H⟩ := obnd_some H;refine (c33 h4).go ?_;(conv=>whnf);obtain ⟨y5, h6, H⟩ := obnd_some H;refine ICalls.goW (c63 h6) (.cons (.vt _ _ _) .nil) ?_;(conv=>whnf);refine pwa ?_;(conv=>whnf);refine pw_cond ?_;(conv=>whnf);refine pbr_oite H (fun g7 H => ?_) (fun g7 H => ?_)
  · (conv=>whnf);refine pwa ?_;(conv=>whnf);refine pw_ret ?_;(conv=>whnf);cases H; rfl
  · (conv=>whnf);refine pw_skip ?_;(conv=>whnf);obtain ⟨r8, h9, H⟩ := obnd_some H;refine pw_join (ρ := Int × Int) (fun e => ⟨[(6, (.pointer (some ⟨2, 0, none⟩))), (8, (.int .i64 y1.1)), (10, (.pointer (some ⟨4, 0, none⟩)))], ⟨5, [(4, .rw [(.int .i64 e.1), (.int .i64 e.2)]), (3, .tail 2 1), (2, .rw [(.int .i64 0), (.int .i64 0)]), (1, .rw [(.int .i64 a7), (.int .i64 a8), (.int .i64 a9)]), (0, .rw [(.int .i64 a1), (.int .i64 a2), (.int .i64 a3), (.int .i64 a4), (.int .i64 a5), (.int .i64 a6)])], false⟩⟩) r8 ?_ ?_
    · refine pw_draw ?_;(conv=>whnf);refine ⟨?_, ?_⟩
      · (conv=>whnf);obtain ⟨y12, h13, h9⟩ := obnd_some h9;refine (c102 h13).go ?_;(conv=>whnf);refine ⟨by repeat (first | exact trivial | refine And.intro rfl ?_), ?_⟩;(conv=>whnf);refine ⟨?_, ?_⟩
        · (conv=>whnf);obtain ⟨y14, h15, h9⟩ := obnd_some h9;refine (c101 h15).go ?_;(conv=>whnf);refine ⟨by repeat (first | exact trivial | refine And.intro rfl ?_), ?_⟩;(conv=>whnf);refine ⟨?_, trivial⟩;(conv=>whnf);refine ⟨by repeat (first | exact trivial | refine And.intro rfl ?_), ?_⟩;(conv=>whnf);refine ⟨?_, trivial⟩;(conv=>whnf);refine ⟨by repeat (first | exact trivial | refine And.intro rfl ?_), ?_⟩;(conv=>whnf);cases h9;exact ⟨(.cons rfl (.cons rfl (.cons rfl .nil))), rfl⟩
        · obtain ⟨y14, h15, h9⟩ := obnd_some h9;(conv=>whnf);refine ⟨?_, trivial⟩;(conv=>whnf);refine ⟨by repeat (first | exact trivial | refine And.intro rfl ?_), ?_⟩;(conv=>whnf);refine ⟨?_, trivial⟩;(conv=>whnf);refine (c101 h15).go ?_;(conv=>whnf);refine ⟨by repeat (first | exact trivial | refine And.intro rfl ?_), ?_⟩;(conv=>whnf);refine ⟨?_, trivial⟩;(conv=>whnf);refine ⟨by repeat (first | exact trivial | refine And.intro rfl ?_), ?_⟩;(conv=>whnf);cases h9;exact ⟨(.cons rfl (.cons rfl (.cons rfl .nil))), rfl⟩
      · obtain ⟨y12, h13, h9⟩ := obnd_some h9;obtain ⟨y14, h15, h9⟩ := obnd_some h9;(conv=>whnf);refine ⟨?_, trivial⟩;(conv=>whnf);refine ⟨by repeat (first | exact trivial | refine And.intro rfl ?_), ?_⟩;(conv=>whnf);refine ⟨?_, trivial⟩;(conv=>whnf);refine (c102 h13).go ?_;(conv=>whnf);refine ⟨by repeat (first | exact trivial | refine And.intro rfl ?_), ?_⟩;(conv=>whnf);refine ⟨?_, trivial⟩;(conv=>whnf);refine (c101 h15).go ?_;(conv=>whnf);refine ⟨by repeat (first | exact trivial | refine And.intro rfl ?_), ?_⟩;(conv=>whnf);refine ⟨?_, trivial⟩;(conv=>whnf);refine ⟨by repeat (first | exact trivial | refine And.intro rfl ?_), ?_⟩
        (conv=>whnf);cases h9;exact ⟨(.cons rfl (.cons rfl (.cons rfl .nil))), rfl⟩
    · refine pwa ?_;(conv=>whnf);refine pw_ret ?_;(conv=>whnf);cases H; rfl

/-- guidevane/dam.isValue -/
noncomputable def f84  (a0 : Int) : Option Bool :=
 obnd (f78 a0 (1000000 : Int)) fun (y1 : Bool) =>
 some y1
set_option maxHeartbeats 1000000 in
theorem c84  {a0 : Int} {x : Bool} (H : f84 a0 = some x) : ICalls E 84 [(.int .i64 a0)] AHeap.none fun v _ => v = (.bool x) := by
  refine icalls_fn (pfnw ?_); unfold f84 at H;(conv=>whnf);refine pwa ?_;(conv=>whnf);refine pwa ?_;(conv=>whnf);obtain ⟨y1, h2, H⟩ := obnd_some H;refine (c78 h2).go ?_;(conv=>whnf);refine pw_ret ?_;(conv=>whnf);cases H; rfl

/-- guidevane/dam.DeviationOf -/
noncomputable def f42 [LO]  (a0 : Int) (a1 : Int) (a2 : Int) : Option (Int × Int) :=
 obnd (f84 a0) fun (y1 : Bool) =>
 obnd (
 oite y1 (
 obnd (f84 a1) fun (y6 : Bool) =>
 some y6
 ) (
 some false)
 ) fun (r3 : Bool) =>
 obnd (
 oite r3 (
 obnd (f84 a2) fun (y11 : Bool) =>
 some y11
 ) (
 some false)
 ) fun (r8 : Bool) =>
 obnd (f64 r8 (2 : Int)) fun (y13 : Int) =>
 obnd (f64 (ile a0 a1) (9 : Int)) fun (y15 : Int) =>
 obnd (f63 ([y13, y15] : List Int)) fun (y17 : Int) =>
 oite ((!(ieq y17 (0 : Int)))) (
 some ((0 : Int), y17)
 ) (
 some ((imax (imax (0 : Int) (IntKind.i64.wrap (a0 - a2))) (IntKind.i64.wrap (a2 - a1))), (0 : Int)))
set_option maxHeartbeats 1000000 in
theorem c42 [LO]  {a0 : Int} {a1 : Int} {a2 : Int} {x : Int × Int} (H : f42 a0 a1 a2 = some x) : ICalls E 42 [(.agg ⟨[(.int .i64 a0), (.int .i64 a1)]⟩), (.int .i64 a2)] AHeap.none fun v _ => v = (.tuple ⟨[(.int .i64 x.1), (.int .i64 x.2)]⟩) := by
  refine icalls_fn (pfnw ?_); unfold f42 at H;(conv=>whnf);refine pwa ?_;(conv=>whnf);refine pw_so ?_;refine po_ops 4 ?_;(conv=>whnf);obtain ⟨y1, h2, H⟩ := obnd_some H;refine (c84 h2).go ?_;(conv=>whnf);obtain ⟨r3, h4, H⟩ := obnd_some H;refine po_seg (τ := Bool) 4 (fun e => ⟨[(1, (.int .i64 a2)), (2, (.pointer (some ⟨0, 0, none⟩))), (15, (.bool e))], ⟨1, [(0, .rw [(.int .i64 a0), (.int .i64 a1)])], false⟩⟩) r3 ?_ ?_
  · refine po_all ?_;(conv=>whnf);refine pbr_oite h4 (fun g5 h4 => ?_) (fun g5 h4 => ?_)
    · (conv=>whnf);refine pbr_t g5 ?_;(conv=>whnf);refine pbr_t g5 ?_;(conv=>whnf);obtain ⟨y6, h7, h4⟩ := obnd_some h4;refine (c84 h7).go ?_;(conv=>whnf);refine pbr_t g5 ?_;(conv=>whnf);cases h4;exact ⟨(.cons rfl (.cons rfl (.cons rfl .nil))), rfl⟩
    · (conv=>whnf);(iterate 3 refine pbr_f g5 ?_;(conv=>whnf));cases h4;exact ⟨(.cons rfl (.cons rfl (.cons rfl .nil))), rfl⟩
  · refine po_ops 1 ?_;(conv=>whnf);obtain ⟨r8, h9, H⟩ := obnd_some H;refine po_seg (τ := Bool) 3 (fun e => ⟨[(1, (.int .i64 a2)), (2, (.pointer (some ⟨0, 0, none⟩))), (19, (.bool e))], ⟨1, [(0, .rw [(.int .i64 a0), (.int .i64 a1)])], false⟩⟩) r8 ?_ ?_
    · refine po_all ?_;(conv=>whnf);refine pbr_oite h9 (fun g10 h9 => ?_) (fun g10 h9 => ?_)
      · (conv=>whnf);refine pbr_t g10 ?_;(conv=>whnf);obtain ⟨y11, h12, h9⟩ := obnd_some h9;refine (c84 h12).go ?_;(conv=>whnf);refine pbr_t g10 ?_;(conv=>whnf);cases h9;exact ⟨(.cons rfl (.cons rfl (.cons rfl .nil))), rfl⟩
      · (conv=>whnf);refine pbr_f g10 ?_;(conv=>whnf);refine pbr_f g10 ?_;(conv=>whnf);cases h9;exact ⟨(.cons rfl (.cons rfl (.cons rfl .nil))), rfl⟩
    · refine po_all ?_;(conv=>whnf);refine pw_seq ?_;refine pw_sd ?_;(conv=>whnf);refine ⟨?_, trivial⟩;(conv=>whnf);obtain ⟨y13, h14, H⟩ := obnd_some H;refine (c64 h14).go ?_;(conv=>whnf);refine ⟨by repeat (first | exact trivial | refine And.intro rfl ?_), ?_⟩;(conv=>whnf);refine ⟨?_, trivial⟩;(conv=>whnf);obtain ⟨y15, h16, H⟩ := obnd_some H;refine (c64 h16).go ?_;(conv=>whnf);refine ⟨by repeat (first | exact trivial | refine And.intro rfl ?_), ?_⟩;(conv=>whnf);refine ⟨?_, trivial⟩;(conv=>whnf);refine ⟨by repeat (first | exact trivial | refine And.intro rfl ?_), ?_⟩;(conv=>whnf);refine ⟨?_, trivial⟩;(conv=>whnf)
      obtain ⟨y17, h18, H⟩ := obnd_some H;refine ICalls.goW (c63 h18) (.cons (.vt _ _ _) .nil) ?_;(conv=>whnf);refine ⟨by repeat (first | exact trivial | refine And.intro rfl ?_), ?_⟩;(conv=>whnf);refine pwa ?_;(conv=>whnf);refine pw_cond ?_;(conv=>whnf);refine pbr_oite H (fun g19 H => ?_) (fun g19 H => ?_)
      · (conv=>whnf);refine pwa ?_;(conv=>whnf);refine pw_ret ?_;(conv=>whnf);cases H; rfl
      · (conv=>whnf);refine pw_skip ?_;(conv=>whnf);refine pwa ?_;(conv=>whnf);refine pw_ret ?_;(conv=>whnf);cases H; rfl

/-- guidevane/guidevanebase.CopyInts -/
noncomputable def f38  (a0 : List Int) : Option ((List Int)) :=
 ogrd (fits 8 (([] : List Int).length + a0.length)) (
 some (([] : List Int) ++ a0))
set_option maxHeartbeats 1000000 in
theorem c38  {a0 : List Int} {x : (List Int)} (H : f38 a0 = some x) : ICalls E 38 [(VS 1 (a0.map eI))] AHeap.none fun v _ => v = (VS 1 (x.map eI)) := by
  refine ICalls.frz ?_;refine icalls_fn (pfnw ?_); unfold f38 at H;(conv=>whnf);refine pwa ?_;(conv=>whnf);refine pwa ?_;(conv=>whnf);refine app_o (l := ([] : List Int)) (m := a0) (f := eI) H (by rfl) (by rfl) (by rfl) (fun H => ?_);(conv=>whnf);refine pw_ret ?_;(conv=>whnf);cases H; show ∃ D, Fz _ D 0 (VT 1 _ 0) _;exact ⟨fun _ => false, .vtc⟩

/-- guidevane/guidevaneref09.CopyRules -/
noncomputable def f37  (a0 : List Int) (a1 : List Int) (a2 : Int) (a3 : List (ByteArray × Int)) : Option ((List Int) × (List Int) × Int × (List (ByteArray × Int))) :=
 obnd (f38 a0) fun (y1 : (List Int)) =>
 obnd (f38 a1) fun (y3 : (List Int)) =>
 ogrd (fits 24 (([] : List (ByteArray × Int)).length + a3.length)) (
 some (y1, y3, a2, (([] : List (ByteArray × Int)) ++ a3)))
set_option maxHeartbeats 1000000 in
theorem c37  {a0 : List Int} {a1 : List Int} {a2 : Int} {a3 : List (ByteArray × Int)} {x : (List Int) × (List Int) × Int × (List (ByteArray × Int))} (H : f37 a0 a1 a2 a3 = some x) : ICalls E 37 [(.agg ⟨[(VS 1 (a0.map eI)), (VS 1 (a1.map eI)), (.int .i64 a2), (VS 2 (a3.map e_SI))]⟩)] AHeap.none fun v _ => v = (.agg ⟨[(VS 1 (x.1.map eI)), (VS 1 (x.2.1.map eI)), (.int .i64 x.2.2.1), (VS 2 (x.2.2.2.map e_SI))]⟩) := by
  refine ICalls.frz ?_;refine icalls_fn (pfnw ?_); unfold f37 at H;(conv=>whnf);refine pwa ?_;(conv=>whnf);refine pw_sd ?_;(conv=>whnf);refine ⟨?_, ?_⟩
  · (conv=>whnf);obtain ⟨y1, h2, H⟩ := obnd_some H;refine (c38 h2).go ?_;(conv=>whnf);refine ⟨by repeat (first | exact trivial | refine And.intro rfl ?_), ?_⟩;(conv=>whnf);refine ⟨?_, ?_⟩
    · (conv=>whnf);obtain ⟨y3, h4, H⟩ := obnd_some H;refine (c38 h4).go ?_;(conv=>whnf);refine ⟨by repeat (first | exact trivial | refine And.intro rfl ?_), ?_⟩;(conv=>whnf);refine ⟨?_, trivial⟩;(conv=>whnf);refine ⟨by repeat (first | exact trivial | refine And.intro rfl ?_), ?_⟩;(conv=>whnf);refine ⟨?_, trivial⟩;(conv=>whnf);refine app_o (l := ([] : List (ByteArray × Int))) (m := a3) (f := e_SI) H (by rfl) (by rfl) (by rfl) (fun H => ?_);(conv=>whnf);refine ⟨by repeat (first | exact trivial | refine And.intro rfl ?_), ?_⟩;(conv=>whnf);refine ⟨?_, trivial⟩;(conv=>whnf);refine ⟨by repeat (first | exact trivial | refine And.intro rfl ?_), ?_⟩
      (conv=>whnf);refine pw_ret ?_;(conv=>whnf);cases H; show ∃ D, Fz _ D 0 (.agg ⟨[(VS 1 _), (VS 1 _), (.int .i64 a2), (VT 2 _ 2)]⟩) _;exact ⟨fun _ => false, .aggl (.cons .cl (.cons .cl (.cons .cl (.cons .vtc (.nil)))))⟩
    · obtain ⟨y3, h4, H⟩ := obnd_some H;(conv=>whnf);refine ⟨?_, trivial⟩;(conv=>whnf);refine ⟨by repeat (first | exact trivial | refine And.intro rfl ?_), ?_⟩;(conv=>whnf);refine ⟨?_, trivial⟩;(conv=>whnf);refine (c38 h4).go ?_;(conv=>whnf);refine ⟨by repeat (first | exact trivial | refine And.intro rfl ?_), ?_⟩;(conv=>whnf);refine ⟨?_, trivial⟩;(conv=>whnf);refine app_o (l := ([] : List (ByteArray × Int))) (m := a3) (f := e_SI) H (by rfl) (by rfl) (by rfl) (fun H => ?_);(conv=>whnf);refine ⟨by repeat (first | exact trivial | refine And.intro rfl ?_), ?_⟩;(conv=>whnf);refine ⟨?_, trivial⟩;(conv=>whnf)
      refine ⟨by repeat (first | exact trivial | refine And.intro rfl ?_), ?_⟩;(conv=>whnf);refine pw_ret ?_;(conv=>whnf);cases H; show ∃ D, Fz _ D 0 (.agg ⟨[(VS 1 _), (VS 1 _), (.int .i64 a2), (VT 2 _ 2)]⟩) _;exact ⟨fun _ => false, .aggl (.cons .cl (.cons .cl (.cons .cl (.cons .vtc (.nil)))))⟩
  · obtain ⟨y1, h2, H⟩ := obnd_some H;obtain ⟨y3, h4, H⟩ := obnd_some H;(conv=>whnf);refine ⟨?_, trivial⟩;(conv=>whnf);refine ⟨by repeat (first | exact trivial | refine And.intro rfl ?_), ?_⟩;(conv=>whnf);refine ⟨?_, trivial⟩;(conv=>whnf);refine (c38 h2).go ?_;(conv=>whnf);refine ⟨by repeat (first | exact trivial | refine And.intro rfl ?_), ?_⟩;(conv=>whnf);refine ⟨?_, trivial⟩;(conv=>whnf);refine (c38 h4).go ?_;(conv=>whnf);refine ⟨by repeat (first | exact trivial | refine And.intro rfl ?_), ?_⟩;(conv=>whnf);refine ⟨?_, trivial⟩;(conv=>whnf);refine app_o (l := ([] : List (ByteArray × Int))) (m := a3) (f := e_SI) H (by rfl) (by rfl) (by rfl) (fun H => ?_)
    (conv=>whnf);refine ⟨by repeat (first | exact trivial | refine And.intro rfl ?_), ?_⟩;(conv=>whnf);refine ⟨?_, trivial⟩;(conv=>whnf);refine ⟨by repeat (first | exact trivial | refine And.intro rfl ?_), ?_⟩;(conv=>whnf);refine pw_ret ?_;(conv=>whnf);cases H; show ∃ D, Fz _ D 0 (.agg ⟨[(VS 1 _), (VS 1 _), (.int .i64 a2), (VT 2 _ 2)]⟩) _;exact ⟨fun _ => false, .aggl (.cons .cl (.cons .cl (.cons .cl (.cons .vtc (.nil)))))⟩

/-- guidevane/dam.CheckRules$1 -/
noncomputable def f85  (a0 : Int) : Option Bool :=
 obnd (f65 a0 (1 : Int) (1000000 : Int)) fun (y1 : Bool) =>
 some y1
set_option maxHeartbeats 1000000 in
theorem c85  {a0 : Int} {x : Bool} (H : f85 a0 = some x) : ICalls E 85 [(.int .i64 a0)] AHeap.none fun v _ => v = (.bool x) := by
  refine icalls_fn (pfnw ?_); unfold f85 at H;(conv=>whnf);refine pwa ?_;(conv=>whnf);refine pwa ?_;(conv=>whnf);obtain ⟨y1, h2, H⟩ := obnd_some H;refine (c65 h2).go ?_;(conv=>whnf);refine pw_ret ?_;(conv=>whnf);cases H; rfl

/-- slices.IndexFunc[[]guidevane/api.DamPerson,guidevane/api.DamPerson] -/
noncomputable def f110 [LO] (p0 : ByteArray → Int → Option Bool) (a0 : List (ByteArray × Int)) : Option Int :=
 obndS (
 oloop (τ := Int) (ρ := (Unit) ⊕ Int) (fun e5 =>
 oite ((ilt e5 ((a0.map e_SI).length : Int))) (
 ogrd ((ile 0 e5)) (
 obnd (a0[e5.toNat]?) fun (x10 : ByteArray × Int) =>
 obnd (p0 x10.1 x10.2) fun (y11 : Bool) =>
 oite y11 (
 some (.inr (.inr (e5)))
 ) (
 some (.inl (IntKind.i64.wrap (e5 + (1 : Int))))))
 ) (
 some (.inr (.inl ())))
 ) (0 : Int)
 ) fun (_ : Unit) =>
 some (-1 : Int)
set_option maxHeartbeats 1000000 in
theorem c110 [LO] {p0 : ByteArray → Int → Option Bool} {a0 : List (ByteArray × Int)} {g0 : Value} [Cl g0] (hp0 : ∀ y0 y1 y, p0 y0 y1 = some y → ICallV E g0 [(.agg ⟨[(.string y0), (.int .i64 y1)]⟩)] AHeap.none fun v _ => v = (.bool y)) {x : Int} (H : f110 p0 a0 = some x) : ICalls E 110 [(VS 2 (a0.map e_SI)), g0] AHeap.none fun v _ => v = (.int .i64 x) := by
  refine icalls_fn (pfnw ?_); unfold f110 at H;(conv=>whnf);refine pwa ?_;(conv=>whnf);obtain ⟨r1, h2, h3, h4⟩ := obndS_some H;refine pw_joinS (ρ := Unit) (fun e => ⟨[], ⟨0, [], false⟩⟩) r1 ?_ ?_
  · refine pwa ?_;(conv=>whnf);refine pw_block ?_;refine pw_loop (τ := Int) (fun e => ⟨[(0, (VS 2 (a0.map e_SI))), (1, g0), (7, (.int .i64 ((a0.map e_SI).length : Int))), (8, (.int .i64 e))], ⟨0, [], false⟩⟩) h2 ?_ (fun _ => nl rfl) ?_
    · exact .sub' (nl rfl) (.cons rfl (.cons rfl (.cons rfl (.cons rfl .nil))))
    · intro e5 x6 h7;refine pwa ?_;(conv=>whnf);refine pw_seq ?_;refine pw_cond ?_;(conv=>whnf);refine pbr_oite h7 (fun g8 h7 => ?_) (fun g8 h7 => ?_)
      · (conv=>whnf);refine pw_skip ?_;(conv=>whnf);refine pw_seq ?_;refine pw_block ?_;refine pwa ?_;(conv=>whnf);refine pwa ?_;(conv=>whnf);refine pbr_ogrd h7 (fun g9 h7 => ?_);(conv=>whnf);refine nth_o (l := a0) h7 (fun x10 _ h7 => ?_);(conv=>whnf);obtain ⟨y11, h12, h7⟩ := obnd_some h7;refine ICallV.go (hp0 _ _ _ h12) ?_;(conv=>whnf);refine pw_cond ?_;(conv=>whnf);refine pbr_oite h7 (fun g13 h7 => ?_) (fun g13 h7 => ?_)
        · (conv=>whnf);refine pwa ?_;(conv=>whnf);refine pw_ret ?_;(conv=>whnf);cases h7;refine ⟨_, rfl, ?_⟩; rintro rfl;(conv=>whnf);obtain rfl := h4 _ rfl; rfl
        · (conv=>whnf);refine pw_skip ?_;(conv=>whnf);refine pw_ops ?_;refine po_all ?_;(conv=>whnf);cases h7;refine ⟨_, rfl, ?_⟩;exact .sub' (nl rfl) (.cons rfl (.cons rfl (.cons rfl (.cons rfl .nil))))
      · (conv=>whnf);refine pw_exit ?_;(conv=>whnf);cases h7;refine ⟨_, rfl, ?_⟩; rintro rfl;(conv=>whnf);exact ⟨_, rfl, ⟨.nil, rfl⟩⟩
  · intro r16 hr; have H := h3 _ hr;refine pwa ?_;(conv=>whnf);refine pw_ret ?_;(conv=>whnf);cases H; rfl

/-- slices.ContainsFunc[[]guidevane/api.DamPerson,guidevane/api.DamPerson] -/
noncomputable def f86 [LO] (p0 : ByteArray → Int → Option Bool) (a0 : List (ByteArray × Int)) : Option Bool :=
 obnd (f110 p0 a0) fun (y1 : Int) =>
 some (ile (0 : Int) y1)
set_option maxHeartbeats 1000000 in
theorem c86 [LO] {p0 : ByteArray → Int → Option Bool} {a0 : List (ByteArray × Int)} {g0 : Value} [Cl g0] (hp0 : ∀ y0 y1 y, p0 y0 y1 = some y → ICallV E g0 [(.agg ⟨[(.string y0), (.int .i64 y1)]⟩)] AHeap.none fun v _ => v = (.bool y)) {x : Bool} (H : f86 p0 a0 = some x) : ICalls E 86 [(VS 2 (a0.map e_SI)), g0] AHeap.none fun v _ => v = (.bool x) := by
  refine icalls_fn (pfnw ?_); unfold f86 at H;(conv=>whnf);refine pwa ?_;(conv=>whnf);refine pwa ?_;(conv=>whnf);obtain ⟨y1, h2, H⟩ := obnd_some H;refine (c110 hp0 h2).go ?_;(conv=>whnf);refine pw_ret ?_;(conv=>whnf);cases H; rfl

/-- guidevane/dam.CheckRules$2 -/
noncomputable def f87  (a0 : ByteArray) (_ : Int) (a2 : ByteArray) (_ : Int) : Option Bool :=
 some (a0.toList == a2.toList)
set_option maxHeartbeats 1000000 in
theorem c87  {a0 : ByteArray} {a1 : Int} {a2 : ByteArray} {a3 : Int} {x : Bool} (H : f87 a0 a1 a2 a3 = some x) : ICallV E (.func (.func (E.id 87)) ⟨[]⟩ ⟨[(VP (.agg ⟨[(.string a2), (.int .i64 a3)]⟩) 0)]⟩) [(.agg ⟨[(.string a0), (.int .i64 a1)]⟩)] AHeap.none fun v _ => v = (.bool x) := by
  refine icallv_fn (pfnw ?_); unfold f87 at H;(conv=>whnf);refine pwa ?_;(conv=>whnf);refine pwa ?_;(conv=>whnf);refine pw_ret ?_;(conv=>whnf);cases H; rfl

/-- guidevane/dam.isLetter -/
noncomputable def f111  (a0 : Int) : Option Bool :=
 obnd (f65 (IntKind.i64.wrap a0) (97 : Int) (122 : Int)) fun (y1 : Bool) =>
 obnd (
 oite y1 (
 some true
 ) (
 obnd (f65 (IntKind.i64.wrap a0) (65 : Int) (90 : Int)) fun (y6 : Bool) =>
 some y6)
 ) fun (r3 : Bool) =>
 some r3
set_option maxHeartbeats 1000000 in
theorem c111  {a0 : Int} {x : Bool} (H : f111 a0 = some x) : ICalls E 111 [(.int .u8 a0)] AHeap.none fun v _ => v = (.bool x) := by
  refine icalls_fn (pfnw ?_); unfold f111 at H;(conv=>whnf);refine pwa ?_;(conv=>whnf);refine pw_so ?_;refine po_ops 4 ?_;(conv=>whnf);obtain ⟨y1, h2, H⟩ := obnd_some H;refine (c65 h2).go ?_;(conv=>whnf);obtain ⟨r3, h4, H⟩ := obnd_some H;refine po_seg (τ := Bool) 4 (fun e => ⟨[(10, (.bool e))], ⟨0, [], false⟩⟩) r3 ?_ ?_
  · refine po_all ?_;(conv=>whnf);refine pbr_oite h4 (fun g5 h4 => ?_) (fun g5 h4 => ?_)
    · (conv=>whnf);(iterate 3 refine pbr_t g5 ?_;(conv=>whnf));cases h4;exact ⟨(.cons rfl .nil), rfl⟩
    · (conv=>whnf);refine pbr_f g5 ?_;(conv=>whnf);refine pbr_f g5 ?_;(conv=>whnf);obtain ⟨y6, h7, h4⟩ := obnd_some h4;refine (c65 h7).go ?_;(conv=>whnf);refine pbr_f g5 ?_;(conv=>whnf);cases h4;exact ⟨(.cons rfl .nil), rfl⟩
  · refine po_all ?_;(conv=>whnf);refine pw_ret ?_;(conv=>whnf);cases H; rfl

/-- guidevane/dam.isName -/
noncomputable def f88 [LO]  (a0 : ByteArray) : Option Bool :=
 obndS (
 oloop (τ := Int) (ρ := (Unit) ⊕ Bool) (fun e5 =>
 oite ((ilt e5 ((a0.data.toList.map eY).length : Int))) (
 ogrd ((ile 0 e5)) (
 obnd (a0.data.toList[e5.toNat]?) fun (x10 : UInt8) =>
 obnd (
 obnd (f111 (x10.toNat : Int)) fun (y15 : Bool) =>
 oite (!y15) (
 obnd (
 oite ((ieq e5 (0 : Int))) (
 some true
 ) (
 oite ((!(ieq (x10.toNat : Int) (45 : Int)))) (
 obnd (f65 (IntKind.i64.wrap (x10.toNat : Int)) (48 : Int) (57 : Int)) fun (y22 : Bool) =>
 some (!y22)
 ) (
 some false))
 ) fun (r18 : Bool) =>
 some r18
 ) (
 some false)
 ) fun (r11 : Bool) =>
 oite r11 (
 some (.inr (.inr (false)))
 ) (
 some (.inl (IntKind.i64.wrap (e5 + (1 : Int))))))
 ) (
 some (.inr (.inl ())))
 ) (0 : Int)
 ) fun (_ : Unit) =>
 obnd (f65 (a0.size : Int) (1 : Int) (12 : Int)) fun (y28 : Bool) =>
 some y28
set_option maxHeartbeats 1000000 in
theorem c88 [LO]  {a0 : ByteArray} {x : Bool} (H : f88 a0 = some x) : ICalls E 88 [(.string a0)] AHeap.none fun v _ => v = (.bool x) := by
  refine icalls_fn (pfnw ?_); unfold f88 at H;(conv=>whnf);refine pwa ?_;(conv=>whnf);obtain ⟨r1, h2, h3, h4⟩ := obndS_some H;refine pw_joinS (ρ := Unit) (fun e => ⟨[(0, (.string a0))], ⟨0, [], false⟩⟩) r1 ?_ ?_
  · refine pwa ?_;(conv=>whnf);refine pw_block ?_;refine pw_loop (τ := Int) (fun e => ⟨[(0, (.string a0)), (6, (VS 1 (a0.data.toList.map eY))), (7, (.int .i64 ((a0.data.toList.map eY).length : Int))), (8, (.int .i64 e))], ⟨0, [], false⟩⟩) h2 ?_ (fun _ => nl rfl) ?_
    · exact .sub' (nl rfl) (.cons rfl (.cons rfl (.cons rfl (.cons rfl .nil))))
    · intro e5 x6 h7;refine pwa ?_;(conv=>whnf);refine pw_seq ?_;refine pw_cond ?_;(conv=>whnf);refine pbr_oite h7 (fun g8 h7 => ?_) (fun g8 h7 => ?_)
      · (conv=>whnf);refine pw_skip ?_;(conv=>whnf);refine pw_seq ?_;refine pw_block ?_;refine pwa ?_;(conv=>whnf);refine pbr_ogrd h7 (fun g9 h7 => ?_);(conv=>whnf);refine nth_o (l := a0.data.toList) h7 (fun x10 _ h7 => ?_);(conv=>whnf);obtain ⟨r11, h12, h7⟩ := obnd_some h7;refine pw_join (ρ := Bool) (fun e => ⟨[(0, (.string a0)), (6, (VS 1 (a0.data.toList.map eY))), (7, (.int .i64 ((a0.data.toList.map eY).length : Int))), (8, (.int .i64 e5)), (29, (.bool e))], ⟨0, [], false⟩⟩) r11 ?_ ?_
        · refine pw_ops ?_;refine po_ops 7 ?_;(conv=>whnf);obtain ⟨y15, h16, h12⟩ := obnd_some h12;refine (c111 h16).go ?_;(conv=>whnf);refine pbr_oite h12 (fun g17 h12 => ?_) (fun g17 h12 => ?_)
          · (conv=>whnf);refine pbr_t g17 ?_;(conv=>whnf);refine pbr_t g17 ?_;(conv=>whnf);obtain ⟨r18, h19, h12⟩ := obnd_some h12;refine po_seg (τ := Bool) 9 (fun e => ⟨[(0, (.string a0)), (6, (VS 1 (a0.data.toList.map eY))), (7, (.int .i64 ((a0.data.toList.map eY).length : Int))), (8, (.int .i64 e5)), (16, (.bool (!y15))), (17, (.int .i64 e5)), (18, (.bool (ieq e5 (0 : Int)))), (19, (.bool (ieq e5 (0 : Int)))), (28, (.bool e))], ⟨0, [], false⟩⟩) r18 ?_ ?_
            · refine po_all ?_;(conv=>whnf);refine pbr_oite h19 (fun g20 h19 => ?_) (fun g20 h19 => ?_)
              · (conv=>whnf);(iterate 3 refine pbr_t g20 ?_;(conv=>whnf));refine pbr_t g17 ?_;(conv=>whnf);refine pbr_t g20 ?_;(conv=>whnf);cases h19;exact ⟨(.cons rfl (.cons rfl (.cons rfl (.cons rfl (.cons rfl (.cons rfl (.cons rfl (.cons rfl (.cons rfl .nil))))))))), rfl⟩
              · (conv=>whnf);refine pbr_f g20 ?_;(conv=>whnf);refine pbr_f g20 ?_;(conv=>whnf);refine pbr_oite h19 (fun g21 h19 => ?_) (fun g21 h19 => ?_)
                · (conv=>whnf);refine pbr_t g21 ?_;(conv=>whnf);refine pbr_t g21 ?_;(conv=>whnf);obtain ⟨y22, h23, h19⟩ := obnd_some h19;refine (c65 h23).go ?_;(conv=>whnf);refine pbr_t g21 ?_;(conv=>whnf);refine pbr_f g20 ?_;(conv=>whnf);refine pbr_t g21 ?_;(conv=>whnf);refine pbr_t g17 ?_;(conv=>whnf);refine pbr_f g20 ?_;(conv=>whnf);cases h19;exact ⟨(.cons rfl (.cons rfl (.cons rfl (.cons rfl (.cons rfl (.cons rfl (.cons rfl (.cons rfl (.cons rfl .nil))))))))), rfl⟩
                · (conv=>whnf);(iterate 3 refine pbr_f g21 ?_;(conv=>whnf));refine pbr_f g20 ?_;(conv=>whnf);refine pbr_f g21 ?_;(conv=>whnf);refine pbr_t g17 ?_;(conv=>whnf);refine pbr_f g20 ?_;(conv=>whnf);cases h19;exact ⟨(.cons rfl (.cons rfl (.cons rfl (.cons rfl (.cons rfl (.cons rfl (.cons rfl (.cons rfl (.cons rfl .nil))))))))), rfl⟩
            · refine po_all ?_;(conv=>whnf);refine pbr_t g17 ?_;(conv=>whnf);cases h12;exact ⟨(.cons rfl (.cons rfl (.cons rfl (.cons rfl (.cons rfl .nil))))), rfl⟩
          · (conv=>whnf);refine pbr_f g17 ?_;(conv=>whnf);refine pbr_f g17 ?_;(conv=>whnf);refine po_ops 9 ?_;(conv=>whnf);refine pbr_f g17 ?_;(conv=>whnf);refine po_all ?_;(conv=>whnf);refine pbr_f g17 ?_;(conv=>whnf);cases h12;exact ⟨(.cons rfl (.cons rfl (.cons rfl (.cons rfl (.cons rfl .nil))))), rfl⟩
        · refine pw_cond ?_;(conv=>whnf);refine pbr_oite h7 (fun g24 h7 => ?_) (fun g24 h7 => ?_)
          · (conv=>whnf);refine pwa ?_;(conv=>whnf);refine pw_ret ?_;(conv=>whnf);cases h7;refine ⟨_, rfl, ?_⟩; rintro rfl;(conv=>whnf);obtain rfl := h4 _ rfl; rfl
          · (conv=>whnf);refine pw_skip ?_;(conv=>whnf);refine pw_ops ?_;refine po_all ?_;(conv=>whnf);cases h7;refine ⟨_, rfl, ?_⟩;exact .sub' (nl rfl) (.cons rfl (.cons rfl (.cons rfl (.cons rfl .nil))))
      · (conv=>whnf);refine pw_exit ?_;(conv=>whnf);cases h7;refine ⟨_, rfl, ?_⟩; rintro rfl;(conv=>whnf);exact ⟨_, rfl, ⟨(.cons rfl .nil), rfl⟩⟩
  · intro r27 hr; have H := h3 _ hr;refine pwa ?_;(conv=>whnf);obtain ⟨y28, h29, H⟩ := obnd_some H;refine (c65 h29).go ?_;(conv=>whnf);refine pw_ret ?_;(conv=>whnf);cases H; rfl

/-- guidevane/dam.CheckRules -/
noncomputable def f43 [LO]  (a0 : List Int) (a1 : List Int) (a2 : Int) (a3 : List (ByteArray × Int)) : Option (Int × Int) :=
 obnd (
 oite ((ilt (0 : Int) ((a0.map eI).length : Int))) (
 some (ieq ((a1.map eI).length : Int) ((a0.map eI).length : Int))
 ) (
 some false)
 ) fun (r1 : Bool) =>
 obnd (f64 r1 (10 : Int)) fun (y4 : Int) =>
 obnd (f64 ((ile ((a0.map eI).length : Int) (5 : Int))) (8 : Int)) fun (y6 : Int) =>
 obnd (f63 ([y4, y6] : List Int)) fun (y8 : Int) =>
 oite ((!(ieq y8 (0 : Int)))) (
 some ((0 : Int), y8)
 ) (
 obndS (
 oloop (τ := Int) (ρ := (Unit) ⊕ (Int × Int)) (fun e15 =>
 oite ((ilt e15 ((a0.map eI).length : Int))) (
 ogrd ((ile 0 e15)) (
 obnd (a0[e15.toNat]?) fun (x20 : Int) =>
 obnd (a1[e15.toNat]?) fun (x21 : Int) =>
 obnd (f85 x20) fun (y22 : Bool) =>
 obnd (
 oite y22 (
 obnd (f85 x21) fun (y27 : Bool) =>
 some y27
 ) (
 some false)
 ) fun (r24 : Bool) =>
 obnd (f64 r24 (2 : Int)) fun (y29 : Int) =>
 obnd (f64 (ile x21 x20) (3 : Int)) fun (y31 : Int) =>
 obnd (
 oite ((ieq e15 (0 : Int))) (
 some true
 ) (
 ogrd ((ile 0 (imax (0 : Int) (IntKind.i64.wrap (e15 - (1 : Int)))))) (
 obnd (a0[(imax (0 : Int) (IntKind.i64.wrap (e15 - (1 : Int)))).toNat]?) fun (x37 : Int) =>
 oite ((ilt x37 x20)) (
 obnd (a1[(imax (0 : Int) (IntKind.i64.wrap (e15 - (1 : Int)))).toNat]?) fun (x39 : Int) =>
 some (ile x39 x21)
 ) (
 some false)))
 ) fun (r33 : Bool) =>
 obnd (f64 r33 (9 : Int)) fun (y40 : Int) =>
 obnd (f63 ([y29, y31, y40] : List Int)) fun (y42 : Int) =>
 oite ((!(ieq y42 (0 : Int)))) (
 some (.inr (.inr ((e15, y42))))
 ) (
 some (.inl (IntKind.i64.wrap (e15 + (1 : Int))))))
 ) (
 some (.inr (.inl ())))
 ) (0 : Int)
 ) fun (_ : Unit) =>
 obnd (f65 a2 (0 : Int) (1000000 : Int)) fun (y48 : Bool) =>
 obnd (f64 y48 (2 : Int)) fun (y50 : Int) =>
 obnd (f64 ((ile ((a3.map e_SI).length : Int) (10 : Int))) (8 : Int)) fun (y52 : Int) =>
 obnd (f63 ([y50, y52] : List Int)) fun (y54 : Int) =>
 oite ((!(ieq y54 (0 : Int)))) (
 some ((0 : Int), y54)
 ) (
 obndS (
 oloop (τ := Int) (ρ := (Unit) ⊕ (Int × Int)) (fun e61 =>
 oite ((ilt e61 ((a3.map e_SI).length : Int))) (
 ogrd ((ile 0 e61)) (
 obnd (a3[e61.toNat]?) fun (x66 : ByteArray × Int) =>
 obnd (oslH a3 e61) fun (m67 : List (ByteArray × Int)) =>
 obnd (f86 (fun (z0 : ByteArray) (z1 : Int) => f87 z0 z1 x66.1 x66.2) m67) fun (y70 : Bool) =>
 obnd (f88 x66.1) fun (y72 : Bool) =>
 obnd (f64 y72 (4 : Int)) fun (y74 : Int) =>
 obnd (f64 (!y70) (5 : Int)) fun (y76 : Int) =>
 obnd (f65 x66.2 (1 : Int) ((a0.map eI).length : Int)) fun (y78 : Bool) =>
 obnd (f64 y78 (2 : Int)) fun (y80 : Int) =>
 obnd (f63 ([y74, y76, y80] : List Int)) fun (y82 : Int) =>
 oite ((!(ieq y82 (0 : Int)))) (
 some (.inr (.inr ((e61, y82))))
 ) (
 some (.inl (IntKind.i64.wrap (e61 + (1 : Int))))))
 ) (
 some (.inr (.inl ())))
 ) (0 : Int)
 ) fun (_ : Unit) =>
 some ((0 : Int), (0 : Int))))
set_option maxHeartbeats 1000000 in
theorem c43 [LO]  {a0 : List Int} {a1 : List Int} {a2 : Int} {a3 : List (ByteArray × Int)} {x : Int × Int} (H : f43 a0 a1 a2 a3 = some x) : ICalls E 43 [(.agg ⟨[(VS 1 (a0.map eI)), (VS 1 (a1.map eI)), (.int .i64 a2), (VS 2 (a3.map e_SI))]⟩)] AHeap.none fun v _ => v = (.tuple ⟨[(.int .i64 x.1), (.int .i64 x.2)]⟩) := by
  refine icalls_fn (pfnw ?_); unfold f43 at H;(conv=>whnf);refine pwa ?_;(conv=>whnf);refine pwa ?_;(conv=>whnf);refine pw_seq ?_;refine pw_so ?_;refine po_ops 3 ?_;(conv=>whnf);obtain ⟨r1, h2, H⟩ := obnd_some H;refine po_seg (τ := Bool) 6 (fun e => ⟨[(1, (.pointer (some ⟨0, 0, none⟩))), (4, (.int .i64 ((a0.map eI).length : Int))), (28, (.bool e))], ⟨1, [(0, .rw [(VS 1 (a0.map eI)), (VS 1 (a1.map eI)), (.int .i64 a2), (VS 2 (a3.map e_SI))])], false⟩⟩) r1 ?_ ?_
  · refine po_all ?_;(conv=>whnf);refine pbr_oite h2 (fun g3 h2 => ?_) (fun g3 h2 => ?_)
    · (conv=>whnf);(iterate 5 refine pbr_t g3 ?_;(conv=>whnf));cases h2;exact ⟨(.cons rfl (.cons rfl (.cons rfl .nil))), rfl⟩
    · (conv=>whnf);(iterate 5 refine pbr_f g3 ?_;(conv=>whnf));cases h2;exact ⟨(.cons rfl (.cons rfl (.cons rfl .nil))), rfl⟩
  · refine po_all ?_;(conv=>whnf);obtain ⟨y4, h5, H⟩ := obnd_some H;refine (c64 h5).go ?_;(conv=>whnf);obtain ⟨y6, h7, H⟩ := obnd_some H;refine (c64 h7).go ?_;(conv=>whnf);obtain ⟨y8, h9, H⟩ := obnd_some H;refine ICalls.goW (c63 h9) (.cons (.vt _ _ _) .nil) ?_;(conv=>whnf);refine pwa ?_;(conv=>whnf);refine pw_cond ?_;(conv=>whnf);refine pbr_oite H (fun g10 H => ?_) (fun g10 H => ?_)
    · (conv=>whnf);refine pwa ?_;(conv=>whnf);refine pw_ret ?_;(conv=>whnf);cases H; rfl
    · (conv=>whnf);refine pw_skip ?_;(conv=>whnf);refine pwa ?_;(conv=>whnf);obtain ⟨r11, h12, h13, h14⟩ := obndS_some H;refine pw_joinS (ρ := Unit) (fun e => ⟨[(1, (.pointer (some ⟨0, 0, none⟩))), (4, (.int .i64 ((a0.map eI).length : Int)))], ⟨2, [(1, .tail 2 1), (0, .rw [(VS 1 (a0.map eI)), (VS 1 (a1.map eI)), (.int .i64 a2), (VS 2 (a3.map e_SI))])], false⟩⟩) r11 ?_ ?_
      · refine pwa ?_;(conv=>whnf);refine pw_block ?_;refine pw_loop (τ := Int) (fun e => ⟨[(1, (.pointer (some ⟨0, 0, none⟩))), (4, (.int .i64 ((a0.map eI).length : Int))), (6, (.func (.func (E.id 85)) ⟨[]⟩ ⟨[]⟩)), (39, (VS 1 (a0.map eI))), (40, (.int .i64 ((a0.map eI).length : Int))), (41, (.int .i64 e))], ⟨2, [(1, .tail 2 1), (0, .rw [(VS 1 (a0.map eI)), (VS 1 (a1.map eI)), (.int .i64 a2), (VS 2 (a3.map e_SI))])], false⟩⟩) h12 ?_ (fun _ => nl rfl) ?_
        · exact .sub' (nl rfl) (.cons rfl (.cons rfl (.cons rfl (.cons rfl (.cons rfl (.cons rfl .nil))))))
        · intro e15 x16 h17;refine pwa ?_;(conv=>whnf);refine pw_seq ?_;refine pw_cond ?_;(conv=>whnf);refine pbr_oite h17 (fun g18 h17 => ?_) (fun g18 h17 => ?_)
          · (conv=>whnf);refine pw_skip ?_;(conv=>whnf);refine pw_seq ?_;refine pw_block ?_;refine pwa ?_;(conv=>whnf);refine pbr_ogrd h17 (fun g19 h17 => ?_);(conv=>whnf);refine nth_o (l := a0) h17 (fun x20 _ h17 => ?_);(conv=>whnf);refine pwa ?_;(conv=>whnf);refine pbr_t g19 ?_;(conv=>whnf);refine nth_o (l := a1) h17 (fun x21 _ h17 => ?_);(conv=>whnf);refine pw_so ?_;refine po_ops 4 ?_;(conv=>whnf);obtain ⟨y22, h23, h17⟩ := obnd_some h17;refine ICallV.go (c85 h23).asV ?_;(conv=>whnf);obtain ⟨r24, h25, h17⟩ := obnd_some h17;refine po_seg (τ := Bool) 4 (fun e => ⟨[(1, (.pointer (some ⟨0, 0, none⟩))), (4, (.int .i64 ((a0.map eI).length : Int))), (6, (.func (.func (E.id 85)) ⟨[]⟩ ⟨[]⟩)), (7, (.int .i64 e15)), (8, (.int .i64 x20)), (9, (.int .i64 x21)), (10, (.int .i64 (imax (0 : Int) (IntKind.i64.wrap (e15 - (1 : Int)))))), (39, (VS 1 (a0.map eI))), (40, (.int .i64 ((a0.map eI).length : Int))), (41, (.int .i64 e15)), (61, (.bool e))], ⟨2, [(1, .tail 2 1), (0, .rw [(VS 1 (a0.map eI)), (VS 1 (a1.map eI)), (.int .i64 a2), (VS 2 (a3.map e_SI))])], false⟩⟩) r24 ?_ ?_
            · refine po_all ?_;(conv=>whnf);refine pbr_oite h25 (fun g26 h25 => ?_) (fun g26 h25 => ?_)
              · (conv=>whnf);refine pbr_t g26 ?_;(conv=>whnf);refine pbr_t g26 ?_;(conv=>whnf);obtain ⟨y27, h28, h25⟩ := obnd_some h25;refine ICallV.go (c85 h28).asV ?_;(conv=>whnf);refine pbr_t g26 ?_;(conv=>whnf);cases h25;exact ⟨(.cons rfl (.cons rfl (.cons rfl (.cons rfl (.cons rfl (.cons rfl (.cons rfl (.cons rfl (.cons rfl (.cons rfl (.cons rfl .nil))))))))))), rfl⟩
              · (conv=>whnf);(iterate 3 refine pbr_f g26 ?_;(conv=>whnf));cases h25;exact ⟨(.cons rfl (.cons rfl (.cons rfl (.cons rfl (.cons rfl (.cons rfl (.cons rfl (.cons rfl (.cons rfl (.cons rfl (.cons rfl .nil))))))))))), rfl⟩
            · refine po_ops 8 ?_;(conv=>whnf);obtain ⟨y29, h30, h17⟩ := obnd_some h17;refine (c64 h30).go ?_;(conv=>whnf);obtain ⟨y31, h32, h17⟩ := obnd_some h17;refine (c64 h32).go ?_;(conv=>whnf);obtain ⟨r33, h34, h17⟩ := obnd_some h17;refine po_seg (τ := Bool) 17 (fun e => ⟨[(1, (.pointer (some ⟨0, 0, none⟩))), (4, (.int .i64 ((a0.map eI).length : Int))), (6, (.func (.func (E.id 85)) ⟨[]⟩ ⟨[]⟩)), (7, (.int .i64 e15)), (39, (VS 1 (a0.map eI))), (40, (.int .i64 ((a0.map eI).length : Int))), (41, (.int .i64 e15)), (62, (.int .i64 y29)), (66, (.int .i64 y31)), (86, (.bool e))], ⟨2, [(1, .tail 2 1), (0, .rw [(VS 1 (a0.map eI)), (VS 1 (a1.map eI)), (.int .i64 a2), (VS 2 (a3.map e_SI))])], false⟩⟩) r33 ?_ ?_
              · refine po_all ?_;(conv=>whnf);refine pbr_oite h34 (fun g35 h34 => ?_) (fun g35 h34 => ?_)
                · (conv=>whnf);(iterate 9 refine pbr_t g35 ?_;(conv=>whnf));cases h34;exact ⟨(.cons rfl (.cons rfl (.cons rfl (.cons rfl (.cons rfl (.cons rfl (.cons rfl (.cons rfl (.cons rfl (.cons rfl .nil)))))))))), rfl⟩
                · (conv=>whnf);(iterate 4 refine pbr_f g35 ?_;(conv=>whnf));refine pbr_ogrd h34 (fun g36 h34 => ?_);(conv=>whnf);refine nth_o (l := a0) h34 (fun x37 _ h34 => ?_);(conv=>whnf);(iterate 3 refine pbr_f g35 ?_;(conv=>whnf));refine pbr_oite h34 (fun g38 h34 => ?_) (fun g38 h34 => ?_)
                  · (conv=>whnf);(iterate 4 refine pbr_t g38 ?_;(conv=>whnf));refine pbr_t g36 ?_;(conv=>whnf);refine nth_o (l := a1) h34 (fun x39 _ h34 => ?_);(conv=>whnf);refine pbr_t g38 ?_;(conv=>whnf);refine pbr_t g38 ?_;(conv=>whnf);refine pbr_f g35 ?_;(conv=>whnf);refine pbr_t g38 ?_;(conv=>whnf);refine pbr_f g35 ?_;(conv=>whnf);cases h34;exact ⟨(.cons rfl (.cons rfl (.cons rfl (.cons rfl (.cons rfl (.cons rfl (.cons rfl (.cons rfl (.cons rfl (.cons rfl .nil)))))))))), rfl⟩
                  · (conv=>whnf);(iterate 6 refine pbr_f g38 ?_;(conv=>whnf));refine pbr_f g35 ?_;(conv=>whnf);refine pbr_f g38 ?_;(conv=>whnf);refine pbr_f g35 ?_;(conv=>whnf);cases h34;exact ⟨(.cons rfl (.cons rfl (.cons rfl (.cons rfl (.cons rfl (.cons rfl (.cons rfl (.cons rfl (.cons rfl (.cons rfl .nil)))))))))), rfl⟩
              · refine po_all ?_;(conv=>whnf);obtain ⟨y40, h41, h17⟩ := obnd_some h17;refine (c64 h41).go ?_;(conv=>whnf);obtain ⟨y42, h43, h17⟩ := obnd_some h17;refine ICalls.goW (c63 h43) (.cons (.vt _ _ _) .nil) ?_;(conv=>whnf);refine pwa ?_;(conv=>whnf);refine pw_cond ?_;(conv=>whnf);refine pbr_oite h17 (fun g44 h17 => ?_) (fun g44 h17 => ?_)
                · (conv=>whnf);refine pwa ?_;(conv=>whnf);refine pw_ret ?_;(conv=>whnf);cases h17;refine ⟨_, rfl, ?_⟩; rintro rfl;(conv=>whnf);obtain rfl := h14 _ rfl; rfl
                · (conv=>whnf);refine pw_skip ?_;(conv=>whnf);refine pw_ops ?_;refine po_all ?_;(conv=>whnf);cases h17;refine ⟨_, rfl, ?_⟩;refine Recast.trunc (nl rfl) ?_ ?_
                  · repeat (first | exact .nil | refine .cons rfl (by first | exact OBnd.rwc (nl rfl) rfl | exact OBnd.tail (nl rfl) | trivial) ?_)
                  · repeat (first | exact .nil | refine .cons rfl (by first | exact Bnd.ptr (nl rfl) | exact Bnd.vt (nl rfl) | exact Bnd.cl) ?_)
          · (conv=>whnf);refine pw_exit ?_;(conv=>whnf);cases h17;refine ⟨_, rfl, ?_⟩; rintro rfl;(conv=>whnf);exact ⟨_, rfl, ⟨(.cons rfl (.cons rfl .nil)), rfl⟩⟩
      · intro r47 hr; have H := h13 _ hr;refine pw_seq ?_;refine pw_sd ?_;(conv=>whnf);refine ⟨?_, trivial⟩;(conv=>whnf);obtain ⟨y48, h49, H⟩ := obnd_some H;refine (c65 h49).go ?_;(conv=>whnf);refine ⟨by repeat (first | exact trivial | refine And.intro rfl ?_), ?_⟩;(conv=>whnf);refine ⟨?_, trivial⟩;(conv=>whnf);obtain ⟨y50, h51, H⟩ := obnd_some H;refine (c64 h51).go ?_;(conv=>whnf);refine ⟨by repeat (first | exact trivial | refine And.intro rfl ?_), ?_⟩;(conv=>whnf);refine ⟨?_, trivial⟩;(conv=>whnf);obtain ⟨y52, h53, H⟩ := obnd_some H;refine (c64 h53).go ?_;(conv=>whnf);refine ⟨by repeat (first | exact trivial | refine And.intro rfl ?_), ?_⟩
        (conv=>whnf);refine ⟨?_, trivial⟩;(conv=>whnf);refine ⟨by repeat (first | exact trivial | refine And.intro rfl ?_), ?_⟩;(conv=>whnf);refine ⟨?_, trivial⟩;(conv=>whnf);obtain ⟨y54, h55, H⟩ := obnd_some H;refine ICalls.goW (c63 h55) (.cons (.vt _ _ _) .nil) ?_;(conv=>whnf);refine ⟨by repeat (first | exact trivial | refine And.intro rfl ?_), ?_⟩;(conv=>whnf);refine pwa ?_;(conv=>whnf);refine pw_cond ?_;(conv=>whnf);refine pbr_oite H (fun g56 H => ?_) (fun g56 H => ?_)
        · (conv=>whnf);refine pwa ?_;(conv=>whnf);refine pw_ret ?_;(conv=>whnf);cases H; rfl
        · (conv=>whnf);refine pw_skip ?_;(conv=>whnf);obtain ⟨r57, h58, h59, h60⟩ := obndS_some H;refine pw_joinS (ρ := Unit) (fun e => ⟨[], ⟨3, [(2, .tail 2 1), (1, .tail 2 1), (0, .rw [(VS 1 (a0.map eI)), (VS 1 (a1.map eI)), (.int .i64 a2), (VS 2 (a3.map e_SI))])], false⟩⟩) r57 ?_ ?_
          · refine pwa ?_;(conv=>whnf);refine pw_block ?_;refine pw_loop (τ := Int) (fun e => ⟨[(1, (.pointer (some ⟨0, 0, none⟩))), (4, (.int .i64 ((a0.map eI).length : Int))), (110, (VS 2 (a3.map e_SI))), (111, (.int .i64 ((a3.map e_SI).length : Int))), (112, (.int .i64 e))], ⟨3, [(2, .tail 2 1), (1, .tail 2 1), (0, .rw [(VS 1 (a0.map eI)), (VS 1 (a1.map eI)), (.int .i64 a2), (VS 2 (a3.map e_SI))])], false⟩⟩) h58 ?_ (fun _ => nl rfl) ?_
            · exact .sub' (nl rfl) (.cons rfl (.cons rfl (.cons rfl (.cons rfl (.cons rfl .nil)))))
            · intro e61 x62 h63;refine pwa ?_;(conv=>whnf);refine pw_seq ?_;refine pw_cond ?_;(conv=>whnf);refine pbr_oite h63 (fun g64 h63 => ?_) (fun g64 h63 => ?_)
              · (conv=>whnf);refine pw_skip ?_;(conv=>whnf);refine pw_seq ?_;refine pw_block ?_;refine pwa ?_;(conv=>whnf);refine pbr_ogrd h63 (fun g65 h63 => ?_);(conv=>whnf);refine nth_o (l := a3) h63 (fun x66 _ h63 => ?_);(conv=>whnf);refine pwa ?_;(conv=>whnf);refine oslH_o (f := e_SI) h63 (fun m67 _ h63 h68 h69 => ?_);refine pbr_t (ile_t h68.1) ?_;(conv=>whnf);refine pbr_t (ile_t (by simpa only [List.length_map] using h68.2)) ?_; rw [h69];(conv=>whnf);obtain ⟨y70, h71, h63⟩ := obnd_some h63;refine ICalls.goD (c86 (fun _ _ _ h => (c87 h)) h71) (.cons .cl (.cons (.func .nil (.cons (.ptr rfl (by intro v hv; simp only [List.mem_cons, List.not_mem_nil, or_false] at hv; rcases hv with rfl | rfl <;> rfl)) .nil)) .nil)) rfl ?_
                (conv=>whnf);refine pw_sd ?_;(conv=>whnf);refine ⟨?_, trivial⟩;(conv=>whnf);obtain ⟨y72, h73, h63⟩ := obnd_some h63;refine (c88 h73).go ?_;(conv=>whnf);refine ⟨by repeat (first | exact trivial | refine And.intro rfl ?_), ?_⟩;(conv=>whnf);refine ⟨?_, trivial⟩;(conv=>whnf);obtain ⟨y74, h75, h63⟩ := obnd_some h63;refine (c64 h75).go ?_;(conv=>whnf);refine ⟨by repeat (first | exact trivial | refine And.intro rfl ?_), ?_⟩;(conv=>whnf);refine ⟨?_, trivial⟩;(conv=>whnf);obtain ⟨y76, h77, h63⟩ := obnd_some h63;refine (c64 h77).go ?_;(conv=>whnf);refine ⟨by repeat (first | exact trivial | refine And.intro rfl ?_), ?_⟩
                (conv=>whnf);refine ⟨?_, trivial⟩;(conv=>whnf);obtain ⟨y78, h79, h63⟩ := obnd_some h63;refine (c65 h79).go ?_;(conv=>whnf);refine ⟨by repeat (first | exact trivial | refine And.intro rfl ?_), ?_⟩;(conv=>whnf);refine ⟨?_, trivial⟩;(conv=>whnf);obtain ⟨y80, h81, h63⟩ := obnd_some h63;refine (c64 h81).go ?_;(conv=>whnf);refine ⟨by repeat (first | exact trivial | refine And.intro rfl ?_), ?_⟩;(conv=>whnf);refine ⟨?_, trivial⟩;(conv=>whnf);refine ⟨by repeat (first | exact trivial | refine And.intro rfl ?_), ?_⟩;(conv=>whnf);refine ⟨?_, trivial⟩;(conv=>whnf);obtain ⟨y82, h83, h63⟩ := obnd_some h63;refine ICalls.goW (c63 h83) (.cons (.vt _ _ _) .nil) ?_
                (conv=>whnf);refine ⟨by repeat (first | exact trivial | refine And.intro rfl ?_), ?_⟩;(conv=>whnf);refine pwa ?_;(conv=>whnf);refine pw_cond ?_;(conv=>whnf);refine pbr_oite h63 (fun g84 h63 => ?_) (fun g84 h63 => ?_)
                · (conv=>whnf);refine pwa ?_;(conv=>whnf);refine pw_ret ?_;(conv=>whnf);cases h63;refine ⟨_, rfl, ?_⟩; rintro rfl;(conv=>whnf);obtain rfl := h60 _ rfl; rfl
                · (conv=>whnf);refine pw_skip ?_;(conv=>whnf);refine pw_ops ?_;refine po_all ?_;(conv=>whnf);cases h63;refine ⟨_, rfl, ?_⟩;refine Recast.trunc (nl rfl) ?_ ?_
                  · repeat (first | exact .nil | refine .cons rfl (by first | exact OBnd.rwc (nl rfl) rfl | exact OBnd.tail (nl rfl) | trivial) ?_)
                  · repeat (first | exact .nil | refine .cons rfl (by first | exact Bnd.ptr (nl rfl) | exact Bnd.vt (nl rfl) | exact Bnd.cl) ?_)
              · (conv=>whnf);refine pw_exit ?_;(conv=>whnf);cases h63;refine ⟨_, rfl, ?_⟩; rintro rfl;(conv=>whnf);exact ⟨_, rfl, ⟨.nil, rfl⟩⟩
          · intro r87 hr; have H := h59 _ hr;refine pwa ?_;(conv=>whnf);refine pw_ret ?_;(conv=>whnf);cases H; rfl

/-- guidevane/dam.open -/
noncomputable def f79 [LO]  (a0 : List Int) (a1 : List Int) (a2 : Int) (a3 : List (ByteArray × Int)) : Option ((List Int) × (List Int) × Int × (List (ByteArray × Int)) × Int) :=
 obnd (f43 a0 a1 a2 a3) fun (y1 : Int × Int) =>
 some (a0, a1, a2, a3, y1.2)
set_option maxHeartbeats 1000000 in
theorem c79 [LO]  {a0 : List Int} {a1 : List Int} {a2 : Int} {a3 : List (ByteArray × Int)} {x : (List Int) × (List Int) × Int × (List (ByteArray × Int)) × Int} (H : f79 a0 a1 a2 a3 = some x) : ICalls E 79 [(.agg ⟨[(VS 1 (a0.map eI)), (VS 1 (a1.map eI)), (.int .i64 a2), (VS 2 (a3.map e_SI))]⟩)] AHeap.none fun v _ => v = (.tuple ⟨[(.agg ⟨[(VS 1 (x.1.map eI)), (VS 1 (x.2.1.map eI)), (.int .i64 x.2.2.1), (VS 2 (x.2.2.2.1.map e_SI))]⟩), (.int .i64 x.2.2.2.2)]⟩) := by
  refine ICalls.frz ?_;refine icalls_fn (pfnw ?_); unfold f79 at H;(conv=>whnf);refine pwa ?_;(conv=>whnf);refine pwa ?_;(conv=>whnf);obtain ⟨y1, h2, H⟩ := obnd_some H;refine (c43 h2).go ?_;(conv=>whnf);refine pwa ?_;(conv=>whnf);refine pw_ret ?_;(conv=>whnf);cases H; show ∃ D, Fz _ D 0 (.tuple ⟨[(.agg ⟨[(VS 1 _), (VS 1 _), (.int .i64 a2), (VS 2 _)]⟩), (.int .i64 y1.2)]⟩) _;exact ⟨fun _ => false, .tuplel (.cons .cl (.cons .cl (.nil)))⟩

/-- guidevane/dam.isDeviation -/
noncomputable def f82  (a0 : Int) : Option Bool :=
 obnd (f65 a0 (0 : Int) (1000000 : Int)) fun (y1 : Bool) =>
 some y1
set_option maxHeartbeats 1000000 in
theorem c82  {a0 : Int} {x : Bool} (H : f82 a0 = some x) : ICalls E 82 [(.int .i64 a0)] AHeap.none fun v _ => v = (.bool x) := by
  refine icalls_fn (pfnw ?_); unfold f82 at H;(conv=>whnf);refine pwa ?_;(conv=>whnf);refine pwa ?_;(conv=>whnf);obtain ⟨y1, h2, H⟩ := obnd_some H;refine (c65 h2).go ?_;(conv=>whnf);refine pw_ret ?_;(conv=>whnf);cases H; rfl

/-- cmp.isNaN[int] -/
noncomputable def f121  (a0 : Int) : Option Bool :=
 some (!(ieq a0 a0))
set_option maxHeartbeats 1000000 in
theorem c121  {a0 : Int} {x : Bool} (H : f121 a0 = some x) : ICalls E 121 [(.int .i64 a0)] AHeap.none fun v _ => v = (.bool x) := by
  refine icalls_fn (pfnw ?_); unfold f121 at H;(conv=>whnf);refine pwa ?_;(conv=>whnf);refine pwa ?_;(conv=>whnf);refine pw_ret ?_;(conv=>whnf);cases H; rfl

/-- cmp.Less[int] -/
noncomputable def f122  (a0 : Int) (a1 : Int) : Option Bool :=
 obnd (f121 a0) fun (y1 : Bool) =>
 obnd (
 oite y1 (
 obnd (f121 a1) fun (y6 : Bool) =>
 some (!y6)
 ) (
 some false)
 ) fun (r3 : Bool) =>
 obnd (
 oite r3 (
 some true
 ) (
 some (ilt a0 a1))
 ) fun (r8 : Bool) =>
 some r8
set_option maxHeartbeats 1000000 in
theorem c122  {a0 : Int} {a1 : Int} {x : Bool} (H : f122 a0 a1 = some x) : ICalls E 122 [(.int .i64 a0), (.int .i64 a1)] AHeap.none fun v _ => v = (.bool x) := by
  refine icalls_fn (pfnw ?_); unfold f122 at H;(conv=>whnf);refine pwa ?_;(conv=>whnf);refine pw_so ?_;refine po_ops 3 ?_;(conv=>whnf);obtain ⟨y1, h2, H⟩ := obnd_some H;refine (c121 h2).go ?_;(conv=>whnf);obtain ⟨r3, h4, H⟩ := obnd_some H;refine po_seg (τ := Bool) 4 (fun e => ⟨[(0, (.int .i64 a0)), (1, (.int .i64 a1)), (11, (.bool e))], ⟨0, [], false⟩⟩) r3 ?_ ?_
  · refine po_all ?_;(conv=>whnf);refine pbr_oite h4 (fun g5 h4 => ?_) (fun g5 h4 => ?_)
    · (conv=>whnf);refine pbr_t g5 ?_;(conv=>whnf);obtain ⟨y6, h7, h4⟩ := obnd_some h4;refine (c121 h7).go ?_;(conv=>whnf);refine pbr_t g5 ?_;(conv=>whnf);refine pbr_t g5 ?_;(conv=>whnf);cases h4;exact ⟨(.cons rfl (.cons rfl (.cons rfl .nil))), rfl⟩
    · (conv=>whnf);(iterate 3 refine pbr_f g5 ?_;(conv=>whnf));cases h4;exact ⟨(.cons rfl (.cons rfl (.cons rfl .nil))), rfl⟩
  · refine po_ops 1 ?_;(conv=>whnf);obtain ⟨r8, h9, H⟩ := obnd_some H;refine po_seg (τ := Bool) 4 (fun e => ⟨[(16, (.bool e))], ⟨0, [], false⟩⟩) r8 ?_ ?_
    · refine po_all ?_;(conv=>whnf);refine pbr_oite h9 (fun g10 h9 => ?_) (fun g10 h9 => ?_)
      · (conv=>whnf);(iterate 3 refine pbr_t g10 ?_;(conv=>whnf));cases h9;exact ⟨(.cons rfl .nil), rfl⟩
      · (conv=>whnf);(iterate 3 refine pbr_f g10 ?_;(conv=>whnf));cases h9;exact ⟨(.cons rfl .nil), rfl⟩
    · refine po_all ?_;(conv=>whnf);refine pw_ret ?_;(conv=>whnf);cases H; rfl

/-- slices.isNaN[int] -/
noncomputable def f123  (a0 : Int) : Option Bool :=
 some (!(ieq a0 a0))
set_option maxHeartbeats 1000000 in
theorem c123  {a0 : Int} {x : Bool} (H : f123 a0 = some x) : ICalls E 123 [(.int .i64 a0)] AHeap.none fun v _ => v = (.bool x) := by
  refine icalls_fn (pfnw ?_); unfold f123 at H;(conv=>whnf);refine pwa ?_;(conv=>whnf);refine pwa ?_;(conv=>whnf);refine pw_ret ?_;(conv=>whnf);cases H; rfl

/-- slices.BinarySearch[[]int,int] -/
noncomputable def f112 [LO]  (a0 : List Int) (a1 : Int) : Option (Int × Bool) :=
 obnd (
 oloop (τ := Int × Int) (ρ := Int) (fun e5 =>
 oite ((ilt e5.1 e5.2)) (
 ogrd ((ile 0 (IntKind.i64.wrap ((IntKind.u64.wrap (IntKind.i64.wrap (e5.1 + e5.2))).fdiv (2 ^ (min (1 : Int).toNat (IntKind.bits .u64))))))) (
 obnd (a0[(IntKind.i64.wrap ((IntKind.u64.wrap (IntKind.i64.wrap (e5.1 + e5.2))).fdiv (2 ^ (min (1 : Int).toNat (IntKind.bits .u64))))).toNat]?) fun (x10 : Int) =>
 obnd (f122 x10 a1) fun (y11 : Bool) =>
 oite y11 (
 some (.inl (((IntKind.i64.wrap ((IntKind.i64.wrap ((IntKind.u64.wrap (IntKind.i64.wrap (e5.1 + e5.2))).fdiv (2 ^ (min (1 : Int).toNat (IntKind.bits .u64))))) + (1 : Int))), e5.2)))
 ) (
 some (.inl ((e5.1, (IntKind.i64.wrap ((IntKind.u64.wrap (IntKind.i64.wrap (e5.1 + e5.2))).fdiv (2 ^ (min (1 : Int).toNat (IntKind.bits .u64))))))))))
 ) (
 some (.inr (e5.1)))
 ) (((0 : Int), ((a0.map eI).length : Int)))
 ) fun (r1 : Int) =>
 obnd (
 oite ((ilt r1 ((a0.map eI).length : Int))) (
 ogrd ((ile 0 r1)) (
 obnd (a0[r1.toNat]?) fun (x19 : Int) =>
 oite ((ieq x19 a1)) (
 some true
 ) (
 obnd (a0[r1.toNat]?) fun (x21 : Int) =>
 obnd (f123 x21) fun (y22 : Bool) =>
 oite y22 (
 obnd (f123 a1) fun (y25 : Bool) =>
 some y25
 ) (
 some false)))
 ) (
 some false)
 ) fun (r15 : Bool) =>
 some (r1, r15)
set_option maxHeartbeats 1000000 in
theorem c112 [LO]  {a0 : List Int} {a1 : Int} {x : Int × Bool} (H : f112 a0 a1 = some x) : ICalls E 112 [(VS 1 (a0.map eI)), (.int .i64 a1)] AHeap.none fun v _ => v = (.tuple ⟨[(.int .i64 x.1), (.bool x.2)]⟩) := by
  refine icalls_fn (pfnw ?_); unfold f112 at H;(conv=>whnf);refine pwa ?_;(conv=>whnf);refine pwa ?_;(conv=>whnf);refine pwa ?_;(conv=>whnf);obtain ⟨r1, h2, H⟩ := obnd_some H;refine pw_join (ρ := Int) (fun e => ⟨[(0, (VS 1 (a0.map eI))), (1, (.int .i64 a1)), (6, (.int .i64 ((a0.map eI).length : Int))), (7, (.int .i64 e))], ⟨0, [], false⟩⟩) r1 ?_ ?_
  · refine pw_block ?_;refine pw_loop (τ := Int × Int) (fun e => ⟨[(0, (VS 1 (a0.map eI))), (1, (.int .i64 a1)), (6, (.int .i64 ((a0.map eI).length : Int))), (7, (.int .i64 e.1)), (8, (.int .i64 e.2))], ⟨0, [], false⟩⟩) h2 ?_ (fun _ => nl rfl) ?_
    · exact .sub' (nl rfl) (.cons rfl (.cons rfl (.cons rfl (.cons rfl (.cons rfl .nil)))))
    · intro e5 x6 h7;refine pw_seq ?_;refine pwa ?_;(conv=>whnf);refine pw_cond ?_;(conv=>whnf);refine pbr_oite h7 (fun g8 h7 => ?_) (fun g8 h7 => ?_)
      · (conv=>whnf);refine pw_skip ?_;(conv=>whnf);refine pw_block ?_;refine pwa ?_;(conv=>whnf);refine pwa ?_;(conv=>whnf);refine pbr_ogrd h7 (fun g9 h7 => ?_);(conv=>whnf);refine nth_o (l := a0) h7 (fun x10 _ h7 => ?_);(conv=>whnf);obtain ⟨y11, h12, h7⟩ := obnd_some h7;refine (c122 h12).go ?_;(conv=>whnf);refine pw_cond ?_;(conv=>whnf);refine pbr_oite h7 (fun g13 h7 => ?_) (fun g13 h7 => ?_)
        · (conv=>whnf);refine pw_ops ?_;refine po_all ?_;(conv=>whnf);cases h7;refine ⟨_, rfl, ?_⟩;exact .sub' (nl rfl) (.cons rfl (.cons rfl (.cons rfl (.cons rfl (.cons rfl .nil)))))
        · (conv=>whnf);refine pw_ops ?_;refine po_all ?_;(conv=>whnf);cases h7;refine ⟨_, rfl, ?_⟩;exact .sub' (nl rfl) (.cons rfl (.cons rfl (.cons rfl (.cons rfl (.cons rfl .nil)))))
      · (conv=>whnf);refine pw_exit ?_;(conv=>whnf);cases h7;refine ⟨_, rfl, ?_⟩; rintro rfl;(conv=>whnf);exact ⟨(.cons rfl (.cons rfl (.cons rfl (.cons rfl .nil)))), rfl⟩
  · refine pw_so ?_;refine po_ops 5 ?_;(conv=>whnf);obtain ⟨r15, h16, H⟩ := obnd_some H;refine po_seg (τ := Bool) 18 (fun e => ⟨[(31, (.int .i64 r1)), (53, (.bool e))], ⟨0, [], false⟩⟩) r15 ?_ ?_
    · refine po_all ?_;(conv=>whnf);refine pbr_oite h16 (fun g17 h16 => ?_) (fun g17 h16 => ?_)
      · (conv=>whnf);refine pbr_t g17 ?_;(conv=>whnf);refine pbr_t g17 ?_;(conv=>whnf);refine pbr_ogrd h16 (fun g18 h16 => ?_);(conv=>whnf);refine nth_o (l := a0) h16 (fun x19 _ h16 => ?_);(conv=>whnf);(iterate 4 refine pbr_t g17 ?_;(conv=>whnf));refine pbr_oite h16 (fun g20 h16 => ?_) (fun g20 h16 => ?_)
        · (conv=>whnf);(iterate 6 refine pbr_t g20 ?_;(conv=>whnf));refine pbr_t g17 ?_;(conv=>whnf);refine pbr_t g20 ?_;(conv=>whnf);refine pbr_t g17 ?_;(conv=>whnf);cases h16;exact ⟨(.cons rfl (.cons rfl .nil)), rfl⟩
        · (conv=>whnf);refine pbr_f g20 ?_;(conv=>whnf);refine pbr_f g20 ?_;(conv=>whnf);refine pbr_t g18 ?_;(conv=>whnf);refine nth_o (l := a0) h16 (fun x21 _ h16 => ?_);(conv=>whnf);refine pbr_f g20 ?_;(conv=>whnf);refine pbr_f g20 ?_;(conv=>whnf);obtain ⟨y22, h23, h16⟩ := obnd_some h16;refine (c123 h23).go ?_;(conv=>whnf);refine pbr_f g20 ?_;(conv=>whnf);refine pbr_oite h16 (fun g24 h16 => ?_) (fun g24 h16 => ?_)
          · (conv=>whnf);refine pbr_t g24 ?_;(conv=>whnf);obtain ⟨y25, h26, h16⟩ := obnd_some h16;refine (c123 h26).go ?_;(conv=>whnf);refine pbr_f g20 ?_;(conv=>whnf);refine pbr_t g24 ?_;(conv=>whnf);refine pbr_t g17 ?_;(conv=>whnf);refine pbr_f g20 ?_;(conv=>whnf);refine pbr_t g17 ?_;(conv=>whnf);cases h16;exact ⟨(.cons rfl (.cons rfl .nil)), rfl⟩
          · (conv=>whnf);refine pbr_f g24 ?_;(conv=>whnf);refine pbr_f g20 ?_;(conv=>whnf);refine pbr_f g24 ?_;(conv=>whnf);refine pbr_t g17 ?_;(conv=>whnf);refine pbr_f g20 ?_;(conv=>whnf);refine pbr_t g17 ?_;(conv=>whnf);cases h16;exact ⟨(.cons rfl (.cons rfl .nil)), rfl⟩
      · (conv=>whnf);(iterate 8 refine pbr_f g17 ?_;(conv=>whnf));cases h16;exact ⟨(.cons rfl (.cons rfl .nil)), rfl⟩
    · refine po_all ?_;(conv=>whnf);refine pw_ret ?_;(conv=>whnf);cases H; rfl

/-- (guidevane/dam.rules).asked -/
noncomputable def f89 [LO]  (a0 : List Int) (_ : List Int) (_ : Int) (_ : List (ByteArray × Int)) (a4 : Int) : Option Int :=
 obnd (f112 a0 a4) fun (y1 : Int × Bool) =>
 oite y1.2 (
 some (IntKind.i64.wrap (y1.1 + (1 : Int)))
 ) (
 some y1.1)
set_option maxHeartbeats 1000000 in
theorem c89 [LO]  {a0 : List Int} {a1 : List Int} {a2 : Int} {a3 : List (ByteArray × Int)} {a4 : Int} {x : Int} (H : f89 a0 a1 a2 a3 a4 = some x) : ICalls E 89 [(.agg ⟨[(VS 1 (a0.map eI)), (VS 1 (a1.map eI)), (.int .i64 a2), (VS 2 (a3.map e_SI))]⟩), (.int .i64 a4)] AHeap.none fun v _ => v = (.int .i64 x) := by
  refine icalls_fn (pfnw ?_); unfold f89 at H;(conv=>whnf);refine pwa ?_;(conv=>whnf);refine pwa ?_;(conv=>whnf);obtain ⟨y1, h2, H⟩ := obnd_some H;refine (c112 h2).go ?_;(conv=>whnf);refine pw_seq ?_;refine pwa ?_;(conv=>whnf);refine pw_cond ?_;(conv=>whnf);refine pbr_oite H (fun g3 H => ?_) (fun g3 H => ?_)
  · (conv=>whnf);refine pw_ops ?_;refine po_all ?_;(conv=>whnf);refine pwa ?_;(conv=>whnf);refine pw_ret ?_;(conv=>whnf);cases H; rfl
  · (conv=>whnf);refine pw_skip ?_;(conv=>whnf);refine pwa ?_;(conv=>whnf);refine pw_ret ?_;(conv=>whnf);cases H; rfl

/-- guidevane/dam.AskedFor -/
noncomputable def f44 [LO]  (a0 : List Int) (a1 : List Int) (a2 : Int) (a3 : List (ByteArray × Int)) (a4 : Int) : Option (Int × Int) :=
 obnd (f79 a0 a1 a2 a3) fun (y1 : (List Int) × (List Int) × Int × (List (ByteArray × Int)) × Int) =>
 obnd (f82 a4) fun (y3 : Bool) =>
 obnd (f64 y3 (2 : Int)) fun (y5 : Int) =>
 obnd (f63 ([y1.2.2.2.2, y5] : List Int)) fun (y7 : Int) =>
 oite ((!(ieq y7 (0 : Int)))) (
 some ((0 : Int), y7)
 ) (
 obnd (f89 y1.1 y1.2.1 y1.2.2.1 y1.2.2.2.1 a4) fun (y10 : Int) =>
 some (y10, (0 : Int)))
set_option maxHeartbeats 1000000 in
theorem c44 [LO]  {a0 : List Int} {a1 : List Int} {a2 : Int} {a3 : List (ByteArray × Int)} {a4 : Int} {x : Int × Int} (H : f44 a0 a1 a2 a3 a4 = some x) : ICalls E 44 [(.agg ⟨[(VS 1 (a0.map eI)), (VS 1 (a1.map eI)), (.int .i64 a2), (VS 2 (a3.map e_SI))]⟩), (.int .i64 a4)] AHeap.none fun v _ => v = (.tuple ⟨[(.int .i64 x.1), (.int .i64 x.2)]⟩) := by
  refine icalls_fn (pfnw ?_); unfold f44 at H;(conv=>whnf);refine pwa ?_;(conv=>whnf);refine pwa ?_;(conv=>whnf);obtain ⟨y1, h2, H⟩ := obnd_some H;refine (c79 h2).go ?_;(conv=>whnf);refine pw_seq ?_;refine pwa ?_;(conv=>whnf);obtain ⟨y3, h4, H⟩ := obnd_some H;refine (c82 h4).go ?_;(conv=>whnf);obtain ⟨y5, h6, H⟩ := obnd_some H;refine (c64 h6).go ?_;(conv=>whnf);obtain ⟨y7, h8, H⟩ := obnd_some H;refine ICalls.goW (c63 h8) (.cons (.vt _ _ _) .nil) ?_;(conv=>whnf);refine pwa ?_;(conv=>whnf);refine pw_cond ?_;(conv=>whnf);refine pbr_oite H (fun g9 H => ?_) (fun g9 H => ?_)
  · (conv=>whnf);refine pwa ?_;(conv=>whnf);refine pw_ret ?_;(conv=>whnf);cases H; rfl
  · (conv=>whnf);refine pw_skip ?_;(conv=>whnf);refine pwa ?_;(conv=>whnf);obtain ⟨y10, h11, H⟩ := obnd_some H;refine (c89 h11).go ?_;(conv=>whnf);refine pw_ret ?_;(conv=>whnf);cases H; rfl

/-- (guidevane/dam.rules).stateErr -/
noncomputable def f113 [LO]  (a0 : List Int) (_ : List Int) (_ : Int) (_ : List (ByteArray × Int)) (a4 : Int) (a5 : Int) (a6 : Int) : Option Int :=
 obnd (f65 a4 (0 : Int) ((a0.map eI).length : Int)) fun (y1 : Bool) =>
 obnd (
 oite y1 (
 obnd (f65 a5 (0 : Int) (1000000 : Int)) fun (y6 : Bool) =>
 some y6
 ) (
 some false)
 ) fun (r3 : Bool) =>
 obnd (
 oite r3 (
 obnd (f82 a6) fun (y11 : Bool) =>
 some y11
 ) (
 some false)
 ) fun (r8 : Bool) =>
 obnd (f64 r8 (2 : Int)) fun (y13 : Int) =>
 oite ((ilt (0 : Int) a4)) (
 obnd (f64 true (13 : Int)) fun (y16 : Int) =>
 obnd (f63 ([y13, y16] : List Int)) fun (y18 : Int) =>
 some y18
 ) (
 obnd (f64 (ieq a5 (0 : Int)) (13 : Int)) fun (y20 : Int) =>
 obnd (f63 ([y13, y20] : List Int)) fun (y22 : Int) =>
 some y22)
set_option maxHeartbeats 1000000 in
theorem c113 [LO]  {a0 : List Int} {a1 : List Int} {a2 : Int} {a3 : List (ByteArray × Int)} {a4 : Int} {a5 : Int} {a6 : Int} {x : Int} (H : f113 a0 a1 a2 a3 a4 a5 a6 = some x) : ICalls E 113 [(.agg ⟨[(VS 1 (a0.map eI)), (VS 1 (a1.map eI)), (.int .i64 a2), (VS 2 (a3.map e_SI))]⟩), (.agg ⟨[(.int .i64 a4), (.int .i64 a5), (.int .i64 a6)]⟩)] AHeap.none fun v _ => v = (.int .i64 x) := by
  refine icalls_fn (pfnw ?_); unfold f113 at H;(conv=>whnf);refine pwa ?_;(conv=>whnf);refine pw_so ?_;refine po_ops 8 ?_;(conv=>whnf);obtain ⟨y1, h2, H⟩ := obnd_some H;refine (c65 h2).go ?_;(conv=>whnf);obtain ⟨r3, h4, H⟩ := obnd_some H;refine po_seg (τ := Bool) 4 (fun e => ⟨[(3, (.pointer (some ⟨1, 0, none⟩))), (17, (.bool e))], ⟨2, [(1, .rw [(.int .i64 a4), (.int .i64 a5), (.int .i64 a6)]), (0, .rw [(VS 1 (a0.map eI)), (VS 1 (a1.map eI)), (.int .i64 a2), (VS 2 (a3.map e_SI))])], false⟩⟩) r3 ?_ ?_
  · refine po_all ?_;(conv=>whnf);refine pbr_oite h4 (fun g5 h4 => ?_) (fun g5 h4 => ?_)
    · (conv=>whnf);refine pbr_t g5 ?_;(conv=>whnf);refine pbr_t g5 ?_;(conv=>whnf);obtain ⟨y6, h7, h4⟩ := obnd_some h4;refine (c65 h7).go ?_;(conv=>whnf);refine pbr_t g5 ?_;(conv=>whnf);cases h4;exact ⟨(.cons rfl (.cons rfl .nil)), rfl⟩
    · (conv=>whnf);(iterate 3 refine pbr_f g5 ?_;(conv=>whnf));cases h4;exact ⟨(.cons rfl (.cons rfl .nil)), rfl⟩
  · refine po_ops 1 ?_;(conv=>whnf);obtain ⟨r8, h9, H⟩ := obnd_some H;refine po_seg (τ := Bool) 4 (fun e => ⟨[(3, (.pointer (some ⟨1, 0, none⟩))), (22, (.bool e))], ⟨2, [(1, .rw [(.int .i64 a4), (.int .i64 a5), (.int .i64 a6)]), (0, .rw [(VS 1 (a0.map eI)), (VS 1 (a1.map eI)), (.int .i64 a2), (VS 2 (a3.map e_SI))])], false⟩⟩) r8 ?_ ?_
    · refine po_all ?_;(conv=>whnf);refine pbr_oite h9 (fun g10 h9 => ?_) (fun g10 h9 => ?_)
      · (conv=>whnf);refine pbr_t g10 ?_;(conv=>whnf);refine pbr_t g10 ?_;(conv=>whnf);obtain ⟨y11, h12, h9⟩ := obnd_some h9;refine (c82 h12).go ?_;(conv=>whnf);refine pbr_t g10 ?_;(conv=>whnf);cases h9;exact ⟨(.cons rfl (.cons rfl .nil)), rfl⟩
      · (conv=>whnf);(iterate 3 refine pbr_f g10 ?_;(conv=>whnf));cases h9;exact ⟨(.cons rfl (.cons rfl .nil)), rfl⟩
    · refine po_all ?_;(conv=>whnf);refine pw_sd ?_;(conv=>whnf);refine ⟨?_, trivial⟩;(conv=>whnf);obtain ⟨y13, h14, H⟩ := obnd_some H;refine (c64 h14).go ?_;(conv=>whnf);refine ⟨by repeat (first | exact trivial | refine And.intro rfl ?_), ?_⟩;(conv=>whnf);refine pbr_oite H (fun g15 H => ?_) (fun g15 H => ?_)
      · (conv=>whnf);(iterate 3 refine pbr_t g15 ?_;(conv=>whnf));refine ⟨?_, trivial⟩;(conv=>whnf);obtain ⟨y16, h17, H⟩ := obnd_some H;refine (c64 h17).go ?_;(conv=>whnf);refine ⟨by repeat (first | exact trivial | refine And.intro rfl ?_), ?_⟩;(conv=>whnf);refine ⟨?_, trivial⟩;(conv=>whnf);refine ⟨by repeat (first | exact trivial | refine And.intro rfl ?_), ?_⟩;(conv=>whnf);refine ⟨?_, trivial⟩;(conv=>whnf);obtain ⟨y18, h19, H⟩ := obnd_some H;refine ICalls.goW (c63 h19) (.cons (.vt _ _ _) .nil) ?_;(conv=>whnf);refine ⟨by repeat (first | exact trivial | refine And.intro rfl ?_), ?_⟩
        (conv=>whnf);refine pw_ret ?_;(conv=>whnf);cases H; rfl
      · (conv=>whnf);(iterate 3 refine pbr_f g15 ?_;(conv=>whnf));refine ⟨?_, trivial⟩;(conv=>whnf);obtain ⟨y20, h21, H⟩ := obnd_some H;refine (c64 h21).go ?_;(conv=>whnf);refine ⟨by repeat (first | exact trivial | refine And.intro rfl ?_), ?_⟩;(conv=>whnf);refine ⟨?_, trivial⟩;(conv=>whnf);refine ⟨by repeat (first | exact trivial | refine And.intro rfl ?_), ?_⟩;(conv=>whnf);refine ⟨?_, trivial⟩;(conv=>whnf);obtain ⟨y22, h23, H⟩ := obnd_some H;refine ICalls.goW (c63 h23) (.cons (.vt _ _ _) .nil) ?_;(conv=>whnf);refine ⟨by repeat (first | exact trivial | refine And.intro rfl ?_), ?_⟩
        (conv=>whnf);refine pw_ret ?_;(conv=>whnf);cases H; rfl

/-- guidevane/dam.openState -/
noncomputable def f90 [LO]  (a0 : List Int) (a1 : List Int) (a2 : Int) (a3 : List (ByteArray × Int)) (a4 : Int) (a5 : Int) (a6 : Int) : Option ((List Int) × (List Int) × Int × (List (ByteArray × Int)) × Int) :=
 obnd (f79 a0 a1 a2 a3) fun (y1 : (List Int) × (List Int) × Int × (List (ByteArray × Int)) × Int) =>
 obnd (
 oite ((ieq y1.2.2.2.2 (0 : Int))) (
 obnd (f113 y1.1 y1.2.1 y1.2.2.1 y1.2.2.2.1 a4 a5 a6) fun (y8 : Int) =>
 some y8
 ) (
 some y1.2.2.2.2)
 ) fun (r3 : Int) =>
 some (y1.1, y1.2.1, y1.2.2.1, y1.2.2.2.1, r3)
set_option maxHeartbeats 1000000 in
theorem c90 [LO]  {a0 : List Int} {a1 : List Int} {a2 : Int} {a3 : List (ByteArray × Int)} {a4 : Int} {a5 : Int} {a6 : Int} {x : (List Int) × (List Int) × Int × (List (ByteArray × Int)) × Int} (H : f90 a0 a1 a2 a3 a4 a5 a6 = some x) : ICalls E 90 [(.agg ⟨[(VS 1 (a0.map eI)), (VS 1 (a1.map eI)), (.int .i64 a2), (VS 2 (a3.map e_SI))]⟩), (.agg ⟨[(.int .i64 a4), (.int .i64 a5), (.int .i64 a6)]⟩)] AHeap.none fun v _ => v = (.tuple ⟨[(.agg ⟨[(VS 1 (x.1.map eI)), (VS 1 (x.2.1.map eI)), (.int .i64 x.2.2.1), (VS 2 (x.2.2.2.1.map e_SI))]⟩), (.int .i64 x.2.2.2.2)]⟩) := by
  refine ICalls.frz ?_;refine icalls_fn (pfnw ?_); unfold f90 at H;(conv=>whnf);refine pwa ?_;(conv=>whnf);refine pwa ?_;(conv=>whnf);obtain ⟨y1, h2, H⟩ := obnd_some H;refine (c79 h2).go ?_;(conv=>whnf);obtain ⟨r3, h4, H⟩ := obnd_some H;refine pw_join (ρ := Int) (fun e => ⟨[(4, (.pointer (some ⟨2, 0, none⟩))), (6, (.pointer (some ⟨3, 0, none⟩))), (7, (.int .i64 e))], ⟨4, [(3, .rw [(VS 1 (y1.1.map eI)), (VS 1 (y1.2.1.map eI)), (.int .i64 y1.2.2.1), (VS 2 (y1.2.2.2.1.map e_SI))]), (2, .rw [(.slice none 0 0), (.slice none 0 0), (.int .i64 0), (.slice none 0 0)]), (1, .rw [(.int .i64 a4), (.int .i64 a5), (.int .i64 a6)]), (0, .rw [(VS 1 (a0.map eI)), (VS 1 (a1.map eI)), (.int .i64 a2), (VS 2 (a3.map e_SI))])], false⟩⟩) r3 ?_ ?_
  · refine pwa ?_;(conv=>whnf);refine pw_cond ?_;(conv=>whnf);refine pbr_oite h4 (fun g7 h4 => ?_) (fun g7 h4 => ?_)
    · (conv=>whnf);refine pw_ops ?_;refine po_all ?_;(conv=>whnf);obtain ⟨y8, h9, h4⟩ := obnd_some h4;refine (c113 h9).go ?_;(conv=>whnf);cases h4;exact ⟨(.cons rfl (.cons rfl (.cons rfl .nil))), rfl⟩
    · (conv=>whnf);refine pw_skip ?_;(conv=>whnf);cases h4;exact ⟨(.cons rfl (.cons rfl (.cons rfl .nil))), rfl⟩
  · refine pwa ?_;(conv=>whnf);refine pw_ret ?_;(conv=>whnf);cases H; show ∃ D, Fz _ D 0 (.tuple ⟨[(.agg ⟨[(VS 1 _), (VS 1 _), (.int .i64 y1.2.2.1), (VS 2 _)]⟩), (.int .i64 r3)]⟩) _;exact ⟨fun _ => false, .tuplel (.cons .cl (.cons .cl (.nil)))⟩

/-- (guidevane/dam.rules).watched -/
noncomputable def f83 [LO]  (a0 : List Int) (a1 : List Int) (a2 : Int) (a3 : List (ByteArray × Int)) (a4 : Int) (a5 : Int) (_ : Int) (a7 : Int) : Option (Int × Int × Int) :=
 obnd (f89 a0 a1 a2 a3 a7) fun (y1 : Int) =>
 oite ((ilt a4 y1)) (
 some (y1, (0 : Int), a7)
 ) (
 obnd (
 oite ((ilt (0 : Int) a4)) (
 ogrd ((ile 0 (IntKind.i64.wrap (a4 - (1 : Int))))) (
 obnd (a1[(IntKind.i64.wrap (a4 - (1 : Int))).toNat]?) fun (x8 : Int) =>
 some (ilt a7 x8))
 ) (
 some false)
 ) fun (r4 : Bool) =>
 oite r4 (
 some (a4, (imin (IntKind.i64.wrap (a5 + (1 : Int))) (1000000 : Int)), a7)
 ) (
 some (a4, (0 : Int), a7)))
set_option maxHeartbeats 1000000 in
theorem c83 [LO]  {a0 : List Int} {a1 : List Int} {a2 : Int} {a3 : List (ByteArray × Int)} {a4 : Int} {a5 : Int} {a6 : Int} {a7 : Int} {x : Int × Int × Int} (H : f83 a0 a1 a2 a3 a4 a5 a6 a7 = some x) : ICalls E 83 [(.agg ⟨[(VS 1 (a0.map eI)), (VS 1 (a1.map eI)), (.int .i64 a2), (VS 2 (a3.map e_SI))]⟩), (.agg ⟨[(.int .i64 a4), (.int .i64 a5), (.int .i64 a6)]⟩), (.int .i64 a7)] AHeap.none fun v _ => v = (.agg ⟨[(.int .i64 x.1), (.int .i64 x.2.1), (.int .i64 x.2.2)]⟩) := by
  refine icalls_fn (pfnw ?_); unfold f83 at H;(conv=>whnf);refine pwa ?_;(conv=>whnf);refine pwa ?_;(conv=>whnf);refine pw_seq ?_;refine pwa ?_;(conv=>whnf);obtain ⟨y1, h2, H⟩ := obnd_some H;refine (c89 h2).go ?_;(conv=>whnf);refine pw_block ?_;refine pwa ?_;(conv=>whnf);refine pw_cond ?_;(conv=>whnf);refine pbr_oite H (fun g3 H => ?_) (fun g3 H => ?_)
  · (conv=>whnf);refine pw_ops ?_;refine po_all ?_;(conv=>whnf);refine pwa ?_;(conv=>whnf);refine pw_ret ?_;(conv=>whnf);cases H; rfl
  · (conv=>whnf);refine pw_so ?_;refine po_ops 4 ?_;(conv=>whnf);obtain ⟨r4, h5, H⟩ := obnd_some H;refine po_seg (τ := Bool) 11 (fun e => ⟨[(4, (.pointer (some ⟨1, 0, none⟩))), (6, (.pointer (some ⟨2, 0, none⟩))), (37, (.bool e))], ⟨3, [(2, .rw [(.int .i64 0), (.int .i64 0), (.int .i64 0)]), (1, .rw [(.int .i64 a4), (.int .i64 a5), (.int .i64 a7)]), (0, .rw [(VS 1 (a0.map eI)), (VS 1 (a1.map eI)), (.int .i64 a2), (VS 2 (a3.map e_SI))])], false⟩⟩) r4 ?_ ?_
    · refine po_all ?_;(conv=>whnf);refine pbr_oite h5 (fun g6 h5 => ?_) (fun g6 h5 => ?_)
      · (conv=>whnf);(iterate 7 refine pbr_t g6 ?_;(conv=>whnf));refine pbr_ogrd h5 (fun g7 h5 => ?_);(conv=>whnf);refine nth_o (l := a1) h5 (fun x8 _ h5 => ?_);(conv=>whnf);(iterate 3 refine pbr_t g6 ?_;(conv=>whnf));cases h5;exact ⟨(.cons rfl (.cons rfl (.cons rfl .nil))), rfl⟩
      · (conv=>whnf);(iterate 10 refine pbr_f g6 ?_;(conv=>whnf));cases h5;exact ⟨(.cons rfl (.cons rfl (.cons rfl .nil))), rfl⟩
    · refine po_all ?_;(conv=>whnf);refine pw_cond ?_;(conv=>whnf);refine pbr_oite H (fun g9 H => ?_) (fun g9 H => ?_)
      · (conv=>whnf);refine pw_ops ?_;refine po_all ?_;(conv=>whnf);refine pwa ?_;(conv=>whnf);refine pw_ret ?_;(conv=>whnf);cases H; rfl
      · (conv=>whnf);refine pw_ops ?_;refine po_all ?_;(conv=>whnf);refine pwa ?_;(conv=>whnf);refine pw_ret ?_;(conv=>whnf);cases H; rfl

/-- guidevane/dam.Watched -/
noncomputable def f45 [LO]  (a0 : List Int) (a1 : List Int) (a2 : Int) (a3 : List (ByteArray × Int)) (a4 : Int) (a5 : Int) (a6 : Int) (a7 : Int) : Option (Int × Int × Int × Int) :=
 obnd (f90 a0 a1 a2 a3 a4 a5 a6) fun (y1 : (List Int) × (List Int) × Int × (List (ByteArray × Int)) × Int) =>
 obnd (f82 a7) fun (y3 : Bool) =>
 obnd (f64 y3 (2 : Int)) fun (y5 : Int) =>
 obnd (f63 ([y1.2.2.2.2, y5] : List Int)) fun (y7 : Int) =>
 oite ((!(ieq y7 (0 : Int)))) (
 some ((0 : Int), (0 : Int), (0 : Int), y7)
 ) (
 obnd (f83 y1.1 y1.2.1 y1.2.2.1 y1.2.2.2.1 a4 a5 a6 a7) fun (y10 : Int × Int × Int) =>
 some (y10.1, y10.2.1, y10.2.2, (0 : Int)))
set_option maxHeartbeats 1000000 in
theorem c45 [LO]  {a0 : List Int} {a1 : List Int} {a2 : Int} {a3 : List (ByteArray × Int)} {a4 : Int} {a5 : Int} {a6 : Int} {a7 : Int} {x : Int × Int × Int × Int} (H : f45 a0 a1 a2 a3 a4 a5 a6 a7 = some x) : ICalls E 45 [(.agg ⟨[(VS 1 (a0.map eI)), (VS 1 (a1.map eI)), (.int .i64 a2), (VS 2 (a3.map e_SI))]⟩), (.agg ⟨[(.int .i64 a4), (.int .i64 a5), (.int .i64 a6)]⟩), (.int .i64 a7)] AHeap.none fun v _ => v = (.tuple ⟨[(.agg ⟨[(.int .i64 x.1), (.int .i64 x.2.1), (.int .i64 x.2.2.1)]⟩), (.int .i64 x.2.2.2)]⟩) := by
  refine icalls_fn (pfnw ?_); unfold f45 at H;(conv=>whnf);refine pwa ?_;(conv=>whnf);refine pwa ?_;(conv=>whnf);obtain ⟨y1, h2, H⟩ := obnd_some H;refine (c90 h2).go ?_;(conv=>whnf);refine pw_seq ?_;refine pwa ?_;(conv=>whnf);obtain ⟨y3, h4, H⟩ := obnd_some H;refine (c82 h4).go ?_;(conv=>whnf);obtain ⟨y5, h6, H⟩ := obnd_some H;refine (c64 h6).go ?_;(conv=>whnf);obtain ⟨y7, h8, H⟩ := obnd_some H;refine ICalls.goW (c63 h8) (.cons (.vt _ _ _) .nil) ?_;(conv=>whnf);refine pwa ?_;(conv=>whnf);refine pw_cond ?_;(conv=>whnf);refine pbr_oite H (fun g9 H => ?_) (fun g9 H => ?_)
  · (conv=>whnf);refine pwa ?_;(conv=>whnf);refine pw_ret ?_;(conv=>whnf);cases H; rfl
  · (conv=>whnf);refine pw_skip ?_;(conv=>whnf);refine pwa ?_;(conv=>whnf);obtain ⟨y10, h11, H⟩ := obnd_some H;refine (c83 h11).go ?_;(conv=>whnf);refine pw_ret ?_;(conv=>whnf);cases H; rfl

/-- guidevane/dam.Lowered$1 -/
noncomputable def f185  (a0 : ByteArray) (_ : Int) (a2 : ByteArray) (_ : Int) : Option Bool :=
 some (a0.toList == a2.toList)
set_option maxHeartbeats 1000000 in
theorem c185  {a0 : ByteArray} {a1 : Int} {a2 : ByteArray} {a3 : Int} {x : Bool} (H : f185 a0 a1 a2 a3 = some x) : ICallV E (.func (.func (E.id 185)) ⟨[]⟩ ⟨[(VP (.agg ⟨[(.string a2), (.int .i64 a3)]⟩) 0)]⟩) [(.agg ⟨[(.string a0), (.int .i64 a1)]⟩)] AHeap.none fun v _ => v = (.bool x) := by
  refine icallv_fn (pfnw ?_); unfold f185 at H;(conv=>whnf);refine pwa ?_;(conv=>whnf);refine pwa ?_;(conv=>whnf);refine pw_ret ?_;(conv=>whnf);cases H; rfl

/-- guidevane/dam.Lowered -/
noncomputable def f169 [LO]  (a0 : List Int) (a1 : List Int) (a2 : Int) (a3 : List (ByteArray × Int)) (a4 : Int) (a5 : Int) (a6 : Int) (a7 : ByteArray) (a8 : Int) : Option (Int × Int × Int × Int) :=
 obnd (f90 a0 a1 a2 a3 a4 a5 a6) fun (y1 : (List Int) × (List Int) × Int × (List (ByteArray × Int)) × Int) =>
 obnd (f88 a7) fun (y3 : Bool) =>
 obnd (f64 y3 (4 : Int)) fun (y5 : Int) =>
 obnd (f63 ([y1.2.2.2.2, y5] : List Int)) fun (y7 : Int) =>
 oite ((!(ieq y7 (0 : Int)))) (
 some ((0 : Int), (0 : Int), (0 : Int), y7)
 ) (
 obnd (f110 (fun (z0 : ByteArray) (z1 : Int) => f185 z0 z1 a7 a8) y1.2.2.2.1) fun (y10 : Int) =>
 oite ((ilt y10 (0 : Int))) (
 some ((0 : Int), (0 : Int), (0 : Int), (6 : Int))
 ) (
 obnd (f65 a8 (0 : Int) (IntKind.i64.wrap (a4 - (1 : Int)))) fun (y13 : Bool) =>
 oite (!y13) (
 some ((0 : Int), (0 : Int), (0 : Int), (2 : Int))
 ) (
 obnd (
 oite ((ile y1.2.2.1 a5)) (
 ogrd ((ile 0 a8)) (
 obnd (y1.2.1[a8.toNat]?) fun (x22 : Int) =>
 some (ilt a6 x22))
 ) (
 some false)
 ) fun (r16 : Bool) =>
 ogrd ((ile 0 y10)) (
 obnd (y1.2.2.2.1[y10.toNat]?) fun (x24 : ByteArray × Int) =>
 obnd (f64 (ile a4 x24.2) (18 : Int)) fun (y25 : Int) =>
 obnd (f64 r16 (24 : Int)) fun (y27 : Int) =>
 obnd (f63 ([y25, y27] : List Int)) fun (y29 : Int) =>
 oite ((!(ieq y29 (0 : Int)))) (
 some ((0 : Int), (0 : Int), (0 : Int), y29)
 ) (
 some (a8, (0 : Int), a6, (0 : Int)))))))
set_option maxHeartbeats 1000000 in
theorem c169 [LO]  {a0 : List Int} {a1 : List Int} {a2 : Int} {a3 : List (ByteArray × Int)} {a4 : Int} {a5 : Int} {a6 : Int} {a7 : ByteArray} {a8 : Int} {x : Int × Int × Int × Int} (H : f169 a0 a1 a2 a3 a4 a5 a6 a7 a8 = some x) : ICalls E 169 [(.agg ⟨[(VS 1 (a0.map eI)), (VS 1 (a1.map eI)), (.int .i64 a2), (VS 2 (a3.map e_SI))]⟩), (.agg ⟨[(.int .i64 a4), (.int .i64 a5), (.int .i64 a6)]⟩), (.agg ⟨[(.string a7), (.int .i64 a8)]⟩)] AHeap.none fun v _ => v = (.tuple ⟨[(.agg ⟨[(.int .i64 x.1), (.int .i64 x.2.1), (.int .i64 x.2.2.1)]⟩), (.int .i64 x.2.2.2)]⟩) := by
  refine icalls_fn (pfnw ?_); unfold f169 at H;(conv=>whnf);refine pwa ?_;(conv=>whnf);refine pwa ?_;(conv=>whnf);obtain ⟨y1, h2, H⟩ := obnd_some H;refine (c90 h2).go ?_;(conv=>whnf);refine pw_seq ?_;refine pwa ?_;(conv=>whnf);obtain ⟨y3, h4, H⟩ := obnd_some H;refine (c88 h4).go ?_;(conv=>whnf);obtain ⟨y5, h6, H⟩ := obnd_some H;refine (c64 h6).go ?_;(conv=>whnf);obtain ⟨y7, h8, H⟩ := obnd_some H;refine ICalls.goW (c63 h8) (.cons (.vt _ _ _) .nil) ?_;(conv=>whnf);refine pwa ?_;(conv=>whnf);refine pw_cond ?_;(conv=>whnf);refine pbr_oite H (fun g9 H => ?_) (fun g9 H => ?_)
  · (conv=>whnf);refine pwa ?_;(conv=>whnf);refine pw_ret ?_;(conv=>whnf);cases H; rfl
  · (conv=>whnf);refine pw_skip ?_;(conv=>whnf);refine pwa ?_;(conv=>whnf);obtain ⟨y10, h11, H⟩ := obnd_some H;refine ICalls.goD (c110 (fun _ _ _ h => (c185 h)) h11) (.cons .cl (.cons (.func .nil (.cons (.ptr rfl (by intro v hv; simp only [List.mem_cons, List.not_mem_nil, or_false] at hv; rcases hv with rfl | rfl <;> rfl)) .nil)) .nil)) rfl ?_;(conv=>whnf);refine pw_seq ?_;refine pwa ?_;(conv=>whnf);refine pw_cond ?_;(conv=>whnf);refine pbr_oite H (fun g12 H => ?_) (fun g12 H => ?_)
    · (conv=>whnf);refine pwa ?_;(conv=>whnf);refine pw_ret ?_;(conv=>whnf);cases H; rfl
    · (conv=>whnf);refine pw_skip ?_;(conv=>whnf);refine pw_seq ?_;refine pwa ?_;(conv=>whnf);obtain ⟨y13, h14, H⟩ := obnd_some H;refine (c65 h14).go ?_;(conv=>whnf);refine pw_cond ?_;(conv=>whnf);refine pbr_oite H (fun g15 H => ?_) (fun g15 H => ?_)
      · (conv=>whnf);refine pwa ?_;(conv=>whnf);refine pw_ret ?_;(conv=>whnf);cases H; rfl
      · (conv=>whnf);refine pw_skip ?_;(conv=>whnf);obtain ⟨r16, h17, H⟩ := obnd_some H;refine pw_join (ρ := Bool) (fun e => ⟨[(4, (.pointer (some ⟨1, 0, none⟩))), (5, (.pointer (some ⟨2, 0, none⟩))), (6, (.pointer (some ⟨3, 0, none⟩))), (8, (.pointer (some ⟨4, 0, none⟩))), (10, (.int .i64 y10)), (11, (.bool e))], ⟨6, [(5, .tail 2 1), (4, .rw [(VS 1 (y1.1.map eI)), (VS 1 (y1.2.1.map eI)), (.int .i64 y1.2.2.1), (VS 2 (y1.2.2.2.1.map e_SI))]), (3, .rw [(.int .i64 0), (.int .i64 0), (.int .i64 0)]), (2, .rw [(.string a7), (.int .i64 a8)]), (1, .rw [(.int .i64 a4), (.int .i64 a5), (.int .i64 a6)]), (0, .rw [(VS 1 (a0.map eI)), (VS 1 (a1.map eI)), (.int .i64 a2), (VS 2 (a3.map e_SI))])], false⟩⟩) r16 ?_ ?_
        · refine pw_draw ?_;(conv=>whnf);refine pbr_oite h17 (fun g20 h17 => ?_) (fun g20 h17 => ?_)
          · (conv=>whnf);(iterate 7 refine pbr_t g20 ?_;(conv=>whnf));refine pbr_ogrd h17 (fun g21 h17 => ?_);(conv=>whnf);refine nth_o (l := y1.2.1) h17 (fun x22 _ h17 => ?_);(conv=>whnf);(iterate 3 refine pbr_t g20 ?_;(conv=>whnf));cases h17;exact ⟨(.cons rfl (.cons rfl (.cons rfl (.cons rfl (.cons rfl (.cons rfl .nil)))))), rfl⟩
          · (conv=>whnf);(iterate 10 refine pbr_f g20 ?_;(conv=>whnf));cases h17;exact ⟨(.cons rfl (.cons rfl (.cons rfl (.cons rfl (.cons rfl (.cons rfl .nil)))))), rfl⟩
        · refine pw_seq ?_;refine pw_sd ?_;(conv=>whnf);refine pbr_ogrd H (fun g23 H => ?_);(conv=>whnf);refine nth_o (l := y1.2.2.2.1) H (fun x24 _ H => ?_);(conv=>whnf);refine ⟨?_, trivial⟩;(conv=>whnf);obtain ⟨y25, h26, H⟩ := obnd_some H;refine (c64 h26).go ?_;(conv=>whnf);refine ⟨by repeat (first | exact trivial | refine And.intro rfl ?_), ?_⟩;(conv=>whnf);refine ⟨?_, trivial⟩;(conv=>whnf);obtain ⟨y27, h28, H⟩ := obnd_some H;refine (c64 h28).go ?_;(conv=>whnf);refine ⟨by repeat (first | exact trivial | refine And.intro rfl ?_), ?_⟩;(conv=>whnf);refine ⟨?_, trivial⟩;(conv=>whnf);refine ⟨by repeat (first | exact trivial | refine And.intro rfl ?_), ?_⟩
          (conv=>whnf);refine ⟨?_, trivial⟩;(conv=>whnf);obtain ⟨y29, h30, H⟩ := obnd_some H;refine ICalls.goW (c63 h30) (.cons (.vt _ _ _) .nil) ?_;(conv=>whnf);refine ⟨by repeat (first | exact trivial | refine And.intro rfl ?_), ?_⟩;(conv=>whnf);refine pwa ?_;(conv=>whnf);refine pw_cond ?_;(conv=>whnf);refine pbr_oite H (fun g31 H => ?_) (fun g31 H => ?_)
          · (conv=>whnf);refine pwa ?_;(conv=>whnf);refine pw_ret ?_;(conv=>whnf);cases H; rfl
          · (conv=>whnf);refine pw_skip ?_;(conv=>whnf);refine pwa ?_;(conv=>whnf);refine pw_ret ?_;(conv=>whnf);cases H; rfl

end Go.Proofs.YtacgibkgojnfeaaGreatDoor.AM
