/- Computations of functions, and that the functions do them (printed by tools/lift.py). Conditions: none. -/
import Derived.Test.YtjnpdnlgkepmcaaAmMan
namespace Go.Proofs.Ytjnpdnlgkepmcaa.AM
set_option linter.unusedSimpArgs false
set_option linter.unusedVariables false
set_option maxHeartbeats 1000000
open Go Go.RowKit
attribute [local irreducible] ICallV ICalls Recast rng
abbrev e_SBII (x : ByteArray × Bool × Int × Int) : Value := .agg ⟨[(.string x.1), (.bool x.2.1), (.int .i64 x.2.2.1), (.int .i64 x.2.2.2)]⟩
instance {x : ByteArray × Bool × Int × Int} : Cl (e_SBII x) := inferInstanceAs (Cl (.agg ⟨[(.string x.1), (.bool x.2.1), (.int .i64 x.2.2.1), (.int .i64 x.2.2.2)]⟩))
abbrev e_SIIIBB (x : ByteArray × Int × Int × Int × Bool × Bool) : Value := .agg ⟨[(.string x.1), (.int .i64 x.2.1), (.int .i64 x.2.2.1), (.int .i64 x.2.2.2.1), (.bool x.2.2.2.2.1), (.bool x.2.2.2.2.2)]⟩
instance {x : ByteArray × Int × Int × Int × Bool × Bool} : Cl (e_SIIIBB x) := inferInstanceAs (Cl (.agg ⟨[(.string x.1), (.int .i64 x.2.1), (.int .i64 x.2.2.1), (.int .i64 x.2.2.2.1), (.bool x.2.2.2.2.1), (.bool x.2.2.2.2.2)]⟩))
instance : Sz e_SBII 4 where
 sz _ := rfl
 one x u hu := by replace hu : u ∈ ([(.string x.1), (.bool x.2.1), (.int .i64 x.2.2.1), (.int .i64 x.2.2.2)] : List Value) := hu; simp only [List.mem_cons, List.not_mem_nil, or_false] at hu; rcases hu with rfl | rfl | rfl | rfl <;> rfl
 agg _ := rfl
 cl x u hu := by replace hu : u ∈ ([(.string x.1), (.bool x.2.1), (.int .i64 x.2.2.1), (.int .i64 x.2.2.2)] : List Value) := hu; exact ClL.out (l := ([(.string x.1), (.bool x.2.1), (.int .i64 x.2.2.1), (.int .i64 x.2.2.2)] : List Value)) u hu
instance : Sz e_SIIIBB 6 where
 sz _ := rfl
 one x u hu := by replace hu : u ∈ ([(.string x.1), (.int .i64 x.2.1), (.int .i64 x.2.2.1), (.int .i64 x.2.2.2.1), (.bool x.2.2.2.2.1), (.bool x.2.2.2.2.2)] : List Value) := hu; simp only [List.mem_cons, List.not_mem_nil, or_false] at hu; rcases hu with rfl | rfl | rfl | rfl | rfl | rfl <;> rfl
 agg _ := rfl
 cl x u hu := by replace hu : u ∈ ([(.string x.1), (.int .i64 x.2.1), (.int .i64 x.2.2.1), (.int .i64 x.2.2.2.1), (.bool x.2.2.2.2.1), (.bool x.2.2.2.2.2)] : List Value) := hu; exact ClL.out (l := ([(.string x.1), (.int .i64 x.2.1), (.int .i64 x.2.2.1), (.int .i64 x.2.2.2.1), (.bool x.2.2.2.2.1), (.bool x.2.2.2.2.2)] : List Value)) u hu
theorem v_e_SIIIBB (x) (u) (hu : u ∈ (e_SIIIBB x).cells.toList) : vrc1 u = true := by replace hu : u ∈ ([(.string x.1), (.int .i64 x.2.1), (.int .i64 x.2.2.1), (.int .i64 x.2.2.2.1), (.bool x.2.2.2.2.1), (.bool x.2.2.2.2.2)] : List Value) := hu; simp only [List.mem_cons, List.not_mem_nil, or_false] at hu; rcases hu with rfl | rfl | rfl | rfl | rfl | rfl <;> rfl
noncomputable def f476 [LO]  (a0 : List (ByteArray × Bool × Int × Int)) (a1 : List (ByteArray × Int × Int × Int × Bool × Bool)) : Option Bool :=
 obnd (
 oite ((ilt (12 : Int) ((a0.map e_SBII).length : Int))) (
 some true
 ) (
 some (ilt (16 : Int) ((a1.map e_SIIIBB).length : Int)))
 ) fun (r1 : Bool) =>
 oite r1 (
 some false
 ) (
 obndS (
 oloop (τ := Int) (ρ := (Unit) ⊕ Bool) (fun e11 =>
 oite ((ilt e11 ((a0.map e_SBII).length : Int))) (
 ogrd ((ile 0 e11)) (
 obnd (a0[e11.toNat]?) fun (x16 : ByteArray × Bool × Int × Int) =>
 oite ((ilt (20 : Int) (x16.1.size : Int))) (
 some (.inr (.inr (false)))
 ) (
 some (.inl (IntKind.i64.wrap (e11 + (1 : Int))))))
 ) (
 some (.inr (.inl ())))
 ) (0 : Int)
 ) fun (_ : Unit) =>
 obndS (
 oloop (τ := Int) (ρ := (Unit) ⊕ Bool) (fun e25 =>
 oite ((ilt e25 ((a1.map e_SIIIBB).length : Int))) (
 ogrd ((ile 0 e25)) (
 obnd (a1[e25.toNat]?) fun (x30 : ByteArray × Int × Int × Int × Bool × Bool) =>
 oite ((ilt (20 : Int) (x30.1.size : Int))) (
 some (.inr (.inr (false)))
 ) (
 some (.inl (IntKind.i64.wrap (e25 + (1 : Int))))))
 ) (
 some (.inr (.inl ())))
 ) (0 : Int)
 ) fun (_ : Unit) =>
 some true)
theorem c476 [LO]  {a0 : List (ByteArray × Bool × Int × Int)} {a1 : List (ByteArray × Int × Int × Int × Bool × Bool)} {x : Bool} (H : f476 a0 a1 = some x) : ICalls E 476 [(.agg ⟨[(VS 4 (a0.map e_SBII)), (VS 6 (a1.map e_SIIIBB))]⟩)] AHeap.none fun v _ => v = (.bool x) := by
 refine icalls_fn (pfnw ?_); unfold f476 at H;(conv=>whnf);refine pwa ?_;(conv=>whnf);refine pw_seq ?_;obtain ⟨r1, h2, H⟩ := obnd_some H;refine pw_join (ρ := Bool) (fun e => ⟨[(1, (.pointer (some ⟨0, 0, none⟩))), (14, (.bool e))], ⟨1, [(0, .rw [(VS 4 (a0.map e_SBII)), (VS 6 (a1.map e_SIIIBB))])], false⟩⟩) r1 ?_ ?_
 · refine pw_ops ?_;refine po_all ?_;(conv=>whnf);refine pbr_oite h2 (fun g5 h2 => ?_) (fun g5 h2 => ?_)
   · (conv=>whnf);(iterate 4 refine pbr_t g5 ?_;(conv=>whnf));cases h2;exact ⟨(.cons rfl (.cons rfl .nil)), rfl⟩
   · (conv=>whnf);(iterate 4 refine pbr_f g5 ?_;(conv=>whnf));cases h2;exact ⟨(.cons rfl (.cons rfl .nil)), rfl⟩
 · refine pw_cond ?_;(conv=>whnf);refine pbr_oite H (fun g6 H => ?_) (fun g6 H => ?_)
   · (conv=>whnf);refine pwa ?_;(conv=>whnf);refine pw_ret ?_;(conv=>whnf);cases H; rfl
   · (conv=>whnf);refine pw_skip ?_;(conv=>whnf);obtain ⟨r7, h8, h9, h10⟩ := obndS_some H;refine pw_joinS (ρ := Unit) (fun e => ⟨[(1, (.pointer (some ⟨0, 0, none⟩)))], ⟨1, [(0, .rw [(VS 4 (a0.map e_SBII)), (VS 6 (a1.map e_SIIIBB))])], false⟩⟩) r7 ?_ ?_
     · refine pwa ?_;(conv=>whnf);refine pw_block ?_;refine pw_loop (τ := Int) (fun e => ⟨[(1, (.pointer (some ⟨0, 0, none⟩))), (3, (.int .i64 e))], ⟨1, [(0, .rw [(VS 4 (a0.map e_SBII)), (VS 6 (a1.map e_SIIIBB))])], false⟩⟩) h8 ?_ (fun _ => nl rfl) ?_
       · exact .sub' (nl rfl) (.cons rfl (.cons rfl .nil))
       · intro e11 x12 h13;refine pw_seq ?_;refine pwa ?_;(conv=>whnf);refine pw_cond ?_;(conv=>whnf);refine pbr_oite h13 (fun g14 h13 => ?_) (fun g14 h13 => ?_)
         · (conv=>whnf);refine pw_skip ?_;(conv=>whnf);refine pw_seq ?_;refine pw_block ?_;refine pwa ?_;(conv=>whnf);refine pbr_ogrd h13 (fun g15 h13 => ?_);(conv=>whnf);refine nth_o (l := a0) h13 (fun x16 _ h13 => ?_);(conv=>whnf);refine pw_cond ?_;(conv=>whnf);refine pbr_oite h13 (fun g17 h13 => ?_) (fun g17 h13 => ?_)
           · (conv=>whnf);refine pwa ?_;(conv=>whnf);refine pw_ret ?_;(conv=>whnf);cases h13;refine ⟨_, rfl, ?_⟩; rintro rfl;(conv=>whnf);obtain rfl := h10 _ rfl; rfl
           · (conv=>whnf);refine pw_skip ?_;(conv=>whnf);refine pw_ops ?_;refine po_all ?_;(conv=>whnf);cases h13;refine ⟨_, rfl, ?_⟩;exact .sub' (nl rfl) (.cons rfl (.cons rfl .nil))
         · (conv=>whnf);refine pw_exit ?_;(conv=>whnf);cases h13;refine ⟨_, rfl, ?_⟩; rintro rfl;(conv=>whnf);exact ⟨_, rfl, ⟨(.cons rfl .nil), rfl⟩⟩
     · intro r20 hr; have H := h9 _ hr;obtain ⟨r21, h22, h23, h24⟩ := obndS_some H;refine pw_joinS (ρ := Unit) (fun e => ⟨[], ⟨1, [(0, .rw [(VS 4 (a0.map e_SBII)), (VS 6 (a1.map e_SIIIBB))])], false⟩⟩) r21 ?_ ?_
       · refine pwa ?_;(conv=>whnf);refine pw_block ?_;refine pw_loop (τ := Int) (fun e => ⟨[(1, (.pointer (some ⟨0, 0, none⟩))), (4, (.int .i64 e))], ⟨1, [(0, .rw [(VS 4 (a0.map e_SBII)), (VS 6 (a1.map e_SIIIBB))])], false⟩⟩) h22 ?_ (fun _ => nl rfl) ?_
         · exact .sub' (nl rfl) (.cons rfl (.cons rfl .nil))
         · intro e25 x26 h27;refine pw_seq ?_;refine pwa ?_;(conv=>whnf);refine pw_cond ?_;(conv=>whnf);refine pbr_oite h27 (fun g28 h27 => ?_) (fun g28 h27 => ?_)
           · (conv=>whnf);refine pw_skip ?_;(conv=>whnf);refine pw_seq ?_;refine pw_block ?_;refine pwa ?_;(conv=>whnf);refine pbr_ogrd h27 (fun g29 h27 => ?_);(conv=>whnf);refine nth_o (l := a1) h27 (fun x30 _ h27 => ?_);(conv=>whnf);refine pw_cond ?_;(conv=>whnf);refine pbr_oite h27 (fun g31 h27 => ?_) (fun g31 h27 => ?_)
             · (conv=>whnf);refine pwa ?_;(conv=>whnf);refine pw_ret ?_;(conv=>whnf);cases h27;refine ⟨_, rfl, ?_⟩; rintro rfl;(conv=>whnf);obtain rfl := h24 _ rfl; rfl
             · (conv=>whnf);refine pw_skip ?_;(conv=>whnf);refine pw_ops ?_;refine po_all ?_;(conv=>whnf);cases h27;refine ⟨_, rfl, ?_⟩;exact .sub' (nl rfl) (.cons rfl (.cons rfl .nil))
           · (conv=>whnf);refine pw_exit ?_;(conv=>whnf);cases h27;refine ⟨_, rfl, ?_⟩; rintro rfl;(conv=>whnf);exact ⟨_, rfl, ⟨.nil, rfl⟩⟩
       · intro r34 hr; have H := h23 _ hr;refine pwa ?_;(conv=>whnf);refine pw_ret ?_;(conv=>whnf);cases H; rfl
noncomputable def f91 [LO]  (a0 : ByteArray) : Option Bool :=
 obnd (
 oite ((ilt (a0.size : Int) (1 : Int))) (
 some true
 ) (
 some (ilt (12 : Int) (a0.size : Int)))
 ) fun (r1 : Bool) =>
 oite r1 (
 some false
 ) (
 obndS (
 oloop (τ := Int) (ρ := (Unit) ⊕ Bool) (fun e11 =>
 oite ((ilt e11 (a0.size : Int))) (
 ogrd ((ile 0 e11)) (
 obnd (a0.data.toList[e11.toNat]?) fun (x16 : UInt8) =>
 obnd (
 oite ((ile (97 : Int) (x16.toNat : Int))) (
 some (ile (x16.toNat : Int) (122 : Int))
 ) (
 some false)
 ) fun (r17 : Bool) =>
 obnd (
 oite r17 (
 some true
 ) (
 oite ((ile (65 : Int) (x16.toNat : Int))) (
 some (ile (x16.toNat : Int) (90 : Int))
 ) (
 some false))
 ) fun (r20 : Bool) =>
 obnd (
 oite (!r20) (
 obnd (
 oite ((ieq e11 (0 : Int))) (
 some true
 ) (
 oite ((!(ieq (x16.toNat : Int) (45 : Int)))) (
 oite ((ilt (x16.toNat : Int) (48 : Int))) (
 some true
 ) (
 some (ilt (57 : Int) (x16.toNat : Int)))
 ) (
 some false))
 ) fun (r29 : Bool) =>
 some r29
 ) (
 some false)
 ) fun (r24 : Bool) =>
 oite r24 (
 some (.inr (.inr (false)))
 ) (
 some (.inl (IntKind.i64.wrap (e11 + (1 : Int))))))
 ) (
 some (.inr (.inl ())))
 ) (0 : Int)
 ) fun (_ : Unit) =>
 some true)
theorem c91 [LO]  {a0 : ByteArray} {x : Bool} (H : f91 a0 = some x) : ICalls E 91 [(.string a0)] AHeap.none fun v _ => v = (.bool x) := by
 refine icalls_fn (pfnw ?_); unfold f91 at H;(conv=>whnf);refine pwa ?_;(conv=>whnf);refine pw_seq ?_;obtain ⟨r1, h2, H⟩ := obnd_some H;refine pw_join (ρ := Bool) (fun e => ⟨[(0, (.string a0)), (13, (.bool e))], ⟨0, [], false⟩⟩) r1 ?_ ?_
 · refine pw_ops ?_;refine po_all ?_;(conv=>whnf);refine pbr_oite h2 (fun g5 h2 => ?_) (fun g5 h2 => ?_)
   · (conv=>whnf);(iterate 3 refine pbr_t g5 ?_;(conv=>whnf));cases h2;exact ⟨(.cons rfl (.cons rfl .nil)), rfl⟩
   · (conv=>whnf);(iterate 3 refine pbr_f g5 ?_;(conv=>whnf));cases h2;exact ⟨(.cons rfl (.cons rfl .nil)), rfl⟩
 · refine pw_cond ?_;(conv=>whnf);refine pbr_oite H (fun g6 H => ?_) (fun g6 H => ?_)
   · (conv=>whnf);refine pwa ?_;(conv=>whnf);refine pw_ret ?_;(conv=>whnf);cases H; rfl
   · (conv=>whnf);refine pw_skip ?_;(conv=>whnf);obtain ⟨r7, h8, h9, h10⟩ := obndS_some H;refine pw_joinS (ρ := Unit) (fun e => ⟨[], ⟨0, [], false⟩⟩) r7 ?_ ?_
     · refine pwa ?_;(conv=>whnf);refine pw_block ?_;refine pw_loop (τ := Int) (fun e => ⟨[(0, (.string a0)), (3, (.int .i64 e))], ⟨0, [], false⟩⟩) h8 ?_ (fun _ => nl rfl) ?_
       · exact .sub' (nl rfl) (.cons rfl (.cons rfl .nil))
       · intro e11 x12 h13;refine pw_seq ?_;refine pwa ?_;(conv=>whnf);refine pw_cond ?_;(conv=>whnf);refine pbr_oite h13 (fun g14 h13 => ?_) (fun g14 h13 => ?_)
         · (conv=>whnf);refine pw_skip ?_;(conv=>whnf);refine pw_seq ?_;refine pw_block ?_;refine pwa ?_;(conv=>whnf);refine pbr_ogrd h13 (fun g15 h13 => ?_);(conv=>whnf);refine get_o h13 (fun x16 _ h13 => ?_);(conv=>whnf);refine pw_so ?_;refine po_ops 3 ?_;(conv=>whnf);obtain ⟨r17, h18, h13⟩ := obnd_some h13;refine po_seg (τ := Bool) 3 (fun e => ⟨[(0, (.string a0)), (3, (.int .i64 e11)), (4, (.int .u8 (x16.toNat : Int))), (28, (.bool e))], ⟨0, [], false⟩⟩) r17 ?_ ?_
           · refine po_all ?_;(conv=>whnf);refine pbr_oite h18 (fun g19 h18 => ?_) (fun g19 h18 => ?_)
             · (conv=>whnf);refine pbr_t g19 ?_;(conv=>whnf);refine pbr_t g19 ?_;(conv=>whnf);cases h18;exact ⟨by (repeat refine .cons rfl ?_);exact .nil,rfl⟩
             · (conv=>whnf);refine pbr_f g19 ?_;(conv=>whnf);refine pbr_f g19 ?_;(conv=>whnf);cases h18;exact ⟨by (repeat refine .cons rfl ?_);exact .nil,rfl⟩
           · refine po_ops 1 ?_;(conv=>whnf);obtain ⟨r20, h21, h13⟩ := obnd_some h13;refine po_seg (τ := Bool) 7 (fun e => ⟨[(0, (.string a0)), (3, (.int .i64 e11)), (4, (.int .u8 (x16.toNat : Int))), (36, (.bool e))], ⟨0, [], false⟩⟩) r20 ?_ ?_
             · refine po_all ?_;(conv=>whnf);refine pbr_oite h21 (fun g22 h21 => ?_) (fun g22 h21 => ?_)
               · (conv=>whnf);(iterate 4 refine pbr_t g22 ?_;(conv=>whnf));cases h21;exact ⟨by (repeat refine .cons rfl ?_);exact .nil,rfl⟩
               · (conv=>whnf);refine pbr_f g22 ?_;(conv=>whnf);refine pbr_f g22 ?_;(conv=>whnf);refine pbr_oite h21 (fun g23 h21 => ?_) (fun g23 h21 => ?_)
                 · (conv=>whnf);refine pbr_t g23 ?_;(conv=>whnf);refine pbr_f g22 ?_;(conv=>whnf);refine pbr_t g23 ?_;(conv=>whnf);refine pbr_f g22 ?_;(conv=>whnf);cases h21;exact ⟨by (repeat refine .cons rfl ?_);exact .nil,rfl⟩
                 · (conv=>whnf);refine pbr_f g23 ?_;(conv=>whnf);refine pbr_f g22 ?_;(conv=>whnf);refine pbr_f g23 ?_;(conv=>whnf);refine pbr_f g22 ?_;(conv=>whnf);cases h21;exact ⟨by (repeat refine .cons rfl ?_);exact .nil,rfl⟩
             · refine po_all ?_;(conv=>whnf);obtain ⟨r24, h25, h13⟩ := obnd_some h13;refine pw_join (ρ := Bool) (fun e => ⟨[(0, (.string a0)), (3, (.int .i64 e11)), (54, (.bool e))], ⟨0, [], false⟩⟩) r24 ?_ ?_
               · refine pw_ops ?_;refine po_ops 6 ?_;(conv=>whnf);refine pbr_oite h25 (fun g28 h25 => ?_) (fun g28 h25 => ?_)
                 · (conv=>whnf);refine pbr_t g28 ?_;(conv=>whnf);refine pbr_t g28 ?_;(conv=>whnf);obtain ⟨r29, h30, h25⟩ := obnd_some h25;refine po_seg (τ := Bool) 11 (fun e => ⟨[(0, (.string a0)), (3, (.int .i64 e11)), (39, (.bool (!r20))), (40, (.int .i64 e11)), (41, (.bool (ieq e11 (0 : Int)))), (42, (.bool (ieq e11 (0 : Int)))), (53, (.bool e))], ⟨0, [], false⟩⟩) r29 ?_ ?_
                   · refine po_all ?_;(conv=>whnf);refine pbr_oite h30 (fun g31 h30 => ?_) (fun g31 h30 => ?_)
                     · (conv=>whnf);(iterate 3 refine pbr_t g31 ?_;(conv=>whnf));refine pbr_t g28 ?_;(conv=>whnf);refine pbr_t g31 ?_;(conv=>whnf);cases h30;exact ⟨by (repeat refine .cons rfl ?_);exact .nil,rfl⟩
                     · (conv=>whnf);refine pbr_f g31 ?_;(conv=>whnf);refine pbr_f g31 ?_;(conv=>whnf);refine pbr_oite h30 (fun g32 h30 => ?_) (fun g32 h30 => ?_)
                       · (conv=>whnf);refine pbr_t g32 ?_;(conv=>whnf);refine pbr_t g32 ?_;(conv=>whnf);refine pbr_oite h30 (fun g33 h30 => ?_) (fun g33 h30 => ?_)
                         · (conv=>whnf);refine pbr_t g33 ?_;(conv=>whnf);refine pbr_t g32 ?_;(conv=>whnf);refine pbr_t g33 ?_;(conv=>whnf);refine pbr_f g31 ?_;(conv=>whnf);refine pbr_t g32 ?_;(conv=>whnf);refine pbr_t g28 ?_;(conv=>whnf);refine pbr_f g31 ?_;(conv=>whnf);cases h30;exact ⟨by (repeat refine .cons rfl ?_);exact .nil,rfl⟩
                         · (conv=>whnf);refine pbr_f g33 ?_;(conv=>whnf);refine pbr_t g32 ?_;(conv=>whnf);refine pbr_f g33 ?_;(conv=>whnf);refine pbr_f g31 ?_;(conv=>whnf);refine pbr_t g32 ?_;(conv=>whnf);refine pbr_t g28 ?_;(conv=>whnf);refine pbr_f g31 ?_;(conv=>whnf);cases h30;exact ⟨by (repeat refine .cons rfl ?_);exact .nil,rfl⟩
                       · (conv=>whnf);(iterate 3 refine pbr_f g32 ?_;(conv=>whnf));refine pbr_f g31 ?_;(conv=>whnf);refine pbr_f g32 ?_;(conv=>whnf);refine pbr_t g28 ?_;(conv=>whnf);refine pbr_f g31 ?_;(conv=>whnf);cases h30;exact ⟨by (repeat refine .cons rfl ?_);exact .nil,rfl⟩
                   · refine po_all ?_;(conv=>whnf);refine pbr_t g28 ?_;(conv=>whnf);cases h25;exact ⟨(.cons rfl (.cons rfl (.cons rfl .nil))), rfl⟩
                 · (conv=>whnf);refine pbr_f g28 ?_;(conv=>whnf);refine pbr_f g28 ?_;(conv=>whnf);refine po_ops 11 ?_;(conv=>whnf);refine pbr_f g28 ?_;(conv=>whnf);refine po_all ?_;(conv=>whnf);refine pbr_f g28 ?_;(conv=>whnf);cases h25;exact ⟨(.cons rfl (.cons rfl (.cons rfl .nil))), rfl⟩
               · refine pw_cond ?_;(conv=>whnf);refine pbr_oite h13 (fun g34 h13 => ?_) (fun g34 h13 => ?_)
                 · (conv=>whnf);refine pwa ?_;(conv=>whnf);refine pw_ret ?_;(conv=>whnf);cases h13;refine ⟨_, rfl, ?_⟩; rintro rfl;(conv=>whnf);obtain rfl := h10 _ rfl; rfl
                 · (conv=>whnf);refine pw_skip ?_;(conv=>whnf);refine pw_ops ?_;refine po_all ?_;(conv=>whnf);cases h13;refine ⟨_, rfl, ?_⟩;exact .sub' (nl rfl) (.cons rfl (.cons rfl .nil))
         · (conv=>whnf);refine pw_exit ?_;(conv=>whnf);cases h13;refine ⟨_, rfl, ?_⟩; rintro rfl;(conv=>whnf);exact ⟨_, rfl, ⟨.nil, rfl⟩⟩
     · intro r37 hr; have H := h9 _ hr;refine pwa ?_;(conv=>whnf);refine pw_ret ?_;(conv=>whnf);cases H; rfl
noncomputable def f364 [LO]  (a0 : List ByteArray) (a1 : ByteArray) : Option Bool :=
 obndS (
 oloop (τ := Int) (ρ := (Unit) ⊕ Bool) (fun e5 =>
 oite ((ilt e5 ((a0.map eS).length : Int))) (
 ogrd ((ile 0 e5)) (
 obnd (a0[e5.toNat]?) fun (x10 : ByteArray) =>
 oite ((x10.toList == a1.toList)) (
 some (.inr (.inr (true)))
 ) (
 some (.inl (IntKind.i64.wrap (e5 + (1 : Int))))))
 ) (
 some (.inr (.inl ())))
 ) (0 : Int)
 ) fun (_ : Unit) =>
 some false
theorem c364 [LO]  {a0 : List ByteArray} {a1 : ByteArray} {x : Bool} (H : f364 a0 a1 = some x) : ICalls E 364 [(VS 1 (a0.map eS)), (.string a1)] AHeap.none fun v _ => v = (.bool x) := by
 refine icalls_fn (pfnw ?_); unfold f364 at H;(conv=>whnf);refine pwa ?_;(conv=>whnf);obtain ⟨r1, h2, h3, h4⟩ := obndS_some H;refine pw_joinS (ρ := Unit) (fun e => ⟨[], ⟨0, [], false⟩⟩) r1 ?_ ?_
 · refine pwa ?_;(conv=>whnf);refine pw_block ?_;refine pw_loop (τ := Int) (fun e => ⟨[(0, (VS 1 (a0.map eS))), (1, (.string a1)), (5, (.int .i64 e))], ⟨0, [], false⟩⟩) h2 ?_ (fun _ => nl rfl) ?_
   · exact .sub' (nl rfl) (.cons rfl (.cons rfl (.cons rfl .nil)))
   · intro e5 x6 h7;refine pw_seq ?_;refine pwa ?_;(conv=>whnf);refine pw_cond ?_;(conv=>whnf);refine pbr_oite h7 (fun g8 h7 => ?_) (fun g8 h7 => ?_)
     · (conv=>whnf);refine pw_skip ?_;(conv=>whnf);refine pw_seq ?_;refine pw_block ?_;refine pwa ?_;(conv=>whnf);refine pbr_ogrd h7 (fun g9 h7 => ?_);(conv=>whnf);refine nth_o (l := a0) h7 (fun x10 _ h7 => ?_);(conv=>whnf);refine pw_cond ?_;(conv=>whnf);refine pbr_oite h7 (fun g11 h7 => ?_) (fun g11 h7 => ?_)
       · (conv=>whnf);refine pwa ?_;(conv=>whnf);refine pw_ret ?_;(conv=>whnf);cases h7;refine ⟨_, rfl, ?_⟩; rintro rfl;(conv=>whnf);obtain rfl := h4 _ rfl; rfl
       · (conv=>whnf);refine pw_skip ?_;(conv=>whnf);refine pw_ops ?_;refine po_all ?_;(conv=>whnf);cases h7;refine ⟨_, rfl, ?_⟩;exact .sub' (nl rfl) (.cons rfl (.cons rfl (.cons rfl .nil)))
     · (conv=>whnf);refine pw_exit ?_;(conv=>whnf);cases h7;refine ⟨_, rfl, ?_⟩; rintro rfl;(conv=>whnf);exact ⟨_, rfl, ⟨.nil, rfl⟩⟩
 · intro r14 hr; have H := h3 _ hr;refine pwa ?_;(conv=>whnf);refine pw_ret ?_;(conv=>whnf);cases H; rfl
noncomputable def f15  (a0 : Int) (a1 : Int) (a2 : Int) : Option Bool :=
 obnd (
 oite ((ile a1 a0)) (
 some (ile a0 a2)
 ) (
 some false)
 ) fun (r1 : Bool) =>
 some r1
theorem c15  {a0 : Int} {a1 : Int} {a2 : Int} {x : Bool} (H : f15 a0 a1 a2 = some x) : ICalls E 15 [(.int .i64 a0), (.int .i64 a1), (.int .i64 a2)] AHeap.none fun v _ => v = (.bool x) := by
 refine icalls_fn (pfnw ?_); unfold f15 at H;(conv=>whnf);refine pwa ?_;(conv=>whnf);refine pw_so ?_;refine po_ops 4 ?_;(conv=>whnf);obtain ⟨r1, h2, H⟩ := obnd_some H;refine po_seg (τ := Bool) 4 (fun e => ⟨[(14, (.bool e))], ⟨0, [], false⟩⟩) r1 ?_ ?_
 · refine po_all ?_;(conv=>whnf);refine pbr_oite h2 (fun g3 h2 => ?_) (fun g3 h2 => ?_)
   · (conv=>whnf);(iterate 3 refine pbr_t g3 ?_;(conv=>whnf));cases h2;exact ⟨(.cons rfl .nil), rfl⟩
   · (conv=>whnf);(iterate 3 refine pbr_f g3 ?_;(conv=>whnf));cases h2;exact ⟨(.cons rfl .nil), rfl⟩
 · refine po_all ?_;(conv=>whnf);refine pw_ret ?_;(conv=>whnf);cases H; rfl
noncomputable def f497 [LO]  (a0 : ByteArray) (a1 : Bool) (a2 : Int) (a3 : Int) (a4 : List ByteArray) : Option Int :=
 obnd (f91 a0) fun (y1 : Bool) =>
 oite (!y1) (
 some (4 : Int)
 ) (
 obnd (f364 a4 a0) fun (y4 : Bool) =>
 oite y4 (
 some (5 : Int)
 ) (
 oite a1 (
 obnd (f15 a2 (0 : Int) (1000000 : Int)) fun (y8 : Bool) =>
 oite (!y8) (
 some (2 : Int)
 ) (
 oite ((!(ieq a3 (0 : Int)))) (
 some (3 : Int)
 ) (
 some (0 : Int)))
 ) (
 obnd (f15 a3 (-10000 : Int) (10000 : Int)) fun (y12 : Bool) =>
 oite (!y12) (
 some (2 : Int)
 ) (
 oite ((!(ieq a2 (0 : Int)))) (
 some (3 : Int)
 ) (
 some (0 : Int))))))
theorem c497 [LO]  {a0 : ByteArray} {a1 : Bool} {a2 : Int} {a3 : Int} {a4 : List ByteArray} {x : Int} (H : f497 a0 a1 a2 a3 a4 = some x) : ICalls E 497 [(.agg ⟨[(.string a0), (.bool a1), (.int .i64 a2), (.int .i64 a3)]⟩), (VS 1 (a4.map eS))] AHeap.none fun v _ => v = (.int .i64 x) := by
 refine icalls_fn (pfnw ?_); unfold f497 at H;(conv=>whnf);refine pwa ?_;(conv=>whnf);refine pw_seq ?_;refine pwa ?_;(conv=>whnf);obtain ⟨y1, h2, H⟩ := obnd_some H;refine (c91 h2).go ?_;(conv=>whnf);refine pw_cond ?_;(conv=>whnf);refine pbr_oite H (fun g3 H => ?_) (fun g3 H => ?_)
 · (conv=>whnf);refine pwa ?_;(conv=>whnf);refine pw_ret ?_;(conv=>whnf);cases H; rfl
 · (conv=>whnf);refine pw_skip ?_;(conv=>whnf);refine pw_seq ?_;refine pwa ?_;(conv=>whnf);obtain ⟨y4, h5, H⟩ := obnd_some H;refine (c364 h5).go ?_;(conv=>whnf);refine pw_cond ?_;(conv=>whnf);refine pbr_oite H (fun g6 H => ?_) (fun g6 H => ?_)
   · (conv=>whnf);refine pwa ?_;(conv=>whnf);refine pw_ret ?_;(conv=>whnf);cases H; rfl
   · (conv=>whnf);refine pw_skip ?_;(conv=>whnf);refine pw_seq ?_;refine pwa ?_;(conv=>whnf);refine pw_cond ?_;(conv=>whnf);refine pbr_oite H (fun g7 H => ?_) (fun g7 H => ?_)
     · (conv=>whnf);refine pw_seq ?_;refine pwa ?_;(conv=>whnf);obtain ⟨y8, h9, H⟩ := obnd_some H;refine (c15 h9).go ?_;(conv=>whnf);refine pw_cond ?_;(conv=>whnf);refine pbr_oite H (fun g10 H => ?_) (fun g10 H => ?_)
       · (conv=>whnf);refine pwa ?_;(conv=>whnf);refine pw_ret ?_;(conv=>whnf);cases H; rfl
       · (conv=>whnf);refine pw_skip ?_;(conv=>whnf);refine pw_seq ?_;refine pwa ?_;(conv=>whnf);refine pw_cond ?_;(conv=>whnf);refine pbr_oite H (fun g11 H => ?_) (fun g11 H => ?_)
         · (conv=>whnf);refine pwa ?_;(conv=>whnf);refine pw_ret ?_;(conv=>whnf);cases H; rfl
         · (conv=>whnf);refine pw_skip ?_;(conv=>whnf);refine pwa ?_;(conv=>whnf);refine pw_ret ?_;(conv=>whnf);cases H; rfl
     · (conv=>whnf);refine pw_skip ?_;(conv=>whnf);refine pw_seq ?_;refine pwa ?_;(conv=>whnf);obtain ⟨y12, h13, H⟩ := obnd_some H;refine (c15 h13).go ?_;(conv=>whnf);refine pw_cond ?_;(conv=>whnf);refine pbr_oite H (fun g14 H => ?_) (fun g14 H => ?_)
       · (conv=>whnf);refine pwa ?_;(conv=>whnf);refine pw_ret ?_;(conv=>whnf);cases H; rfl
       · (conv=>whnf);refine pw_skip ?_;(conv=>whnf);refine pw_seq ?_;refine pwa ?_;(conv=>whnf);refine pw_cond ?_;(conv=>whnf);refine pbr_oite H (fun g15 H => ?_) (fun g15 H => ?_)
         · (conv=>whnf);refine pwa ?_;(conv=>whnf);refine pw_ret ?_;(conv=>whnf);cases H; rfl
         · (conv=>whnf);refine pw_skip ?_;(conv=>whnf);refine pwa ?_;(conv=>whnf);refine pw_ret ?_;(conv=>whnf);cases H; rfl
noncomputable def f498 [LO]  (a0 : List (ByteArray × Bool × Int × Int)) (_ : List (ByteArray × Int × Int × Int × Bool × Bool)) (a2 : ByteArray) (a3 : Int) (a4 : Int) (a5 : Int) (a6 : Bool) (a7 : Bool) (a8 : List ByteArray) : Option Int :=
 obnd (f91 a2) fun (y1 : Bool) =>
 oite (!y1) (
 some (4 : Int)
 ) (
 obnd (f364 a8 a2) fun (y4 : Bool) =>
 oite y4 (
 some (5 : Int)
 ) (
 obnd (
 obnd (f15 a3 (0 : Int) ((IntKind.i64.wrap (((a0.map e_SBII).length : Int) - (1 : Int))))) fun (y11 : Bool) =>
 oite (!y11) (
 some true
 ) (
 obnd (f15 a4 (0 : Int) ((IntKind.i64.wrap (((a0.map e_SBII).length : Int) - (1 : Int))))) fun (y14 : Bool) =>
 some (!y14))
 ) fun (r7 : Bool) =>
 oite r7 (
 some (6 : Int)
 ) (
 oite ((ieq a3 a4)) (
 some (13 : Int)
 ) (
 obnd (f15 a5 (0 : Int) (1000 : Int)) fun (y18 : Bool) =>
 oite (!y18) (
 some (2 : Int)
 ) (
 obnd (
 oite (!a6) (
 some (!a7)
 ) (
 some false)
 ) fun (r21 : Bool) =>
 oite r21 (
 some (3 : Int)
 ) (
 some (0 : Int)))))))
theorem c498 [LO]  {a0 : List (ByteArray × Bool × Int × Int)} {a1 : List (ByteArray × Int × Int × Int × Bool × Bool)} {a2 : ByteArray} {a3 : Int} {a4 : Int} {a5 : Int} {a6 : Bool} {a7 : Bool} {a8 : List ByteArray} {x : Int} (H : f498 a0 a1 a2 a3 a4 a5 a6 a7 a8 = some x) : ICalls E 498 [(.agg ⟨[(VS 4 (a0.map e_SBII)), (VS 6 (a1.map e_SIIIBB))]⟩), (.agg ⟨[(.string a2), (.int .i64 a3), (.int .i64 a4), (.int .i64 a5), (.bool a6), (.bool a7)]⟩), (VS 1 (a8.map eS))] AHeap.none fun v _ => v = (.int .i64 x) := by
 refine icalls_fn (pfnw ?_); unfold f498 at H;(conv=>whnf);refine pwa ?_;(conv=>whnf);refine pw_seq ?_;refine pwa ?_;(conv=>whnf);obtain ⟨y1, h2, H⟩ := obnd_some H;refine (c91 h2).go ?_;(conv=>whnf);refine pw_cond ?_;(conv=>whnf);refine pbr_oite H (fun g3 H => ?_) (fun g3 H => ?_)
 · (conv=>whnf);refine pwa ?_;(conv=>whnf);refine pw_ret ?_;(conv=>whnf);cases H; rfl
 · (conv=>whnf);refine pw_skip ?_;(conv=>whnf);refine pw_seq ?_;refine pwa ?_;(conv=>whnf);obtain ⟨y4, h5, H⟩ := obnd_some H;refine (c364 h5).go ?_;(conv=>whnf);refine pw_cond ?_;(conv=>whnf);refine pbr_oite H (fun g6 H => ?_) (fun g6 H => ?_)
   · (conv=>whnf);refine pwa ?_;(conv=>whnf);refine pw_ret ?_;(conv=>whnf);cases H; rfl
   · (conv=>whnf);refine pw_skip ?_;(conv=>whnf);refine pw_seq ?_;obtain ⟨r7, h8, H⟩ := obnd_some H;refine pw_join (ρ := Bool) (fun e => ⟨[(4, (.pointer (some ⟨1, 0, none⟩))), (32, (.bool e))], ⟨2, [(1, .rw [(.string a2), (.int .i64 a3), (.int .i64 a4), (.int .i64 a5), (.bool a6), (.bool a7)]), (0, .rw [(VS 4 (a0.map e_SBII)), (VS 6 (a1.map e_SIIIBB))])], false⟩⟩) r7 ?_ ?_
     · refine pw_ops ?_;refine po_all ?_;(conv=>whnf);obtain ⟨y11, h12, h8⟩ := obnd_some h8;refine (c15 h12).go ?_;(conv=>whnf);refine pbr_oite h8 (fun g13 h8 => ?_) (fun g13 h8 => ?_)
       · (conv=>whnf);(iterate 8 refine pbr_t g13 ?_;(conv=>whnf));cases h8;exact ⟨(.cons rfl (.cons rfl .nil)), rfl⟩
       · (conv=>whnf);(iterate 6 refine pbr_f g13 ?_;(conv=>whnf));obtain ⟨y14, h15, h8⟩ := obnd_some h8;refine (c15 h15).go ?_;(conv=>whnf);refine pbr_f g13 ?_;(conv=>whnf);refine pbr_f g13 ?_;(conv=>whnf);cases h8;exact ⟨(.cons rfl (.cons rfl .nil)), rfl⟩
     · refine pw_cond ?_;(conv=>whnf);refine pbr_oite H (fun g16 H => ?_) (fun g16 H => ?_)
       · (conv=>whnf);refine pwa ?_;(conv=>whnf);refine pw_ret ?_;(conv=>whnf);cases H; rfl
       · (conv=>whnf);refine pw_skip ?_;(conv=>whnf);refine pw_seq ?_;refine pwa ?_;(conv=>whnf);refine pw_cond ?_;(conv=>whnf);refine pbr_oite H (fun g17 H => ?_) (fun g17 H => ?_)
         · (conv=>whnf);refine pwa ?_;(conv=>whnf);refine pw_ret ?_;(conv=>whnf);cases H; rfl
         · (conv=>whnf);refine pw_skip ?_;(conv=>whnf);refine pw_seq ?_;refine pwa ?_;(conv=>whnf);obtain ⟨y18, h19, H⟩ := obnd_some H;refine (c15 h19).go ?_;(conv=>whnf);refine pw_cond ?_;(conv=>whnf);refine pbr_oite H (fun g20 H => ?_) (fun g20 H => ?_)
           · (conv=>whnf);refine pwa ?_;(conv=>whnf);refine pw_ret ?_;(conv=>whnf);cases H; rfl
           · (conv=>whnf);refine pw_skip ?_;(conv=>whnf);refine pw_seq ?_;obtain ⟨r21, h22, H⟩ := obnd_some H;refine pw_join (ρ := Bool) (fun e => ⟨[(49, (.bool e))], ⟨2, [(1, .rw [(.string a2), (.int .i64 a3), (.int .i64 a4), (.int .i64 a5), (.bool a6), (.bool a7)]), (0, .rw [(VS 4 (a0.map e_SBII)), (VS 6 (a1.map e_SIIIBB))])], false⟩⟩) r21 ?_ ?_
             · refine pw_ops ?_;refine po_all ?_;(conv=>whnf);refine pbr_oite h22 (fun g25 h22 => ?_) (fun g25 h22 => ?_)
               · (conv=>whnf);(iterate 3 refine pbr_t g25 ?_;(conv=>whnf));cases h22;exact ⟨(.cons rfl .nil), rfl⟩
               · (conv=>whnf);(iterate 3 refine pbr_f g25 ?_;(conv=>whnf));cases h22;exact ⟨(.cons rfl .nil), rfl⟩
             · refine pw_cond ?_;(conv=>whnf);refine pbr_oite H (fun g26 H => ?_) (fun g26 H => ?_)
               · (conv=>whnf);refine pwa ?_;(conv=>whnf);refine pw_ret ?_;(conv=>whnf);cases H; rfl
               · (conv=>whnf);refine pw_skip ?_;(conv=>whnf);refine pwa ?_;(conv=>whnf);refine pw_ret ?_;(conv=>whnf);cases H; rfl
noncomputable def f485 [LO]  (a0 : List (ByteArray × Bool × Int × Int)) (a1 : List (ByteArray × Int × Int × Int × Bool × Bool)) : Option (Int × Int) :=
 obnd (
 oite ((ieq ((a0.map e_SBII).length : Int) (0 : Int))) (
 some true
 ) (
 some (ieq ((a1.map e_SIIIBB).length : Int) (0 : Int)))
 ) fun (r1 : Bool) =>
 oite r1 (
 some ((0 : Int), (10 : Int))
 ) (
 obnd (
 oite ((ilt (10 : Int) ((a0.map e_SBII).length : Int))) (
 some true
 ) (
 some (ilt (14 : Int) ((a1.map e_SIIIBB).length : Int)))
 ) fun (r7 : Bool) =>
 oite r7 (
 some ((0 : Int), (8 : Int))
 ) (
 obndS (
 oloop (τ := (List ByteArray) × Int) (ρ := (Unit) ⊕ (Int × Int)) (fun e17 =>
 oite ((ilt e17.2 ((a0.map e_SBII).length : Int))) (
 ogrd ((ile 0 e17.2)) (
 obnd (a0[e17.2.toNat]?) fun (x22 : ByteArray × Bool × Int × Int) =>
 obnd (f497 x22.1 x22.2.1 x22.2.2.1 x22.2.2.2 e17.1) fun (y23 : Int) =>
 oite ((!(ieq y23 (0 : Int)))) (
 some (.inr (.inr ((e17.2, y23))))
 ) (
 obnd (a0[e17.2.toNat]?) fun (x27 : ByteArray × Bool × Int × Int) =>
 ogrd (fits 16 (e17.1.length + ([x27.1] : List ByteArray).length)) (
 some (.inl (((e17.1 ++ ([x27.1] : List ByteArray)), (IntKind.i64.wrap (e17.2 + (1 : Int)))))))))
 ) (
 some (.inr (.inl ())))
 ) ((([] : List ByteArray), (0 : Int)))
 ) fun (_ : Unit) =>
 obndS (
 oloop (τ := (List ByteArray) × Int) (ρ := (Unit) ⊕ (Int × Int)) (fun e34 =>
 oite ((ilt e34.2 ((a1.map e_SIIIBB).length : Int))) (
 ogrd ((ile 0 e34.2)) (
 obnd (a1[e34.2.toNat]?) fun (x39 : ByteArray × Int × Int × Int × Bool × Bool) =>
 obnd (f498 a0 a1 x39.1 x39.2.1 x39.2.2.1 x39.2.2.2.1 x39.2.2.2.2.1 x39.2.2.2.2.2 e34.1) fun (y40 : Int) =>
 oite ((!(ieq y40 (0 : Int)))) (
 some (.inr (.inr ((e34.2, y40))))
 ) (
 obnd (a1[e34.2.toNat]?) fun (x44 : ByteArray × Int × Int × Int × Bool × Bool) =>
 ogrd (fits 16 (e34.1.length + ([x44.1] : List ByteArray).length)) (
 some (.inl (((e34.1 ++ ([x44.1] : List ByteArray)), (IntKind.i64.wrap (e34.2 + (1 : Int)))))))))
 ) (
 some (.inr (.inl ())))
 ) ((([] : List ByteArray), (0 : Int)))
 ) fun (_ : Unit) =>
 some ((0 : Int), (0 : Int))))
theorem c485 [LO]  {a0 : List (ByteArray × Bool × Int × Int)} {a1 : List (ByteArray × Int × Int × Int × Bool × Bool)} {x : Int × Int} (H : f485 a0 a1 = some x) : ICalls E 485 [(.agg ⟨[(VS 4 (a0.map e_SBII)), (VS 6 (a1.map e_SIIIBB))]⟩)] AHeap.none fun v _ => v = (.tuple ⟨[(.int .i64 x.1), (.int .i64 x.2)]⟩) := by
 refine icalls_fn (pfnw ?_); unfold f485 at H;(conv=>whnf);refine pwa ?_;(conv=>whnf);refine pw_seq ?_;obtain ⟨r1, h2, H⟩ := obnd_some H;refine pw_join (ρ := Bool) (fun e => ⟨[(1, (.pointer (some ⟨0, 0, none⟩))), (18, (.bool e))], ⟨1, [(0, .rw [(VS 4 (a0.map e_SBII)), (VS 6 (a1.map e_SIIIBB))])], false⟩⟩) r1 ?_ ?_
 · refine pw_ops ?_;refine po_all ?_;(conv=>whnf);refine pbr_oite h2 (fun g5 h2 => ?_) (fun g5 h2 => ?_)
   · (conv=>whnf);(iterate 4 refine pbr_t g5 ?_;(conv=>whnf));cases h2;exact ⟨(.cons rfl (.cons rfl .nil)), rfl⟩
   · (conv=>whnf);(iterate 4 refine pbr_f g5 ?_;(conv=>whnf));cases h2;exact ⟨(.cons rfl (.cons rfl .nil)), rfl⟩
 · refine pw_cond ?_;(conv=>whnf);refine pbr_oite H (fun g6 H => ?_) (fun g6 H => ?_)
   · (conv=>whnf);refine pwa ?_;(conv=>whnf);refine pw_ret ?_;(conv=>whnf);cases H; rfl
   · (conv=>whnf);refine pw_skip ?_;(conv=>whnf);refine pw_seq ?_;obtain ⟨r7, h8, H⟩ := obnd_some H;refine pw_join (ρ := Bool) (fun e => ⟨[(1, (.pointer (some ⟨0, 0, none⟩))), (28, (.bool e))], ⟨1, [(0, .rw [(VS 4 (a0.map e_SBII)), (VS 6 (a1.map e_SIIIBB))])], false⟩⟩) r7 ?_ ?_
     · refine pw_ops ?_;refine po_all ?_;(conv=>whnf);refine pbr_oite h8 (fun g11 h8 => ?_) (fun g11 h8 => ?_)
       · (conv=>whnf);(iterate 4 refine pbr_t g11 ?_;(conv=>whnf));cases h8;exact ⟨(.cons rfl (.cons rfl .nil)), rfl⟩
       · (conv=>whnf);(iterate 4 refine pbr_f g11 ?_;(conv=>whnf));cases h8;exact ⟨(.cons rfl (.cons rfl .nil)), rfl⟩
     · refine pw_cond ?_;(conv=>whnf);refine pbr_oite H (fun g12 H => ?_) (fun g12 H => ?_)
       · (conv=>whnf);refine pwa ?_;(conv=>whnf);refine pw_ret ?_;(conv=>whnf);cases H; rfl
       · (conv=>whnf);refine pw_skip ?_;(conv=>whnf);refine pwa ?_;(conv=>whnf);obtain ⟨r13, h14, h15, h16⟩ := obndS_some H;refine pw_joinSR (ρ := Unit) (fun e => ⟨[(1, (.pointer (some ⟨0, 0, none⟩)))], ⟨1, [(0, .rw [(VS 4 (a0.map e_SBII)), (VS 6 (a1.map e_SIIIBB))])], false⟩⟩) r13 ?_ ?_
         · refine pwa ?_;(conv=>whnf);refine pw_block ?_;refine pw_loop (τ := (List ByteArray) × Int) (fun e => ⟨[(1, (.pointer (some ⟨0, 0, none⟩))), (4, (VT 1 (e.1.map eS) 1)), (5, (.int .i64 e.2))], ⟨2, [(1, .tail (e.1.map eS).length 1), (0, .rw [(VS 4 (a0.map e_SBII)), (VS 6 (a1.map e_SIIIBB))])], false⟩⟩) h14 ?_ (fun _ => nl rfl) ?_
           · exact (Recast.nilTs 1 (nl rfl) (.same rfl (.turn rfl (.same rfl .nil))))
           · intro e17 x18 h19;refine pw_seq ?_;refine pwa ?_;(conv=>whnf);refine pw_cond ?_;(conv=>whnf);refine pbr_oite h19 (fun g20 h19 => ?_) (fun g20 h19 => ?_)
             · (conv=>whnf);refine pw_skip ?_;(conv=>whnf);refine pw_seq ?_;refine pw_block ?_;refine pw_seq ?_;refine pwa ?_;(conv=>whnf);refine pbr_ogrd h19 (fun g21 h19 => ?_);(conv=>whnf);refine nth_o (l := a0) h19 (fun x22 _ h19 => ?_);(conv=>whnf);obtain ⟨y23, h24, h19⟩ := obnd_some h19;refine ICalls.goW (c497 h24) (.cons (.refl _) (.cons (.vt _ _ _) .nil)) ?_;(conv=>whnf);refine pwa ?_;(conv=>whnf);refine pw_cond ?_;(conv=>whnf);refine pbr_oite h19 (fun g25 h19 => ?_) (fun g25 h19 => ?_)
               · (conv=>whnf);refine pwa ?_;(conv=>whnf);refine pw_ret ?_;(conv=>whnf);cases h19;refine ⟨_, rfl, ?_⟩; rintro rfl;(conv=>whnf);obtain rfl := h16 _ rfl; rfl
               · (conv=>whnf);refine pw_skip ?_;(conv=>whnf);refine pw_ops ?_;refine po_all ?_;(conv=>whnf);refine pbr_t g21 ?_;(conv=>whnf);refine nth_o (l := a0) h19 (fun x27 _ h19 => ?_);(conv=>whnf);refine app_o (l := e17.1) (m := ([x27.1] : List ByteArray)) (f := eS) h19 (by rfl) (by rfl) (by rfl) (fun h19 => ?_);(conv=>whnf);refine pw_ops ?_;refine po_all ?_;(conv=>whnf);cases h19;refine ⟨_, rfl, ?_⟩;refine Recast.trunc (nl rfl) ?_ ?_
                 · repeat (first | exact .nil | refine .cons rfl (by first | exact OBnd.rwc (nl rfl) rfl | exact OBnd.tail (nl rfl) | trivial | exact OBnd.loop (nl rfl) .nil) ?_)
                 · repeat (first | exact .nil | refine .cons rfl (by first | exact Bnd.ptr (nl rfl) | exact Bnd.vt (nl rfl) | exact Bnd.cl | exact Bnd.map (nl rfl)) ?_)
             · (conv=>whnf);refine pw_exit ?_;(conv=>whnf);cases h19;refine ⟨_, rfl, ?_⟩; rintro rfl;(conv=>whnf);refine ⟨_, rfl, ?_⟩;exact Recast.fz (fun _ => false) (nl rfl) (.cons (.same rfl rfl (OBnd.rwl (nl rfl) rfl (.cons .cl (.cons .cl .nil)))) .nil) (.cons rfl (.same _ (.ptr (nl rfl))) .nil)
         · intro r29 hr; have H := h15 _ hr;refine pwa ?_;(conv=>whnf);obtain ⟨r30, h31, h32, h33⟩ := obndS_some H;refine pw_joinSR (ρ := Unit) (fun e => ⟨[], ⟨1, [(0, .rw [(VS 4 (a0.map e_SBII)), (VS 6 (a1.map e_SIIIBB))])], false⟩⟩) r30 ?_ ?_
           · refine pwa ?_;(conv=>whnf);refine pw_block ?_;refine pw_loop (τ := (List ByteArray) × Int) (fun e => ⟨[(1, (.pointer (some ⟨0, 0, none⟩))), (4, (VT 1 (e.1.map eS) 1)), (7, (.int .i64 e.2))], ⟨2, [(1, .tail (e.1.map eS).length 1), (0, .rw [(VS 4 (a0.map e_SBII)), (VS 6 (a1.map e_SIIIBB))])], false⟩⟩) h31 ?_ (fun _ => nl rfl) ?_
             · exact (Recast.nilTs 1 (nl rfl) (.same rfl (.turn rfl (.same rfl .nil))))
             · intro e34 x35 h36;refine pw_seq ?_;refine pwa ?_;(conv=>whnf);refine pw_cond ?_;(conv=>whnf);refine pbr_oite h36 (fun g37 h36 => ?_) (fun g37 h36 => ?_)
               · (conv=>whnf);refine pw_skip ?_;(conv=>whnf);refine pw_seq ?_;refine pw_block ?_;refine pw_seq ?_;refine pw_sd ?_;(conv=>whnf);refine pbr_ogrd h36 (fun g38 h36 => ?_);(conv=>whnf);refine nth_o (l := a1) h36 (fun x39 _ h36 => ?_);(conv=>whnf);refine ⟨?_, trivial⟩;(conv=>whnf);obtain ⟨y40, h41, h36⟩ := obnd_some h36;refine ICalls.goW (c498 h41) (.cons (.refl _) (.cons (.refl _) (.cons (.vt _ _ _) .nil))) ?_;(conv=>whnf);refine ⟨by trivial,?_⟩;(conv=>whnf);refine pwa ?_;(conv=>whnf);refine pw_cond ?_;(conv=>whnf);refine pbr_oite h36 (fun g42 h36 => ?_) (fun g42 h36 => ?_)
                 · (conv=>whnf);refine pwa ?_;(conv=>whnf);refine pw_ret ?_;(conv=>whnf);cases h36;refine ⟨_, rfl, ?_⟩; rintro rfl;(conv=>whnf);obtain rfl := h33 _ rfl; rfl
                 · (conv=>whnf);refine pw_skip ?_;(conv=>whnf);refine pw_ops ?_;refine po_all ?_;(conv=>whnf);refine pbr_t g38 ?_;(conv=>whnf);refine nth_o (l := a1) h36 (fun x44 _ h36 => ?_);(conv=>whnf);refine app_o (l := e34.1) (m := ([x44.1] : List ByteArray)) (f := eS) h36 (by rfl) (by rfl) (by rfl) (fun h36 => ?_);(conv=>whnf);refine pw_ops ?_;refine po_all ?_;(conv=>whnf);cases h36;refine ⟨_, rfl, ?_⟩;refine Recast.trunc (nl rfl) ?_ ?_
                   · repeat (first | exact .nil | refine .cons rfl (by first | exact OBnd.rwc (nl rfl) rfl | exact OBnd.tail (nl rfl) | trivial | exact OBnd.loop (nl rfl) .nil) ?_)
                   · repeat (first | exact .nil | refine .cons rfl (by first | exact Bnd.ptr (nl rfl) | exact Bnd.vt (nl rfl) | exact Bnd.cl | exact Bnd.map (nl rfl)) ?_)
               · (conv=>whnf);refine pw_exit ?_;(conv=>whnf);cases h36;refine ⟨_, rfl, ?_⟩; rintro rfl;(conv=>whnf);refine ⟨_, rfl, ?_⟩;exact Recast.fz (fun _ => false) (nl rfl) (.cons (.same rfl rfl (OBnd.rwl (nl rfl) rfl (.cons .cl (.cons .cl .nil)))) .nil) .nil
           · intro r46 hr; have H := h32 _ hr;refine pwa ?_;(conv=>whnf);refine pw_ret ?_;(conv=>whnf);cases H; rfl
noncomputable def f477 [LO]  (a0 : List (ByteArray × Bool × Int × Int)) (a1 : List (ByteArray × Int × Int × Int × Bool × Bool)) : Option Int :=
 obnd (f485 a0 a1) fun (y1 : Int × Int) =>
 some y1.2
theorem c477 [LO]  {a0 : List (ByteArray × Bool × Int × Int)} {a1 : List (ByteArray × Int × Int × Int × Bool × Bool)} {x : Int} (H : f477 a0 a1 = some x) : ICalls E 477 [(.agg ⟨[(VS 4 (a0.map e_SBII)), (VS 6 (a1.map e_SIIIBB))]⟩)] AHeap.none fun v _ => v = (.int .i64 x) := by
 refine icalls_fn (pfnw ?_); unfold f477 at H;(conv=>whnf);refine pwa ?_;(conv=>whnf);refine pwa ?_;(conv=>whnf);obtain ⟨y1, h2, H⟩ := obnd_some H;refine (c485 h2).go ?_;(conv=>whnf);refine pwa ?_;(conv=>whnf);refine pw_ret ?_;(conv=>whnf);cases H; rfl
noncomputable def f492  (a0 : Bool) (a1 : Int) : Option Int :=
 oite a0 (
 some (0 : Int)
 ) (
 some a1)
theorem c492  {a0 : Bool} {a1 : Int} {x : Int} (H : f492 a0 a1 = some x) : ICalls E 492 [(.bool a0), (.int .i64 a1)] AHeap.none fun v _ => v = (.int .i64 x) := by
 refine icalls_fn (pfnw ?_); unfold f492 at H;(conv=>whnf);refine pwa ?_;(conv=>whnf);refine pw_seq ?_;refine pwa ?_;(conv=>whnf);refine pw_cond ?_;(conv=>whnf);refine pbr_oite H (fun g1 H => ?_) (fun g1 H => ?_)
 · (conv=>whnf);refine pwa ?_;(conv=>whnf);refine pw_ret ?_;(conv=>whnf);cases H; rfl
 · (conv=>whnf);refine pw_skip ?_;(conv=>whnf);refine pwa ?_;(conv=>whnf);refine pw_ret ?_;(conv=>whnf);cases H; rfl
noncomputable def f491 [LO]  (a0 : List Int) : Option Int :=
 obndS (
 oloop (τ := Int) (ρ := (Unit) ⊕ Int) (fun e5 =>
 oite ((ilt e5 ((a0.map eI).length : Int))) (
 ogrd ((ile 0 e5)) (
 obnd (a0[e5.toNat]?) fun (x10 : Int) =>
 oite ((!(ieq x10 (0 : Int)))) (
 some (.inr (.inr (x10)))
 ) (
 some (.inl (IntKind.i64.wrap (e5 + (1 : Int))))))
 ) (
 some (.inr (.inl ())))
 ) (0 : Int)
 ) fun (_ : Unit) =>
 some (0 : Int)
theorem c491 [LO]  {a0 : List Int} {x : Int} (H : f491 a0 = some x) : ICalls E 491 [(VS 1 (a0.map eI))] AHeap.none fun v _ => v = (.int .i64 x) := by
 refine icalls_fn (pfnw ?_); unfold f491 at H;(conv=>whnf);refine pwa ?_;(conv=>whnf);obtain ⟨r1, h2, h3, h4⟩ := obndS_some H;refine pw_joinS (ρ := Unit) (fun e => ⟨[], ⟨0, [], false⟩⟩) r1 ?_ ?_
 · refine pwa ?_;(conv=>whnf);refine pw_block ?_;refine pw_loop (τ := Int) (fun e => ⟨[(5, (VS 1 (a0.map eI))), (6, (.int .i64 ((a0.map eI).length : Int))), (7, (.int .i64 e))], ⟨0, [], false⟩⟩) h2 ?_ (fun _ => nl rfl) ?_
   · exact .sub' (nl rfl) (.cons rfl (.cons rfl (.cons rfl .nil)))
   · intro e5 x6 h7;refine pwa ?_;(conv=>whnf);refine pw_seq ?_;refine pw_cond ?_;(conv=>whnf);refine pbr_oite h7 (fun g8 h7 => ?_) (fun g8 h7 => ?_)
     · (conv=>whnf);refine pw_skip ?_;(conv=>whnf);refine pw_seq ?_;refine pw_block ?_;refine pwa ?_;(conv=>whnf);refine pbr_ogrd h7 (fun g9 h7 => ?_);(conv=>whnf);refine nth_o (l := a0) h7 (fun x10 _ h7 => ?_);(conv=>whnf);refine pwa ?_;(conv=>whnf);refine pw_cond ?_;(conv=>whnf);refine pbr_oite h7 (fun g11 h7 => ?_) (fun g11 h7 => ?_)
       · (conv=>whnf);refine pwa ?_;(conv=>whnf);refine pw_ret ?_;(conv=>whnf);cases h7;refine ⟨_, rfl, ?_⟩; rintro rfl;(conv=>whnf);obtain rfl := h4 _ rfl; rfl
       · (conv=>whnf);refine pw_skip ?_;(conv=>whnf);refine pw_ops ?_;refine po_all ?_;(conv=>whnf);cases h7;refine ⟨_, rfl, ?_⟩;exact .sub' (nl rfl) (.cons rfl (.cons rfl (.cons rfl .nil)))
     · (conv=>whnf);refine pw_exit ?_;(conv=>whnf);cases h7;refine ⟨_, rfl, ?_⟩; rintro rfl;(conv=>whnf);exact ⟨_, rfl, ⟨.nil, rfl⟩⟩
 · intro r14 hr; have H := h3 _ hr;refine pwa ?_;(conv=>whnf);refine pw_ret ?_;(conv=>whnf);cases H; rfl
noncomputable def f493  (a0 : Int) (a1 : Int) (a2 : Int) : Option Bool :=
 obnd (
 oite ((ile a1 a0)) (
 some (ile a0 a2)
 ) (
 some false)
 ) fun (r1 : Bool) =>
 some r1
theorem c493  {a0 : Int} {a1 : Int} {a2 : Int} {x : Bool} (H : f493 a0 a1 a2 = some x) : ICalls E 493 [(.int .i64 a0), (.int .i64 a1), (.int .i64 a2)] AHeap.none fun v _ => v = (.bool x) := by
 refine icalls_fn (pfnw ?_); unfold f493 at H;(conv=>whnf);refine pwa ?_;(conv=>whnf);refine pw_so ?_;refine po_ops 4 ?_;(conv=>whnf);obtain ⟨r1, h2, H⟩ := obnd_some H;refine po_seg (τ := Bool) 4 (fun e => ⟨[(14, (.bool e))], ⟨0, [], false⟩⟩) r1 ?_ ?_
 · refine po_all ?_;(conv=>whnf);refine pbr_oite h2 (fun g3 h2 => ?_) (fun g3 h2 => ?_)
   · (conv=>whnf);(iterate 3 refine pbr_t g3 ?_;(conv=>whnf));cases h2;exact ⟨(.cons rfl .nil), rfl⟩
   · (conv=>whnf);(iterate 3 refine pbr_f g3 ?_;(conv=>whnf));cases h2;exact ⟨(.cons rfl .nil), rfl⟩
 · refine po_all ?_;(conv=>whnf);refine pw_ret ?_;(conv=>whnf);cases H; rfl
noncomputable def f515  (a0 : Int) (a1 : Int) : Option Bool :=
 obnd (f493 a0 (IntKind.i64.wrap (0 - a1)) a1) fun (y1 : Bool) =>
 some y1
theorem c515  {a0 : Int} {a1 : Int} {x : Bool} (H : f515 a0 a1 = some x) : ICalls E 515 [(.int .i64 a0), (.int .i64 a1)] AHeap.none fun v _ => v = (.bool x) := by
 refine icalls_fn (pfnw ?_); unfold f515 at H;(conv=>whnf);refine pwa ?_;(conv=>whnf);refine pwa ?_;(conv=>whnf);obtain ⟨y1, h2, H⟩ := obnd_some H;refine (c493 h2).go ?_;(conv=>whnf);refine pw_ret ?_;(conv=>whnf);cases H; rfl
noncomputable def f516 [LO]  (a0 : ByteArray) : Option Bool :=
 obndS (
 oloop (τ := Int) (ρ := (Unit) ⊕ Bool) (fun e5 =>
 oite ((ilt e5 ((a0.data.toList.map eY).length : Int))) (
 ogrd ((ile 0 e5)) (
 obnd (a0.data.toList[e5.toNat]?) fun (x10 : UInt8) =>
 obnd (f493 (IntKind.i64.wrap (x10.toNat : Int)) (97 : Int) (122 : Int)) fun (y11 : Bool) =>
 obnd (
 oite y11 (
 some true
 ) (
 obnd (f493 (IntKind.i64.wrap (x10.toNat : Int)) (65 : Int) (90 : Int)) fun (y16 : Bool) =>
 some y16)
 ) fun (r13 : Bool) =>
 obnd (
 oite (!r13) (
 obnd (
 oite ((ieq e5 (0 : Int))) (
 some true
 ) (
 oite ((!(ieq (x10.toNat : Int) (45 : Int)))) (
 obnd (f493 (IntKind.i64.wrap (x10.toNat : Int)) (48 : Int) (57 : Int)) fun (y27 : Bool) =>
 some (!y27)
 ) (
 some false))
 ) fun (r23 : Bool) =>
 some r23
 ) (
 some false)
 ) fun (r18 : Bool) =>
 oite r18 (
 some (.inr (.inr (false)))
 ) (
 some (.inl (IntKind.i64.wrap (e5 + (1 : Int))))))
 ) (
 some (.inr (.inl ())))
 ) (0 : Int)
 ) fun (_ : Unit) =>
 obnd (f493 (a0.size : Int) (1 : Int) (12 : Int)) fun (y33 : Bool) =>
 some y33
theorem c516 [LO]  {a0 : ByteArray} {x : Bool} (H : f516 a0 = some x) : ICalls E 516 [(.string a0)] AHeap.none fun v _ => v = (.bool x) := by
 refine icalls_fn (pfnw ?_); unfold f516 at H;(conv=>whnf);refine pwa ?_;(conv=>whnf);obtain ⟨r1, h2, h3, h4⟩ := obndS_some H;refine pw_joinS (ρ := Unit) (fun e => ⟨[(0, (.string a0))], ⟨0, [], false⟩⟩) r1 ?_ ?_
 · refine pwa ?_;(conv=>whnf);refine pw_block ?_;refine pw_loop (τ := Int) (fun e => ⟨[(0, (.string a0)), (7, (VS 1 (a0.data.toList.map eY))), (8, (.int .i64 ((a0.data.toList.map eY).length : Int))), (9, (.int .i64 e))], ⟨0, [], false⟩⟩) h2 ?_ (fun _ => nl rfl) ?_
   · exact .sub' (nl rfl) (.cons rfl (.cons rfl (.cons rfl (.cons rfl .nil))))
   · intro e5 x6 h7;refine pwa ?_;(conv=>whnf);refine pw_seq ?_;refine pw_cond ?_;(conv=>whnf);refine pbr_oite h7 (fun g8 h7 => ?_) (fun g8 h7 => ?_)
     · (conv=>whnf);refine pw_skip ?_;(conv=>whnf);refine pw_seq ?_;refine pw_block ?_;refine pwa ?_;(conv=>whnf);refine pbr_ogrd h7 (fun g9 h7 => ?_);(conv=>whnf);refine nth_o (l := a0.data.toList) h7 (fun x10 _ h7 => ?_);(conv=>whnf);refine pw_so ?_;refine po_ops 4 ?_;(conv=>whnf);obtain ⟨y11, h12, h7⟩ := obnd_some h7;refine (c493 h12).go ?_;(conv=>whnf);obtain ⟨r13, h14, h7⟩ := obnd_some h7;refine po_seg (τ := Bool) 4 (fun e => ⟨[(0, (.string a0)), (3, (.int .i64 e5)), (4, (.int .u8 (x10.toNat : Int))), (7, (VS 1 (a0.data.toList.map eY))), (8, (.int .i64 ((a0.data.toList.map eY).length : Int))), (9, (.int .i64 e5)), (21, (.bool e))], ⟨0, [], false⟩⟩) r13 ?_ ?_
       · refine po_all ?_;(conv=>whnf);refine pbr_oite h14 (fun g15 h14 => ?_) (fun g15 h14 => ?_)
         · (conv=>whnf);(iterate 3 refine pbr_t g15 ?_;(conv=>whnf));cases h14;exact ⟨by (repeat refine .cons rfl ?_);exact .nil,rfl⟩
         · (conv=>whnf);refine pbr_f g15 ?_;(conv=>whnf);refine pbr_f g15 ?_;(conv=>whnf);obtain ⟨y16, h17, h14⟩ := obnd_some h14;refine (c493 h17).go ?_;(conv=>whnf);refine pbr_f g15 ?_;(conv=>whnf);cases h14;exact ⟨by (repeat refine .cons rfl ?_);exact .nil,rfl⟩
       · refine po_all ?_;(conv=>whnf);obtain ⟨r18, h19, h7⟩ := obnd_some h7;refine pw_join (ρ := Bool) (fun e => ⟨[(0, (.string a0)), (7, (VS 1 (a0.data.toList.map eY))), (8, (.int .i64 ((a0.data.toList.map eY).length : Int))), (9, (.int .i64 e5)), (37, (.bool e))], ⟨0, [], false⟩⟩) r18 ?_ ?_
         · refine pw_ops ?_;refine po_ops 6 ?_;(conv=>whnf);refine pbr_oite h19 (fun g22 h19 => ?_) (fun g22 h19 => ?_)
           · (conv=>whnf);refine pbr_t g22 ?_;(conv=>whnf);refine pbr_t g22 ?_;(conv=>whnf);obtain ⟨r23, h24, h19⟩ := obnd_some h19;refine po_seg (τ := Bool) 9 (fun e => ⟨[(0, (.string a0)), (7, (VS 1 (a0.data.toList.map eY))), (8, (.int .i64 ((a0.data.toList.map eY).length : Int))), (9, (.int .i64 e5)), (24, (.bool (!r13))), (25, (.int .i64 e5)), (26, (.bool (ieq e5 (0 : Int)))), (27, (.bool (ieq e5 (0 : Int)))), (36, (.bool e))], ⟨0, [], false⟩⟩) r23 ?_ ?_
             · refine po_all ?_;(conv=>whnf);refine pbr_oite h24 (fun g25 h24 => ?_) (fun g25 h24 => ?_)
               · (conv=>whnf);(iterate 3 refine pbr_t g25 ?_;(conv=>whnf));refine pbr_t g22 ?_;(conv=>whnf);refine pbr_t g25 ?_;(conv=>whnf);cases h24;exact ⟨by (repeat refine .cons rfl ?_);exact .nil,rfl⟩
               · (conv=>whnf);refine pbr_f g25 ?_;(conv=>whnf);refine pbr_f g25 ?_;(conv=>whnf);refine pbr_oite h24 (fun g26 h24 => ?_) (fun g26 h24 => ?_)
                 · (conv=>whnf);refine pbr_t g26 ?_;(conv=>whnf);refine pbr_t g26 ?_;(conv=>whnf);obtain ⟨y27, h28, h24⟩ := obnd_some h24;refine (c493 h28).go ?_;(conv=>whnf);refine pbr_t g26 ?_;(conv=>whnf);refine pbr_f g25 ?_;(conv=>whnf);refine pbr_t g26 ?_;(conv=>whnf);refine pbr_t g22 ?_;(conv=>whnf);refine pbr_f g25 ?_;(conv=>whnf);cases h24;exact ⟨by (repeat refine .cons rfl ?_);exact .nil,rfl⟩
                 · (conv=>whnf);(iterate 3 refine pbr_f g26 ?_;(conv=>whnf));refine pbr_f g25 ?_;(conv=>whnf);refine pbr_f g26 ?_;(conv=>whnf);refine pbr_t g22 ?_;(conv=>whnf);refine pbr_f g25 ?_;(conv=>whnf);cases h24;exact ⟨by (repeat refine .cons rfl ?_);exact .nil,rfl⟩
             · refine po_all ?_;(conv=>whnf);refine pbr_t g22 ?_;(conv=>whnf);cases h19;exact ⟨by (repeat refine .cons rfl ?_);exact .nil,rfl⟩
           · (conv=>whnf);refine pbr_f g22 ?_;(conv=>whnf);refine pbr_f g22 ?_;(conv=>whnf);refine po_ops 9 ?_;(conv=>whnf);refine pbr_f g22 ?_;(conv=>whnf);refine po_all ?_;(conv=>whnf);refine pbr_f g22 ?_;(conv=>whnf);cases h19;exact ⟨by (repeat refine .cons rfl ?_);exact .nil,rfl⟩
         · refine pw_cond ?_;(conv=>whnf);refine pbr_oite h7 (fun g29 h7 => ?_) (fun g29 h7 => ?_)
           · (conv=>whnf);refine pwa ?_;(conv=>whnf);refine pw_ret ?_;(conv=>whnf);cases h7;refine ⟨_, rfl, ?_⟩; rintro rfl;(conv=>whnf);obtain rfl := h4 _ rfl; rfl
           · (conv=>whnf);refine pw_skip ?_;(conv=>whnf);refine pw_ops ?_;refine po_all ?_;(conv=>whnf);cases h7;refine ⟨_, rfl, ?_⟩;exact .sub' (nl rfl) (.cons rfl (.cons rfl (.cons rfl (.cons rfl .nil))))
     · (conv=>whnf);refine pw_exit ?_;(conv=>whnf);cases h7;refine ⟨_, rfl, ?_⟩; rintro rfl;(conv=>whnf);exact ⟨_, rfl, ⟨(.cons rfl .nil), rfl⟩⟩
 · intro r32 hr; have H := h3 _ hr;refine pwa ?_;(conv=>whnf);obtain ⟨y33, h34, H⟩ := obnd_some H;refine (c493 h34).go ?_;(conv=>whnf);refine pw_ret ?_;(conv=>whnf);cases H; rfl
noncomputable def f517  (a0 : Int) (a1 : List (ByteArray × Bool × Int × Int)) (_ : List (ByteArray × Int × Int × Int × Bool × Bool)) : Option Bool :=
 obnd (f493 a0 (0 : Int) ((IntKind.i64.wrap (((a1.map e_SBII).length : Int) - (1 : Int))))) fun (y1 : Bool) =>
 some y1
theorem c517  {a0 : Int} {a1 : List (ByteArray × Bool × Int × Int)} {a2 : List (ByteArray × Int × Int × Int × Bool × Bool)} {x : Bool} (H : f517 a0 a1 a2 = some x) : ICallV E (.func (.func (E.id 517)) ⟨[]⟩ ⟨[(VP (.agg ⟨[(VS 4 (a1.map e_SBII)), (VS 6 (a2.map e_SIIIBB))]⟩) 0)]⟩) [(.int .i64 a0)] AHeap.none fun v _ => v = (.bool x) := by
 refine icallv_fn (pfnw ?_); unfold f517 at H;(conv=>whnf);refine pwa ?_;(conv=>whnf);refine pwa ?_;(conv=>whnf);obtain ⟨y1, h2, H⟩ := obnd_some H;refine (c493 h2).go ?_;(conv=>whnf);refine pw_ret ?_;(conv=>whnf);cases H; rfl
noncomputable def f505 [LO]  (a0 : List (ByteArray × Bool × Int × Int)) (a1 : List (ByteArray × Int × Int × Int × Bool × Bool)) : Option (Int × Int) :=
 obnd (
 oite ((ilt (0 : Int) ((a0.map e_SBII).length : Int))) (
 some (ilt (0 : Int) ((a1.map e_SIIIBB).length : Int))
 ) (
 some false)
 ) fun (r1 : Bool) =>
 obnd (
 oite ((ile ((a0.map e_SBII).length : Int) (10 : Int))) (
 some (ile ((a1.map e_SIIIBB).length : Int) (14 : Int))
 ) (
 some false)
 ) fun (r4 : Bool) =>
 obnd (f492 r1 (10 : Int)) fun (y7 : Int) =>
 obnd (f492 r4 (8 : Int)) fun (y9 : Int) =>
 obnd (f491 ([y7, y9] : List Int)) fun (y11 : Int) =>
 oite ((!(ieq y11 (0 : Int)))) (
 some ((0 : Int), y11)
 ) (
 obndS (
 oloop (τ := Int × (List ByteArray)) (ρ := ((List ByteArray)) ⊕ (Int × Int)) (fun e18 =>
 oite ((ilt e18.1 ((a0.map e_SBII).length : Int))) (
 ogrd ((ile 0 e18.1)) (
 obnd (a0[e18.1.toNat]?) fun (x23 : ByteArray × Bool × Int × Int) =>
 obnd (f515 x23.2.2.2 (10000 : Int)) fun (y24 : Bool) =>
 obnd (
 oite x23.2.1 (
 obnd (f493 x23.2.2.1 (0 : Int) (1000000 : Int)) fun (y31 : Bool) =>
 some (x23.2.2.2, y31)
 ) (
 some (x23.2.2.1, y24))
 ) fun (r26 : Int × Bool) =>
 obnd (f516 x23.1) fun (y33 : Bool) =>
 obnd (f492 y33 (4 : Int)) fun (y35 : Int) =>
 obnd (f492 (!(hasK (kd (kc e18.2)) x23.1)) (5 : Int)) fun (y37 : Int) =>
 obnd (f492 r26.2 (2 : Int)) fun (y39 : Int) =>
 obnd (f492 (ieq r26.1 (0 : Int)) (3 : Int)) fun (y41 : Int) =>
 obnd (f491 ([y35, y37, y39, y41] : List Int)) fun (y43 : Int) =>
 oite ((!(ieq y43 (0 : Int)))) (
 some (.inr (.inr ((e18.1, y43))))
 ) (
 some (.inl (((IntKind.i64.wrap (e18.1 + (1 : Int))), (mset (kd (kc e18.2)) x23.1))))))
 ) (
 some (.inr (.inl e18.2)))
 ) (((0 : Int), ([] : List ByteArray)))
 ) fun (_ : (List ByteArray)) =>
 obndS (
 oloop (τ := Int × (List ByteArray)) (ρ := ((List ByteArray)) ⊕ (Int × Int)) (fun e53 =>
 oite ((ilt e53.1 ((a1.map e_SIIIBB).length : Int))) (
 ogrd ((ile 0 e53.1)) (
 obnd (a1[e53.1.toNat]?) fun (x58 : ByteArray × Int × Int × Int × Bool × Bool) =>
 obnd (
 obnd (f516 x58.1) fun (y63 : Bool) =>
 obnd (f492 y63 (4 : Int)) fun (y65 : Int) =>
 obnd (f492 (!(hasK (kd (kc e53.2)) x58.1)) (5 : Int)) fun (y67 : Int) =>
 obnd (f517 x58.2.1 a0 a1) fun (y69 : Bool) =>
 oite y69 (
 obnd (f517 x58.2.2.1 a0 a1) fun (y72 : Bool) =>
 obnd (f492 y72 (6 : Int)) fun (y74 : Int) =>
 obnd (f492 (!(ieq x58.2.1 x58.2.2.1)) (13 : Int)) fun (y76 : Int) =>
 obnd (f493 x58.2.2.2.1 (0 : Int) (1000 : Int)) fun (y78 : Bool) =>
 obnd (f492 y78 (2 : Int)) fun (y80 : Int) =>
 oite x58.2.2.2.2.1 (
 obnd (f492 true (3 : Int)) fun (y83 : Int) =>
 obnd (f491 ([y65, y67, y74, y76, y80, y83] : List Int)) fun (y85 : Int) =>
 some y85
 ) (
 obnd (f492 x58.2.2.2.2.2 (3 : Int)) fun (y87 : Int) =>
 obnd (f491 ([y65, y67, y74, y76, y80, y87] : List Int)) fun (y89 : Int) =>
 some y89)
 ) (
 obnd (f492 false (6 : Int)) fun (y91 : Int) =>
 obnd (f492 (!(ieq x58.2.1 x58.2.2.1)) (13 : Int)) fun (y93 : Int) =>
 obnd (f493 x58.2.2.2.1 (0 : Int) (1000 : Int)) fun (y95 : Bool) =>
 obnd (f492 y95 (2 : Int)) fun (y97 : Int) =>
 oite x58.2.2.2.2.1 (
 obnd (f492 true (3 : Int)) fun (y100 : Int) =>
 obnd (f491 ([y65, y67, y91, y93, y97, y100] : List Int)) fun (y102 : Int) =>
 some y102
 ) (
 obnd (f492 x58.2.2.2.2.2 (3 : Int)) fun (y104 : Int) =>
 obnd (f491 ([y65, y67, y91, y93, y97, y104] : List Int)) fun (y106 : Int) =>
 some y106))
 ) fun (r59 : Int) =>
 oite ((!(ieq r59 (0 : Int)))) (
 some (.inr (.inr ((e53.1, r59))))
 ) (
 some (.inl (((IntKind.i64.wrap (e53.1 + (1 : Int))), (mset (kd (kc e53.2)) x58.1))))))
 ) (
 some (.inr (.inl e53.2)))
 ) (((0 : Int), ([] : List ByteArray)))
 ) fun (_ : (List ByteArray)) =>
 some ((0 : Int), (0 : Int)))
theorem c505 [LO]  {a0 : List (ByteArray × Bool × Int × Int)} {a1 : List (ByteArray × Int × Int × Int × Bool × Bool)} {x : Int × Int} (H : f505 a0 a1 = some x) : ICalls E 505 [(.agg ⟨[(VS 4 (a0.map e_SBII)), (VS 6 (a1.map e_SIIIBB))]⟩)] AHeap.none fun v _ => v = (.tuple ⟨[(.int .i64 x.1), (.int .i64 x.2)]⟩) := by
  refine icalls_fn (pfnw ?_); unfold f505 at H;(conv=>whnf);refine pwa ?_;(conv=>whnf);refine pw_so ?_;refine po_ops 5 ?_;(conv=>whnf);obtain ⟨r1, h2, H⟩ := obnd_some H;refine po_seg (τ := Bool) 5 (fun e => ⟨[(1, (.pointer (some ⟨0, 0, none⟩))), (27, (.bool e))], ⟨1, [(0, .rw [(VS 4 (a0.map e_SBII)), (VS 6 (a1.map e_SIIIBB))])], false⟩⟩) r1 ?_ ?_
  · refine po_all ?_;(conv=>whnf);refine pbr_oite h2 (fun g3 h2 => ?_) (fun g3 h2 => ?_)
    · (conv=>whnf);(iterate 4 refine pbr_t g3 ?_;(conv=>whnf));cases h2;exact ⟨(.cons rfl (.cons rfl .nil)), rfl⟩
    · (conv=>whnf);(iterate 4 refine pbr_f g3 ?_;(conv=>whnf));cases h2;exact ⟨(.cons rfl (.cons rfl .nil)), rfl⟩
  · refine po_all ?_;(conv=>whnf);refine pw_so ?_;refine po_ops 5 ?_;(conv=>whnf);obtain ⟨r4, h5, H⟩ := obnd_some H;refine po_seg (τ := Bool) 5 (fun e => ⟨[(1, (.pointer (some ⟨0, 0, none⟩))), (4, (.bool r1)), (37, (.bool e))], ⟨1, [(0, .rw [(VS 4 (a0.map e_SBII)), (VS 6 (a1.map e_SIIIBB))])], false⟩⟩) r4 ?_ ?_
    · refine po_all ?_;(conv=>whnf);refine pbr_oite h5 (fun g6 h5 => ?_) (fun g6 h5 => ?_)
      · (conv=>whnf);(iterate 4 refine pbr_t g6 ?_;(conv=>whnf));cases h5;exact ⟨(.cons rfl (.cons rfl (.cons rfl .nil))), rfl⟩
      · (conv=>whnf);(iterate 4 refine pbr_f g6 ?_;(conv=>whnf));cases h5;exact ⟨(.cons rfl (.cons rfl (.cons rfl .nil))), rfl⟩
    · refine po_all ?_;(conv=>whnf);refine pw_seq ?_;refine pwa ?_;(conv=>whnf);obtain ⟨y7, h8, H⟩ := obnd_some H;refine (c492 h8).go ?_;(conv=>whnf);obtain ⟨y9, h10, H⟩ := obnd_some H;refine (c492 h10).go ?_;(conv=>whnf);obtain ⟨y11, h12, H⟩ := obnd_some H;refine ICalls.goW (c491 h12) (.cons (.vt _ _ _) .nil) ?_;(conv=>whnf);refine pwa ?_;(conv=>whnf);refine pw_cond ?_;(conv=>whnf);refine pbr_oite H (fun g13 H => ?_) (fun g13 H => ?_)
      · (conv=>whnf);refine pwa ?_;(conv=>whnf);refine pw_ret ?_;(conv=>whnf);cases H; rfl
      · (conv=>whnf);refine pw_skip ?_;(conv=>whnf);refine pwa ?_;(conv=>whnf);obtain ⟨r14, h15, h16, h17⟩ := obndS_some H;refine pw_joinS (ρ := (List ByteArray)) (fun e => ⟨[(1, (.pointer (some ⟨0, 0, none⟩)))], ⟨3, [(2, .loop (mpL e)), (1, .tail 2 1), (0, .rw [(VS 4 (a0.map e_SBII)), (VS 6 (a1.map e_SIIIBB))])], false⟩⟩) r14 ?_ ?_
        · refine pwa ?_;(conv=>whnf);refine pw_block ?_;refine pw_loop (τ := Int × (List ByteArray)) (fun e => ⟨[(1, (.pointer (some ⟨0, 0, none⟩))), (7, (.map (some 2))), (49, (VS 4 (a0.map e_SBII))), (50, (.int .i64 ((a0.map e_SBII).length : Int))), (51, (.int .i64 e.1))], ⟨3, [(2, .loop (mpL e.2)), (1, .tail 2 1), (0, .rw [(VS 4 (a0.map e_SBII)), (VS 6 (a1.map e_SIIIBB))])], false⟩⟩) h15 ?_ (fun _ => nl rfl) ?_
          · exact .sub' (nl rfl) (.cons rfl (.cons rfl (.cons rfl (.cons rfl (.cons rfl .nil)))))
          · intro e18 x19 h20;refine pwa ?_;(conv=>whnf);refine pw_seq ?_;refine pw_cond ?_;(conv=>whnf);refine pbr_oite h20 (fun g21 h20 => ?_) (fun g21 h20 => ?_)
            · (conv=>whnf);refine pw_skip ?_;(conv=>whnf);refine pw_seq ?_;refine pw_block ?_;refine pwa ?_;(conv=>whnf);refine pbr_ogrd h20 (fun g22 h20 => ?_);(conv=>whnf);refine nth_o (l := a0) h20 (fun x23 _ h20 => ?_);(conv=>whnf);refine pw_sd ?_;(conv=>whnf);refine ⟨?_, trivial⟩;(conv=>whnf);obtain ⟨y24, h25, h20⟩ := obnd_some h20;refine (c515 h25).go ?_;(conv=>whnf);refine ⟨by trivial,?_⟩;(conv=>whnf);obtain ⟨r26, h27, h20⟩ := obnd_some h20;refine pw_join (ρ := Int × Bool) (fun e => ⟨[(1, (.pointer (some ⟨0, 0, none⟩))), (7, (.map (some 2))), (8, (.int .i64 e18.1)), (9, (.pointer (some ⟨3, 0, none⟩))), (10, (.int .i64 e.1)), (11, (.bool e.2)), (49, (VS 4 (a0.map e_SBII))), (50, (.int .i64 ((a0.map e_SBII).length : Int))), (51, (.int .i64 e18.1))], ⟨4, [(3, .rw [(.string x23.1), (.bool x23.2.1), (.int .i64 x23.2.2.1), (.int .i64 x23.2.2.2)]), (2, .loop (mpL e18.2)), (1, .tail 2 1), (0, .rw [(VS 4 (a0.map e_SBII)), (VS 6 (a1.map e_SIIIBB))])], false⟩⟩) r26 ?_ ?_
              · refine pwa ?_;(conv=>whnf);refine pw_cond ?_;(conv=>whnf);refine pbr_oite h27 (fun g30 h27 => ?_) (fun g30 h27 => ?_)
                · (conv=>whnf);refine pw_draw ?_;(conv=>whnf);refine ⟨?_, trivial⟩;(conv=>whnf);obtain ⟨y31, h32, h27⟩ := obnd_some h27;refine (c493 h32).go ?_;(conv=>whnf);refine ⟨by trivial,?_⟩;(conv=>whnf);cases h27;exact ⟨by (repeat refine .cons rfl ?_);exact .nil,rfl⟩
                · (conv=>whnf);refine pw_skip ?_;(conv=>whnf);cases h27;exact ⟨by (repeat refine .cons rfl ?_);exact .nil,rfl⟩
              · refine pw_seq ?_;refine pw_sd ?_;(conv=>whnf);refine ⟨?_, trivial⟩;(conv=>whnf);obtain ⟨y33, h34, h20⟩ := obnd_some h20;refine (c516 h34).go ?_;(conv=>whnf);refine ⟨by trivial,?_⟩;(conv=>whnf);refine ⟨?_, trivial⟩;(conv=>whnf);obtain ⟨y35, h36, h20⟩ := obnd_some h20;refine (c492 h36).go ?_;(conv=>whnf);refine ⟨by trivial,?_⟩;(conv=>whnf);refine ⟨?_, trivial⟩;(conv=>whnf);obtain ⟨y37, h38, h20⟩ := obnd_some h20;refine (c492 h38).go ?_;(conv=>whnf);refine ⟨by trivial,?_⟩
                (conv=>whnf);refine ⟨?_, trivial⟩;(conv=>whnf);obtain ⟨y39, h40, h20⟩ := obnd_some h20;refine (c492 h40).go ?_;(conv=>whnf);refine ⟨by trivial,?_⟩;(conv=>whnf);refine ⟨?_, trivial⟩;(conv=>whnf);obtain ⟨y41, h42, h20⟩ := obnd_some h20;refine (c492 h42).go ?_;(conv=>whnf);refine ⟨by trivial,?_⟩;(conv=>whnf);refine ⟨?_, trivial⟩;(conv=>whnf);refine ⟨by trivial,?_⟩;(conv=>whnf);refine ⟨?_, trivial⟩;(conv=>whnf);obtain ⟨y43, h44, h20⟩ := obnd_some h20;refine ICalls.goW (c491 h44) (.cons (.vt _ _ _) .nil) ?_
                (conv=>whnf);refine ⟨by trivial,?_⟩;(conv=>whnf);refine pwa ?_;(conv=>whnf);refine pw_cond ?_;(conv=>whnf);refine pbr_oite h20 (fun g45 h20 => ?_) (fun g45 h20 => ?_)
                · (conv=>whnf);refine pwa ?_;(conv=>whnf);refine pw_ret ?_;(conv=>whnf);cases h20;refine ⟨_, rfl, ?_⟩; rintro rfl;(conv=>whnf);obtain rfl := h17 _ rfl; rfl
                · (conv=>whnf);refine pw_skip ?_;(conv=>whnf);refine pw_ops ?_;refine po_all ?_;(conv=>whnf);refine pw_ops ?_;refine po_all ?_;(conv=>whnf);cases h20;refine ⟨_, rfl, ?_⟩;refine Recast.trunc (nl rfl) ?_ ?_
                  · repeat (first | exact .nil | refine .cons rfl (by first | exact OBnd.rwc (nl rfl) rfl | exact OBnd.tail (nl rfl) | trivial | exact OBnd.loop (nl rfl) .nil) ?_)
                  · repeat (first | exact .nil | refine .cons rfl (by first | exact Bnd.ptr (nl rfl) | exact Bnd.vt (nl rfl) | exact Bnd.cl | exact Bnd.map (nl rfl)) ?_)
            · (conv=>whnf);refine pw_exit ?_;(conv=>whnf);cases h20;refine ⟨_, rfl, ?_⟩; rintro rfl;(conv=>whnf);exact ⟨_, rfl, ⟨(.cons rfl .nil), rfl⟩⟩
        · intro r48 hr; have H := h16 _ hr;refine pwa ?_;(conv=>whnf);refine pwa ?_;(conv=>whnf);obtain ⟨r49, h50, h51, h52⟩ := obndS_some H;refine pw_joinS (ρ := (List ByteArray)) (fun e => ⟨[], ⟨4, [(3, .loop (mpL e)), (2, .loop (mpL r48)), (1, .tail 2 1), (0, .rw [(VS 4 (a0.map e_SBII)), (VS 6 (a1.map e_SIIIBB))])], false⟩⟩) r49 ?_ ?_
          · refine pwa ?_;(conv=>whnf);refine pw_block ?_;refine pw_loop (τ := Int × (List ByteArray)) (fun e => ⟨[(13, (.func (.func (E.id 517)) ⟨[]⟩ ⟨[(.pointer (some ⟨0, 0, none⟩))]⟩)), (14, (.map (some 3))), (96, (VS 6 (a1.map e_SIIIBB))), (97, (.int .i64 ((a1.map e_SIIIBB).length : Int))), (98, (.int .i64 e.1))], ⟨4, [(3, .loop (mpL e.2)), (2, .loop (mpL r48)), (1, .tail 2 1), (0, .rw [(VS 4 (a0.map e_SBII)), (VS 6 (a1.map e_SIIIBB))])], false⟩⟩) h50 ?_ (fun _ => nl rfl) ?_
            · exact .sub' (nl rfl) (.cons rfl (.cons rfl (.cons rfl (.cons rfl (.cons rfl .nil)))))
            · intro e53 x54 h55;refine pwa ?_;(conv=>whnf);refine pw_seq ?_;refine pw_cond ?_;(conv=>whnf);refine pbr_oite h55 (fun g56 h55 => ?_) (fun g56 h55 => ?_)
              · (conv=>whnf);refine pw_skip ?_;(conv=>whnf);refine pw_seq ?_;refine pw_block ?_;refine pwa ?_;(conv=>whnf);refine pbr_ogrd h55 (fun g57 h55 => ?_);(conv=>whnf);refine nth_o (l := a1) h55 (fun x58 _ h55 => ?_);(conv=>whnf);obtain ⟨r59, h60, h55⟩ := obnd_some h55;refine pw_join (ρ := Int) (fun e => ⟨[(13, (.func (.func (E.id 517)) ⟨[]⟩ ⟨[(.pointer (some ⟨0, 0, none⟩))]⟩)), (14, (.map (some 3))), (15, (.int .i64 e53.1)), (16, (.pointer (some ⟨4, 0, none⟩))), (17, (.int .i64 e)), (96, (VS 6 (a1.map e_SIIIBB))), (97, (.int .i64 ((a1.map e_SIIIBB).length : Int))), (98, (.int .i64 e53.1))], ⟨6, [(5, .tail 6 1), (4, .rw [(.string x58.1), (.int .i64 x58.2.1), (.int .i64 x58.2.2.1), (.int .i64 x58.2.2.2.1), (.bool x58.2.2.2.2.1), (.bool x58.2.2.2.2.2)]), (3, .loop (mpL e53.2)), (2, .loop (mpL r48)), (1, .tail 2 1), (0, .rw [(VS 4 (a0.map e_SBII)), (VS 6 (a1.map e_SIIIBB))])], false⟩⟩) r59 ?_ ?_
                · refine pw_draw ?_;(conv=>whnf);refine ⟨?_, trivial⟩;(conv=>whnf);obtain ⟨y63, h64, h60⟩ := obnd_some h60;refine (c516 h64).go ?_;(conv=>whnf);refine ⟨by trivial,?_⟩;(conv=>whnf);refine ⟨?_, trivial⟩;(conv=>whnf);obtain ⟨y65, h66, h60⟩ := obnd_some h60;refine (c492 h66).go ?_;(conv=>whnf);refine ⟨by trivial,?_⟩;(conv=>whnf);refine ⟨?_, trivial⟩;(conv=>whnf);obtain ⟨y67, h68, h60⟩ := obnd_some h60;refine (c492 h68).go ?_;(conv=>whnf);refine ⟨by trivial,?_⟩
                  (conv=>whnf);refine ⟨?_, trivial⟩;(conv=>whnf);obtain ⟨y69, h70, h60⟩ := obnd_some h60;refine ICallV.goD (c517 h70) (.func .nil (.cons (.ptr rfl (by intro v hv; simp only [List.mem_cons, List.not_mem_nil, or_false] at hv; rcases hv with rfl | rfl <;> rfl)) .nil)) (.cons .cl .nil) rfl ?_;(conv=>whnf);refine ⟨by trivial,?_⟩;(conv=>whnf);refine pbr_oite h60 (fun g71 h60 => ?_) (fun g71 h60 => ?_)
                  · (conv=>whnf);refine pbr_t g71 ?_;(conv=>whnf);refine pbr_t g71 ?_;(conv=>whnf);refine ⟨?_, trivial⟩;(conv=>whnf);refine pbr_t g71 ?_;(conv=>whnf);obtain ⟨y72, h73, h60⟩ := obnd_some h60;refine ICallV.goD (c517 h73) (.func .nil (.cons (.ptr rfl (by intro v hv; simp only [List.mem_cons, List.not_mem_nil, or_false] at hv; rcases hv with rfl | rfl <;> rfl)) .nil)) (.cons .cl .nil) rfl ?_;(conv=>whnf);refine ⟨by trivial,?_⟩;(conv=>whnf);refine pbr_t g71 ?_;(conv=>whnf);refine ⟨?_, trivial⟩;(conv=>whnf);obtain ⟨y74, h75, h60⟩ := obnd_some h60;refine (c492 h75).go ?_
                    (conv=>whnf);refine ⟨by trivial,?_⟩;(conv=>whnf);refine ⟨?_, trivial⟩;(conv=>whnf);obtain ⟨y76, h77, h60⟩ := obnd_some h60;refine (c492 h77).go ?_;(conv=>whnf);refine ⟨by trivial,?_⟩;(conv=>whnf);refine ⟨?_, trivial⟩;(conv=>whnf);obtain ⟨y78, h79, h60⟩ := obnd_some h60;refine (c493 h79).go ?_;(conv=>whnf);refine ⟨by trivial,?_⟩;(conv=>whnf);refine ⟨?_, trivial⟩;(conv=>whnf);obtain ⟨y80, h81, h60⟩ := obnd_some h60;refine (c492 h81).go ?_;(conv=>whnf)
                    refine ⟨by trivial,?_⟩;(conv=>whnf);refine pbr_oite h60 (fun g82 h60 => ?_) (fun g82 h60 => ?_)
                    · (conv=>whnf);refine pbr_t g82 ?_;(conv=>whnf);refine pbr_t g82 ?_;(conv=>whnf);refine ⟨?_, trivial⟩;(conv=>whnf);obtain ⟨y83, h84, h60⟩ := obnd_some h60;refine (c492 h84).go ?_;(conv=>whnf);refine ⟨by trivial,?_⟩;(conv=>whnf);refine ⟨?_, trivial⟩;(conv=>whnf);refine ⟨by trivial,?_⟩;(conv=>whnf);refine ⟨?_, trivial⟩;(conv=>whnf);obtain ⟨y85, h86, h60⟩ := obnd_some h60;refine ICalls.goW (c491 h86) (.cons (.vt _ _ _) .nil) ?_;(conv=>whnf);refine ⟨by trivial,?_⟩
                      (conv=>whnf);cases h60;exact ⟨by (repeat refine .cons rfl ?_);exact .nil,rfl⟩
                    · (conv=>whnf);refine pbr_f g82 ?_;(conv=>whnf);refine pbr_f g82 ?_;(conv=>whnf);refine ⟨?_, trivial⟩;(conv=>whnf);obtain ⟨y87, h88, h60⟩ := obnd_some h60;refine (c492 h88).go ?_;(conv=>whnf);refine ⟨by trivial,?_⟩;(conv=>whnf);refine ⟨?_, trivial⟩;(conv=>whnf);refine ⟨by trivial,?_⟩;(conv=>whnf);refine ⟨?_, trivial⟩;(conv=>whnf);obtain ⟨y89, h90, h60⟩ := obnd_some h60;refine ICalls.goW (c491 h90) (.cons (.vt _ _ _) .nil) ?_;(conv=>whnf);refine ⟨by trivial,?_⟩
                      (conv=>whnf);cases h60;exact ⟨by (repeat refine .cons rfl ?_);exact .nil,rfl⟩
                  · (conv=>whnf);refine pbr_f g71 ?_;(conv=>whnf);refine pbr_f g71 ?_;(conv=>whnf);refine ⟨?_, trivial⟩;(conv=>whnf);refine pbr_f g71 ?_;(conv=>whnf);refine pbr_f g71 ?_;(conv=>whnf);refine ⟨?_, trivial⟩;(conv=>whnf);obtain ⟨y91, h92, h60⟩ := obnd_some h60;refine (c492 h92).go ?_;(conv=>whnf);refine ⟨by trivial,?_⟩;(conv=>whnf);refine ⟨?_, trivial⟩;(conv=>whnf);obtain ⟨y93, h94, h60⟩ := obnd_some h60;refine (c492 h94).go ?_;(conv=>whnf);refine ⟨by trivial,?_⟩;(conv=>whnf);refine ⟨?_, trivial⟩;(conv=>whnf)
                    obtain ⟨y95, h96, h60⟩ := obnd_some h60;refine (c493 h96).go ?_;(conv=>whnf);refine ⟨by trivial,?_⟩;(conv=>whnf);refine ⟨?_, trivial⟩;(conv=>whnf);obtain ⟨y97, h98, h60⟩ := obnd_some h60;refine (c492 h98).go ?_;(conv=>whnf);refine ⟨by trivial,?_⟩;(conv=>whnf);refine pbr_oite h60 (fun g99 h60 => ?_) (fun g99 h60 => ?_)
                    · (conv=>whnf);refine pbr_t g99 ?_;(conv=>whnf);refine pbr_t g99 ?_;(conv=>whnf);refine ⟨?_, trivial⟩;(conv=>whnf);obtain ⟨y100, h101, h60⟩ := obnd_some h60;refine (c492 h101).go ?_;(conv=>whnf);refine ⟨by trivial,?_⟩;(conv=>whnf);refine ⟨?_, trivial⟩;(conv=>whnf);refine ⟨by trivial,?_⟩;(conv=>whnf);refine ⟨?_, trivial⟩;(conv=>whnf);obtain ⟨y102, h103, h60⟩ := obnd_some h60;refine ICalls.goW (c491 h103) (.cons (.vt _ _ _) .nil) ?_;(conv=>whnf);refine ⟨by trivial,?_⟩
                      (conv=>whnf);cases h60;exact ⟨by (repeat refine .cons rfl ?_);exact .nil,rfl⟩
                    · (conv=>whnf);refine pbr_f g99 ?_;(conv=>whnf);refine pbr_f g99 ?_;(conv=>whnf);refine ⟨?_, trivial⟩;(conv=>whnf);obtain ⟨y104, h105, h60⟩ := obnd_some h60;refine (c492 h105).go ?_;(conv=>whnf);refine ⟨by trivial,?_⟩;(conv=>whnf);refine ⟨?_, trivial⟩;(conv=>whnf);refine ⟨by trivial,?_⟩;(conv=>whnf);refine ⟨?_, trivial⟩;(conv=>whnf);obtain ⟨y106, h107, h60⟩ := obnd_some h60;refine ICalls.goW (c491 h107) (.cons (.vt _ _ _) .nil) ?_;(conv=>whnf);refine ⟨by trivial,?_⟩
                      (conv=>whnf);cases h60;exact ⟨by (repeat refine .cons rfl ?_);exact .nil,rfl⟩
                · refine pw_seq ?_;refine pwa ?_;(conv=>whnf);refine pw_cond ?_;(conv=>whnf);refine pbr_oite h55 (fun g108 h55 => ?_) (fun g108 h55 => ?_)
                  · (conv=>whnf);refine pwa ?_;(conv=>whnf);refine pw_ret ?_;(conv=>whnf);cases h55;refine ⟨_, rfl, ?_⟩; rintro rfl;(conv=>whnf);obtain rfl := h52 _ rfl; rfl
                  · (conv=>whnf);refine pw_skip ?_;(conv=>whnf);refine pw_ops ?_;refine po_all ?_;(conv=>whnf);refine pw_ops ?_;refine po_all ?_;(conv=>whnf);cases h55;refine ⟨_, rfl, ?_⟩;exact Recast.fz (fun _ => false) (nl rfl) (.cons (.same rfl rfl (OBnd.loop (nl rfl) .nil)) (.cons (.same rfl rfl (OBnd.loop (nl rfl) .nil)) (.cons (.same rfl rfl (OBnd.tail (nl rfl))) (.cons (.same rfl rfl (OBnd.rwl (nl rfl) rfl (.cons .cl (.cons .cl .nil)))) .nil)))) (.cons rfl (.same _ (.funcl .nil (.cons (.ptr (nl rfl)) .nil))) (.cons rfl (.same _ (.map (nl rfl))) (.cons rfl (.same _ .cl) (.cons rfl (.same _ .cl) (.cons rfl (.same _ .cl) .nil)))))
              · (conv=>whnf);refine pw_exit ?_;(conv=>whnf);cases h55;refine ⟨_, rfl, ?_⟩; rintro rfl;(conv=>whnf);exact ⟨_, rfl, ⟨.nil, rfl⟩⟩
          · intro r111 hr; have H := h51 _ hr;refine pwa ?_;(conv=>whnf);refine pw_ret ?_;(conv=>whnf);cases H; rfl
noncomputable def f488 [LO]  (a0 : List (ByteArray × Bool × Int × Int)) (a1 : List (ByteArray × Int × Int × Int × Bool × Bool)) : Option ((List (ByteArray × Bool × Int × Int)) × (List (ByteArray × Int × Int × Int × Bool × Bool)) × Int) :=
 obnd (f505 a0 a1) fun (y1 : Int × Int) =>
 some (a0, a1, y1.2)
theorem c488 [LO]  {a0 : List (ByteArray × Bool × Int × Int)} {a1 : List (ByteArray × Int × Int × Int × Bool × Bool)} {x : (List (ByteArray × Bool × Int × Int)) × (List (ByteArray × Int × Int × Int × Bool × Bool)) × Int} (H : f488 a0 a1 = some x) : ICalls E 488 [(.agg ⟨[(VS 4 (a0.map e_SBII)), (VS 6 (a1.map e_SIIIBB))]⟩)] AHeap.none fun v _ => v = (.tuple ⟨[(.agg ⟨[(VS 4 (x.1.map e_SBII)), (VS 6 (x.2.1.map e_SIIIBB))]⟩), (.int .i64 x.2.2)]⟩) := by
 refine ICalls.frz ?_;refine icalls_fn (pfnw ?_); unfold f488 at H;(conv=>whnf);refine pwa ?_;(conv=>whnf);refine pwa ?_;(conv=>whnf);obtain ⟨y1, h2, H⟩ := obnd_some H;refine (c505 h2).go ?_;(conv=>whnf);refine pwa ?_;(conv=>whnf);refine pw_ret ?_;(conv=>whnf);cases H; show ∃ D, Fz _ D 0 (.tuple ⟨[(.agg ⟨[(VS 4 _), (VS 6 _)]⟩), (.int .i64 y1.2)]⟩) _;exact ⟨fun _ => false, .tuplel (.cons .cl (.cons .cl (.nil)))⟩
noncomputable def f499  (a0 : List (ByteArray × Bool × Int × Int)) (_ : List (ByteArray × Int × Int × Int × Bool × Bool)) (a2 : Int) : Option Int :=
 obnd (f493 a2 (0 : Int) ((IntKind.i64.wrap (((a0.map e_SBII).length : Int) - (1 : Int))))) fun (y1 : Bool) =>
 obnd (f492 y1 (6 : Int)) fun (y3 : Int) =>
 some y3
theorem c499  {a0 : List (ByteArray × Bool × Int × Int)} {a1 : List (ByteArray × Int × Int × Int × Bool × Bool)} {a2 : Int} {x : Int} (H : f499 a0 a1 a2 = some x) : ICalls E 499 [(.agg ⟨[(VS 4 (a0.map e_SBII)), (VS 6 (a1.map e_SIIIBB))]⟩), (.int .i64 a2)] AHeap.none fun v _ => v = (.int .i64 x) := by
 refine icalls_fn (pfnw ?_); unfold f499 at H;(conv=>whnf);refine pwa ?_;(conv=>whnf);refine pwa ?_;(conv=>whnf);obtain ⟨y1, h2, H⟩ := obnd_some H;refine (c493 h2).go ?_;(conv=>whnf);obtain ⟨y3, h4, H⟩ := obnd_some H;refine (c492 h4).go ?_;(conv=>whnf);refine pw_ret ?_;(conv=>whnf);cases H; rfl
noncomputable def f486 [LO]  (a0 : List (ByteArray × Bool × Int × Int)) (a1 : List (ByteArray × Int × Int × Int × Bool × Bool)) (a2 : Int) (a3 : Int) : Option ((List (ByteArray × Bool × Int × Int)) × (List (ByteArray × Int × Int × Int × Bool × Bool)) × Int) :=
 obnd (f488 a0 a1) fun (y1 : (List (ByteArray × Bool × Int × Int)) × (List (ByteArray × Int × Int × Int × Bool × Bool)) × Int) =>
 obnd (f499 y1.1 y1.2.1 a2) fun (y3 : Int) =>
 obnd (f499 y1.1 y1.2.1 a3) fun (y5 : Int) =>
 obnd (f492 (!(ieq a2 a3)) (13 : Int)) fun (y7 : Int) =>
 obnd (f491 ([y1.2.2, y3, y5, y7] : List Int)) fun (y9 : Int) =>
 some (y1.1, y1.2.1, y9)
theorem c486 [LO]  {a0 : List (ByteArray × Bool × Int × Int)} {a1 : List (ByteArray × Int × Int × Int × Bool × Bool)} {a2 : Int} {a3 : Int} {x : (List (ByteArray × Bool × Int × Int)) × (List (ByteArray × Int × Int × Int × Bool × Bool)) × Int} (H : f486 a0 a1 a2 a3 = some x) : ICalls E 486 [(.agg ⟨[(VS 4 (a0.map e_SBII)), (VS 6 (a1.map e_SIIIBB))]⟩), (.agg ⟨[(.int .i64 a2), (.int .i64 a3)]⟩)] AHeap.none fun v _ => v = (.tuple ⟨[(.agg ⟨[(VS 4 (x.1.map e_SBII)), (VS 6 (x.2.1.map e_SIIIBB))]⟩), (.int .i64 x.2.2)]⟩) := by
 refine ICalls.frz ?_;refine icalls_fn (pfnw ?_); unfold f486 at H;(conv=>whnf);refine pwa ?_;(conv=>whnf);refine pwa ?_;(conv=>whnf);obtain ⟨y1, h2, H⟩ := obnd_some H;refine (c488 h2).go ?_;(conv=>whnf);refine pw_sd ?_;(conv=>whnf);refine ⟨?_, trivial⟩;(conv=>whnf);obtain ⟨y3, h4, H⟩ := obnd_some H;refine (c499 h4).go ?_;(conv=>whnf);refine ⟨by trivial,?_⟩;(conv=>whnf);refine ⟨?_, trivial⟩;(conv=>whnf);obtain ⟨y5, h6, H⟩ := obnd_some H;refine (c499 h6).go ?_;(conv=>whnf);refine ⟨by trivial,?_⟩
 (conv=>whnf);refine ⟨?_, trivial⟩;(conv=>whnf);obtain ⟨y7, h8, H⟩ := obnd_some H;refine (c492 h8).go ?_;(conv=>whnf);refine ⟨by trivial,?_⟩;(conv=>whnf);refine ⟨?_, trivial⟩;(conv=>whnf);refine ⟨by trivial,?_⟩;(conv=>whnf);refine ⟨?_, trivial⟩;(conv=>whnf);obtain ⟨y9, h10, H⟩ := obnd_some H;refine ICalls.goW (c491 h10) (.cons (.vt _ _ _) .nil) ?_;(conv=>whnf);refine ⟨by trivial,?_⟩;(conv=>whnf);refine ⟨?_, trivial⟩;(conv=>whnf);refine ⟨by trivial,?_⟩
 (conv=>whnf);refine pw_ret ?_;(conv=>whnf);cases H; show ∃ D, Fz _ D 0 (.tuple ⟨[(.agg ⟨[(VS 4 _), (VS 6 _)]⟩), (.int .i64 y9)]⟩) _;exact ⟨fun _ => false, .tuplel (.cons .cl (.cons .cl (.nil)))⟩
noncomputable def r504 [LO] (p0 : (List Int) → Option Bool) (p99 : (List Int) → (List Int) → Int → Option ((List Int) × Bool)) (a0 : List Int) (a1 : List Int) (a2 : Int) : Option ((List Int) × Bool) :=
 oite ((ieq a2 (0 : Int))) (
 obnd (p0 a0) fun (y2 : Bool) =>
 some (a0, y2)
 ) (
 obndS (
 oloop (τ := Int) (ρ := (Unit) ⊕ ((List Int) × Bool)) (fun e8 =>
 oite ((ilt e8 ((a1.map eI).length : Int))) (
 ogrd ((ile 0 e8)) (
 obnd (a1[e8.toNat]?) fun (x13 : Int) =>
 obnd (
 obnd (oslL a1 (IntKind.i64.wrap (e8 + (1 : Int)))) fun (m18 : List Int) =>
 obnd (f514 a0) fun (y21 : (List Int)) =>
 ogrd (fits 8 (y21.length + ([x13] : List Int).length)) (
 obnd (p99 (y21 ++ ([x13] : List Int)) m18 (IntKind.i64.wrap (a2 - (1 : Int)))) fun (y24 : (List Int) × Bool) =>
 some (y24.1, y24.2))
 ) fun (r14 : (List Int) × Bool) =>
 oite r14.2 (
 some (.inr (.inr ((r14.1, true))))
 ) (
 some (.inl (IntKind.i64.wrap (e8 + (1 : Int))))))
 ) (
 some (.inr (.inl ())))
 ) (0 : Int)
 ) fun (_ : Unit) =>
 some (([] : List Int), false))
theorem cr504 [LO] {p0 : (List Int) → Option Bool} {g0 : Value} [Cl g0] (hp0 : ∀ y0 y, p0 y0 = some y → ICallV E g0 [(VS 1 (y0.map eI))] AHeap.none fun v _ => v = (.bool y)) {p99 : (List Int) → (List Int) → Int → Option ((List Int) × Bool)} (hp99 : ∀ {a0 : List Int} {a1 : List Int} {a2 : Int} {x : (List Int) × Bool}, p99 a0 a1 a2 = some x → ICalls E 504 [(VS 1 (a0.map eI)), (VS 1 (a1.map eI)), (.int .i64 a2), g0] AHeap.none fun v _ => v = (.tuple ⟨[(VS 1 (x.1.map eI)), (.bool x.2)]⟩)) {a0 : List Int} {a1 : List Int} {a2 : Int} {x : (List Int) × Bool} (H : r504 p0 p99 a0 a1 a2 = some x) : ICalls E 504 [(VS 1 (a0.map eI)), (VS 1 (a1.map eI)), (.int .i64 a2), g0] AHeap.none fun v _ => v = (.tuple ⟨[(VS 1 (x.1.map eI)), (.bool x.2)]⟩) := by
 refine ICalls.frz ?_;refine icalls_fn (pfnw ?_); unfold r504 at H;(conv=>whnf);refine pwa ?_;(conv=>whnf);refine pw_seq ?_;refine pwa ?_;(conv=>whnf);refine pw_cond ?_;(conv=>whnf);refine pbr_oite H (fun g1 H => ?_) (fun g1 H => ?_)
 · (conv=>whnf);refine pwa ?_;(conv=>whnf);obtain ⟨y2, h3, H⟩ := obnd_some H;refine ICallV.go (hp0 _ _ h3) ?_;(conv=>whnf);refine pw_ret ?_;(conv=>whnf);cases H; show ∃ D, Fz _ D 0 (.tuple ⟨[(VS 1 _), (.bool y2)]⟩) _;exact ⟨fun _ => false, .tuplel (.cons .cl (.cons .cl (.nil)))⟩
 · (conv=>whnf);refine pw_skip ?_;(conv=>whnf);obtain ⟨r4, h5, h6, h7⟩ := obndS_some H;refine pw_joinS (ρ := Unit) (fun e => ⟨[], ⟨0, [], false⟩⟩) r4 ?_ ?_
   · refine pwa ?_;(conv=>whnf);refine pw_block ?_;refine pw_loop (τ := Int) (fun e => ⟨[(0, (VS 1 (a0.map eI))), (1, (VS 1 (a1.map eI))), (2, (.int .i64 a2)), (3, g0), (20, (VS 1 (a1.map eI))), (21, (.int .i64 ((a1.map eI).length : Int))), (22, (.int .i64 e))], ⟨0, [], false⟩⟩) h5 ?_ (fun _ => nl rfl) ?_
     · exact .sub' (nl rfl) (.cons rfl (.cons rfl (.cons rfl (.cons rfl (.cons rfl (.cons rfl (.cons rfl .nil)))))))
     · intro e8 x9 h10;refine pwa ?_;(conv=>whnf);refine pw_seq ?_;refine pw_cond ?_;(conv=>whnf);refine pbr_oite h10 (fun g11 h10 => ?_) (fun g11 h10 => ?_)
       · (conv=>whnf);refine pw_skip ?_;(conv=>whnf);refine pw_seq ?_;refine pw_block ?_;refine pwa ?_;(conv=>whnf);refine pbr_ogrd h10 (fun g12 h10 => ?_);(conv=>whnf);refine nth_o (l := a1) h10 (fun x13 _ h10 => ?_);(conv=>whnf);obtain ⟨r14, h15, h10⟩ := obnd_some h10;refine pw_joinR (ρ := (List Int) × Bool) (fun e => ⟨[(0, (VS 1 (a0.map eI))), (1, (VS 1 (a1.map eI))), (2, (.int .i64 a2)), (3, g0), (12, (VS 1 (e.1.map eI))), (13, (.bool e.2)), (20, (VS 1 (a1.map eI))), (21, (.int .i64 ((a1.map eI).length : Int))), (22, (.int .i64 e8))], ⟨0, [], false⟩⟩) r14 ?_ ?_
         · refine pw_draw ?_;(conv=>whnf);refine oslL_o (f := eI) h15 (fun m18 _ h15 h19 h20 => ?_);refine pbr_t (ile_t h19.1) ?_;(conv=>whnf);refine pbr_t (ile_t (by simpa only [List.length_map] using h19.2)) ?_; rw [h20];(conv=>whnf);refine ⟨?_, ?_⟩
           · (conv=>whnf);obtain ⟨y21, h22, h15⟩ := obnd_some h15;refine ICalls.goFW (c514 h22) (.cons (.refl _) .nil) ?_;(conv=>whnf);refine ⟨by trivial,?_⟩;(conv=>whnf);refine ⟨?_, trivial⟩;(conv=>whnf);refine ⟨by trivial,?_⟩;(conv=>whnf);refine ⟨?_, trivial⟩;(conv=>whnf);obtain ⟨g23, h15⟩ := ogrd_some h15;refine app_o (l := y21) (m := ([x13] : List Int)) (f := eI) (ogrd_i g23) (by rfl) (by rfl) (by rfl) (fun _ => ?_);(conv=>whnf);refine ⟨by trivial,?_⟩;(conv=>whnf)
             refine ⟨?_, trivial⟩;(conv=>whnf);obtain ⟨y24, h25, h15⟩ := obnd_some h15;refine ICalls.goW (hp99 h25) (.cons (.vt _ _ _) (.cons (.refl _) (.cons (.refl _) (.cons (.refl _) .nil)))) ?_;(conv=>whnf);refine ⟨by trivial,?_⟩;(conv=>whnf);cases h15;exact Recast.fz (fun _ => false) (nl rfl) .nil (.cons rfl (.same _ .cl) (.cons rfl (.same _ .cl) (.cons rfl (.same _ .cl) (.cons rfl (.same _ .cl) (.cons rfl (.same _ .cl) (.cons rfl (.same _ .cl) (.cons rfl (.same _ .cl) (.cons rfl (.same _ .cl) (.cons rfl (.same _ .cl) .nil)))))))))
           · obtain ⟨y21, h22, h15⟩ := obnd_some h15;obtain ⟨g23, h15⟩ := ogrd_some h15;obtain ⟨y24, h25, h15⟩ := obnd_some h15;(conv=>whnf);refine ⟨?_, trivial⟩;(conv=>whnf);refine ⟨by trivial,?_⟩;(conv=>whnf);refine ⟨?_, trivial⟩;(conv=>whnf);refine ICalls.goFW (c514 h22) (.cons (.refl _) .nil) ?_;(conv=>whnf);refine ⟨by trivial,?_⟩;(conv=>whnf);refine ⟨?_, trivial⟩;(conv=>whnf);refine app_o (l := y21) (m := ([x13] : List Int)) (f := eI) (ogrd_i g23) (by rfl) (by rfl) (by rfl) (fun _ => ?_);(conv=>whnf);refine ⟨by trivial,?_⟩
             (conv=>whnf);refine ⟨?_, trivial⟩;(conv=>whnf);refine ICalls.goW (hp99 h25) (.cons (.vt _ _ _) (.cons (.refl _) (.cons (.refl _) (.cons (.refl _) .nil)))) ?_;(conv=>whnf);refine ⟨by trivial,?_⟩;(conv=>whnf);cases h15;exact Recast.fz (fun _ => false) (nl rfl) .nil (.cons rfl (.same _ .cl) (.cons rfl (.same _ .cl) (.cons rfl (.same _ .cl) (.cons rfl (.same _ .cl) (.cons rfl (.same _ .cl) (.cons rfl (.same _ .cl) (.cons rfl (.same _ .cl) (.cons rfl (.same _ .cl) (.cons rfl (.same _ .cl) .nil)))))))))
         · refine pwa ?_;(conv=>whnf);refine pw_cond ?_;(conv=>whnf);refine pbr_oite h10 (fun g26 h10 => ?_) (fun g26 h10 => ?_)
           · (conv=>whnf);refine pwa ?_;(conv=>whnf);refine pw_ret ?_;(conv=>whnf);cases h10;refine ⟨_, rfl, ?_⟩; rintro rfl;(conv=>whnf);obtain rfl := h7 _ rfl; show ∃ D, Fz _ D 0 (.tuple ⟨[(VS 1 _), (.bool true)]⟩) _;exact ⟨fun _ => false, .tuplel (.cons .cl (.cons .cl (.nil)))⟩
           · (conv=>whnf);refine pw_skip ?_;(conv=>whnf);refine pw_ops ?_;refine po_all ?_;(conv=>whnf);cases h10;refine ⟨_, rfl, ?_⟩;exact .sub' (nl rfl) (.cons rfl (.cons rfl (.cons rfl (.cons rfl (.cons rfl (.cons rfl (.cons rfl .nil)))))))
       · (conv=>whnf);refine pw_exit ?_;(conv=>whnf);cases h10;refine ⟨_, rfl, ?_⟩; rintro rfl;(conv=>whnf);exact ⟨_, rfl, ⟨.nil, rfl⟩⟩
   · intro r29 hr; have H := h6 _ hr;refine pwa ?_;(conv=>whnf);refine pw_ret ?_;(conv=>whnf);cases H; show ∃ D, Fz _ D 0 (.tuple ⟨[(.slice none 0 0), (.bool false)]⟩) _;exact ⟨fun _ => false, .tuplel (.cons (.nil _) (.cons .cl (.nil)))⟩
noncomputable def f504n [LO] (p0 : (List Int) → Option Bool) : Nat → (List Int) → (List Int) → Int → Option ((List Int) × Bool)
 | 0 => fun _ _ _ => none
 | n + 1 => r504 p0 (f504n p0 n)
theorem c504n [LO] {p0 : (List Int) → Option Bool} {g0 : Value} [Cl g0] (hp0 : ∀ y0 y, p0 y0 = some y → ICallV E g0 [(VS 1 (y0.map eI))] AHeap.none fun v _ => v = (.bool y)) : ∀ (n : Nat) {a0 : List Int} {a1 : List Int} {a2 : Int} {x : (List Int) × Bool}, f504n p0 n a0 a1 a2 = some x → ICalls E 504 [(VS 1 (a0.map eI)), (VS 1 (a1.map eI)), (.int .i64 a2), g0] AHeap.none fun v _ => v = (.tuple ⟨[(VS 1 (x.1.map eI)), (.bool x.2)]⟩)
 | 0, _, _, _, _, H => by cases H
 | n + 1, _, _, _, _, H => cr504 hp0 (fun h => c504n hp0 n h) H
noncomputable def f504 [LO] (p0 : (List Int) → Option Bool) (a0 : List Int) (a1 : List Int) (a2 : Int) : Option ((List Int) × Bool) := f504n p0 (a2.toNat + 1) a0 a1 a2
theorem c504 [LO] {p0 : (List Int) → Option Bool} {g0 : Value} [Cl g0] (hp0 : ∀ y0 y, p0 y0 = some y → ICallV E g0 [(VS 1 (y0.map eI))] AHeap.none fun v _ => v = (.bool y)) {a0 : List Int} {a1 : List Int} {a2 : Int} {x : (List Int) × Bool} (H : f504 p0 a0 a1 a2 = some x) : ICalls E 504 [(VS 1 (a0.map eI)), (VS 1 (a1.map eI)), (.int .i64 a2), g0] AHeap.none fun v _ => v = (.tuple ⟨[(VS 1 (x.1.map eI)), (.bool x.2)]⟩) := c504n hp0 _ H
noncomputable def f506 [LO] (p0 : Int → Option Bool) (a0 : List (ByteArray × Bool × Int × Int)) (a1 : List (ByteArray × Int × Int × Int × Bool × Bool)) (a2 : List Int) : Option ((List Bool)) :=
 ogrd (mfits 1 ((a0.map e_SBII).length : Int) ((a0.map e_SBII).length : Int)) (
 obnd (
 oloop (τ := Int × (List Bool)) (ρ := (List Bool)) (fun e6 =>
 oite ((ilt e6.1 ((a2.map eI).length : Int))) (
 ogrd ((ile 0 e6.1)) (
 obnd (a2[e6.1.toNat]?) fun (x11 : Int) =>
 ogrd ((ile 0 x11)) (
 ogrd ((ilt x11 (((a0.map e_SBII).length : Int).toNat : Int))) (
 ogrd (Nat.blt x11.toNat e6.2.length) (
 some (.inl (((IntKind.i64.wrap (e6.1 + (1 : Int))), (e6.2.set x11.toNat true))))))))
 ) (
 some (.inr (e6.2)))
 ) (((0 : Int), (List.replicate ((a0.map e_SBII).length : Int).toNat false)))
 ) fun (r2 : (List Bool)) =>
 obnd (
 oloop (τ := Bool × (List Bool)) (ρ := (List Bool)) (fun e20 =>
 oite e20.1 (
 oloop (τ := Bool × Int × (List Bool)) (ρ := (Bool × (List Bool)) ⊕ ((List Bool))) (fun e24 =>
 oite ((ilt e24.2.1 ((a1.map e_SIIIBB).length : Int))) (
 ogrd ((ile 0 e24.2.1)) (
 obnd (a1[e24.2.1.toNat]?) fun (x29 : ByteArray × Int × Int × Int × Bool × Bool) =>
 obnd (
 obnd (p0 e24.2.1) fun (y34 : Bool) =>
 oite y34 (
 ogrd ((ile 0 x29.2.1)) (
 ogrd ((ilt x29.2.1 (((a0.map e_SBII).length : Int).toNat : Int))) (
 obnd (e24.2.2[x29.2.1.toNat]?) fun (x39 : Bool) =>
 ogrd ((ile 0 x29.2.2.1)) (
 ogrd ((ilt x29.2.2.1 (((a0.map e_SBII).length : Int).toNat : Int))) (
 obnd (e24.2.2[x29.2.2.1.toNat]?) fun (x44 : Bool) =>
 some (!(x39 == x44))))))
 ) (
 some false)
 ) fun (r30 : Bool) =>
 oite r30 (
 ogrd ((ile 0 x29.2.1)) (
 ogrd ((ilt x29.2.1 (((a0.map e_SBII).length : Int).toNat : Int))) (
 ogrd (Nat.blt x29.2.1.toNat e24.2.2.length) (
 ogrd ((ile 0 x29.2.2.1)) (
 ogrd ((ilt x29.2.2.1 (((a0.map e_SBII).length : Int).toNat : Int))) (
 ogrd (Nat.blt x29.2.2.1.toNat (e24.2.2.set x29.2.1.toNat true).length) (
 some (.inl ((true, (IntKind.i64.wrap (e24.2.1 + (1 : Int))), ((e24.2.2.set x29.2.1.toNat true).set x29.2.2.1.toNat true))))))))))
 ) (
 some (.inl (e24.1, (IntKind.i64.wrap (e24.2.1 + (1 : Int))), e24.2.2))))
 ) (
 some (.inr (.inl (e24.1, e24.2.2))))
 ) (false, (0 : Int), e20.2)
 ) (
 some (.inr (e20.2)))
 ) (true, r2)
 ) fun (r16 : (List Bool)) =>
 ogrd (Nat.beq ((a0.map e_SBII).length : Int).toNat r16.length) (
 some r16))
theorem c506 [LO] {p0 : Int → Option Bool} {a0 : List (ByteArray × Bool × Int × Int)} {a1 : List (ByteArray × Int × Int × Int × Bool × Bool)} {a2 : List Int} {g0 : Value} [Cl g0] (hp0 : ∀ y0 y, p0 y0 = some y → ICallV E g0 [(.int .i64 y0)] AHeap.none fun v _ => v = (.bool y)) {x : (List Bool)} (H : f506 p0 a0 a1 a2 = some x) : ICalls E 506 [(.agg ⟨[(VS 4 (a0.map e_SBII)), (VS 6 (a1.map e_SIIIBB))]⟩), (VS 1 (a2.map eI)), g0] AHeap.none fun v _ => v = (VS 1 (x.map eB)) := by
  refine ICalls.frz ?_;refine icalls_fn (pfnw ?_); unfold f506 at H;(conv=>whnf);refine pwa ?_;(conv=>whnf);refine pwa ?_;(conv=>whnf);obtain ⟨g1, H⟩ := ogrd_some H;refine mk_o (f := eB) (x := false) rfl g1 ?_;(conv=>whnf);obtain ⟨r2, h3, H⟩ := obnd_some H;refine pw_join (ρ := (List Bool)) (fun e => ⟨[(2, g0), (3, (.pointer (some ⟨0, 0, none⟩))), (7, (.slice (some ⟨1, 0, none⟩) ((a0.map e_SBII).length : Int).toNat 1))], ⟨2, [(1, .rw (e.map eB)), (0, .rw [(VS 4 (a0.map e_SBII)), (VS 6 (a1.map e_SIIIBB))])], false⟩⟩) r2 ?_ ?_
  · refine pwa ?_;(conv=>whnf);refine pw_block ?_;refine pw_loop (τ := Int × (List Bool)) (fun e => ⟨[(2, g0), (3, (.pointer (some ⟨0, 0, none⟩))), (7, (.slice (some ⟨1, 0, none⟩) ((a0.map e_SBII).length : Int).toNat 1)), (18, (VS 1 (a2.map eI))), (19, (.int .i64 ((a2.map eI).length : Int))), (20, (.int .i64 e.1))], ⟨2, [(1, .rw (e.2.map eB)), (0, .rw [(VS 4 (a0.map e_SBII)), (VS 6 (a1.map e_SIIIBB))])], false⟩⟩) h3 ?_ (fun _ => nl rfl) ?_
    · exact .sub' (nl rfl) (.cons rfl (.cons rfl (.cons rfl (.cons rfl (.cons rfl (.cons rfl .nil))))))
    · intro e6 x7 h8;refine pwa ?_;(conv=>whnf);refine pw_seq ?_;refine pw_cond ?_;(conv=>whnf);refine pbr_oite h8 (fun g9 h8 => ?_) (fun g9 h8 => ?_)
      · (conv=>whnf);refine pw_skip ?_;(conv=>whnf);refine pw_seq ?_;refine pw_block ?_;refine pwa ?_;(conv=>whnf);refine pbr_ogrd h8 (fun g10 h8 => ?_);(conv=>whnf);refine nth_o (l := a2) h8 (fun x11 _ h8 => ?_);(conv=>whnf);refine pw_ops ?_;refine po_all ?_;(conv=>whnf);refine pbr_ogrd h8 (fun g12 h8 => ?_);(conv=>whnf);refine pbr_ogrd h8 (fun g13 h8 => ?_);(conv=>whnf);obtain ⟨g14, h8⟩ := ogrd_some h8;refine set_a (l := e6.2) (f := eB) (x := true) g14 rfl ?_;(conv=>whnf);refine pw_ops ?_;refine po_all ?_;(conv=>whnf);cases h8;refine ⟨_, rfl, ?_⟩;exact .sub' (nl rfl) (.cons rfl (.cons rfl (.cons rfl (.cons rfl (.cons rfl (.cons rfl .nil))))))
      · (conv=>whnf);refine pw_exit ?_;(conv=>whnf);cases h8;refine ⟨_, rfl, ?_⟩; rintro rfl;(conv=>whnf);exact ⟨(.cons rfl (.cons rfl (.cons rfl .nil))), rfl⟩
  · obtain ⟨r16, h17, H⟩ := obnd_some H;refine pw_join (ρ := (List Bool)) (fun e => ⟨[(7, (.slice (some ⟨1, 0, none⟩) ((a0.map e_SBII).length : Int).toNat 1))], ⟨2, [(1, .rw (e.map eB)), (0, .rw [(VS 4 (a0.map e_SBII)), (VS 6 (a1.map e_SIIIBB))])], false⟩⟩) r16 ?_ ?_
    · refine pwa ?_;(conv=>whnf);refine pw_block ?_;refine pw_loop (τ := Bool × (List Bool)) (fun e => ⟨[(2, g0), (3, (.pointer (some ⟨0, 0, none⟩))), (7, (.slice (some ⟨1, 0, none⟩) ((a0.map e_SBII).length : Int).toNat 1)), (10, (.bool e.1))], ⟨2, [(1, .rw (e.2.map eB)), (0, .rw [(VS 4 (a0.map e_SBII)), (VS 6 (a1.map e_SIIIBB))])], false⟩⟩) h17 ?_ (fun _ => nl rfl) ?_
      · exact .sub' (nl rfl) (.cons rfl (.cons rfl (.cons rfl (.cons rfl .nil))))
      · intro e20 x21 h22;refine pw_seq ?_;refine pwa ?_;(conv=>whnf);refine pw_cond ?_;(conv=>whnf);refine pbr_oite h22 (fun g23 h22 => ?_) (fun g23 h22 => ?_)
        · (conv=>whnf);refine pw_skip ?_;(conv=>whnf);refine pw_block ?_;refine pwa ?_;(conv=>whnf);refine pwa ?_;(conv=>whnf);refine pw_block ?_;refine pw_loop (τ := Bool × Int × (List Bool)) (fun e => ⟨[(2, g0), (3, (.pointer (some ⟨0, 0, none⟩))), (7, (.slice (some ⟨1, 0, none⟩) ((a0.map e_SBII).length : Int).toNat 1)), (10, (.bool e.1)), (31, (VS 6 (a1.map e_SIIIBB))), (32, (.int .i64 ((a1.map e_SIIIBB).length : Int))), (33, (.int .i64 e.2.1))], ⟨2, [(1, .rw (e.2.2.map eB)), (0, .rw [(VS 4 (a0.map e_SBII)), (VS 6 (a1.map e_SIIIBB))])], false⟩⟩) h22 ?_ (fun _ => nl rfl) ?_
          · exact .sub' (nl rfl) (.cons rfl (.cons rfl (.cons rfl (.cons rfl (.cons rfl (.cons rfl (.cons rfl .nil)))))))
          · intro e24 x25 h26;refine pwa ?_;(conv=>whnf);refine pw_seq ?_;refine pw_cond ?_;(conv=>whnf);refine pbr_oite h26 (fun g27 h26 => ?_) (fun g27 h26 => ?_)
            · (conv=>whnf);refine pw_skip ?_;(conv=>whnf);refine pw_seq ?_;refine pw_block ?_;refine pwa ?_;(conv=>whnf);refine pbr_ogrd h26 (fun g28 h26 => ?_);(conv=>whnf);refine nth_o (l := a1) h26 (fun x29 _ h26 => ?_);(conv=>whnf);obtain ⟨r30, h31, h26⟩ := obnd_some h26;refine pw_join (ρ := Bool) (fun e => ⟨[(2, g0), (3, (.pointer (some ⟨0, 0, none⟩))), (7, (.slice (some ⟨1, 0, none⟩) ((a0.map e_SBII).length : Int).toNat 1)), (10, (.bool e24.1)), (12, (.pointer (some ⟨2, 0, none⟩))), (31, (VS 6 (a1.map e_SIIIBB))), (32, (.int .i64 ((a1.map e_SIIIBB).length : Int))), (33, (.int .i64 e24.2.1)), (53, (.bool e))], ⟨3, [(2, .rw [(.string x29.1), (.int .i64 x29.2.1), (.int .i64 x29.2.2.1), (.int .i64 x29.2.2.2.1), (.bool x29.2.2.2.2.1), (.bool x29.2.2.2.2.2)]), (1, .rw (e24.2.2.map eB)), (0, .rw [(VS 4 (a0.map e_SBII)), (VS 6 (a1.map e_SIIIBB))])], false⟩⟩) r30 ?_ ?_
              · refine pw_draw ?_;(conv=>whnf);refine ⟨?_, trivial⟩;(conv=>whnf);obtain ⟨y34, h35, h31⟩ := obnd_some h31;refine ICallV.go (hp0 _ _ h35) ?_;(conv=>whnf);refine ⟨by trivial,?_⟩;(conv=>whnf);refine pbr_oite h31 (fun g36 h31 => ?_) (fun g36 h31 => ?_)
                · (conv=>whnf);(iterate 3 refine pbr_t g36 ?_;(conv=>whnf));refine pbr_ogrd h31 (fun g37 h31 => ?_);(conv=>whnf);refine pbr_ogrd h31 (fun g38 h31 => ?_);(conv=>whnf);refine pbr_t g36 ?_;(conv=>whnf);refine nth_a (l := e24.2.2) (f := eB) h31 (fun x39 h40 h31 => ?_);(conv=>whnf);(iterate 4 refine pbr_t g36 ?_;(conv=>whnf));refine pbr_ogrd h31 (fun g42 h31 => ?_);(conv=>whnf);refine pbr_ogrd h31 (fun g43 h31 => ?_);(conv=>whnf);refine pbr_t g36 ?_;(conv=>whnf)
                  refine nth_a (l := e24.2.2) (f := eB) h31 (fun x44 h45 h31 => ?_);(conv=>whnf);refine pbr_t g36 ?_;(conv=>whnf);refine pbr_t g36 ?_;(conv=>whnf);cases h31;exact ⟨by (repeat refine .cons rfl ?_);exact .nil,rfl⟩
                · (conv=>whnf);(iterate 11 refine pbr_f g36 ?_;(conv=>whnf));cases h31;exact ⟨by (repeat refine .cons rfl ?_);exact .nil,rfl⟩
              · refine pw_cond ?_;(conv=>whnf);refine pbr_oite h26 (fun g47 h26 => ?_) (fun g47 h26 => ?_)
                · (conv=>whnf);refine pw_sd ?_;(conv=>whnf);refine pbr_ogrd h26 (fun g48 h26 => ?_);(conv=>whnf);refine pbr_ogrd h26 (fun g49 h26 => ?_);(conv=>whnf);refine ⟨?_, trivial⟩;(conv=>whnf);obtain ⟨g50, h26⟩ := ogrd_some h26;refine set_a (l := e24.2.2) (f := eB) (x := true) g50 rfl ?_;(conv=>whnf);refine ⟨by trivial,?_⟩;(conv=>whnf);refine pbr_ogrd h26 (fun g51 h26 => ?_);(conv=>whnf);refine pbr_ogrd h26 (fun g52 h26 => ?_);(conv=>whnf);refine ⟨?_, trivial⟩;(conv=>whnf);obtain ⟨g53, h26⟩ := ogrd_some h26;refine set_a (l := (e24.2.2.set x29.2.1.toNat true)) (f := eB) (x := true) g53 rfl ?_
                  (conv=>whnf);refine ⟨by trivial,?_⟩;(conv=>whnf);refine pw_ops ?_;refine po_all ?_;(conv=>whnf);refine pw_ops ?_;refine po_all ?_;(conv=>whnf);cases h26;refine ⟨_, rfl, ?_⟩;exact Recast.fz (fun _ => false) (nl rfl) (.cons (.same rfl rfl (OBnd.rwc (nl rfl) (oneL_map fun _ => rfl))) (.cons (.same rfl rfl (OBnd.rwl (nl rfl) rfl (.cons .cl (.cons .cl .nil)))) .nil)) (.cons rfl (.same _ .cl) (.cons rfl (.same _ (.ptr (nl rfl))) (.cons rfl (.same _ (.slice (nl rfl))) (.cons rfl (.same _ .cl) (.cons rfl (.same _ .cl) (.cons rfl (.same _ .cl) (.cons rfl (.same _ .cl) .nil)))))))
                · (conv=>whnf);refine pw_skip ?_;(conv=>whnf);refine pw_ops ?_;refine po_all ?_;(conv=>whnf);cases h26;refine ⟨_, rfl, ?_⟩;exact Recast.fz (fun _ => false) (nl rfl) (.cons (.same rfl rfl (OBnd.rwc (nl rfl) (oneL_map fun _ => rfl))) (.cons (.same rfl rfl (OBnd.rwl (nl rfl) rfl (.cons .cl (.cons .cl .nil)))) .nil)) (.cons rfl (.same _ .cl) (.cons rfl (.same _ (.ptr (nl rfl))) (.cons rfl (.same _ (.slice (nl rfl))) (.cons rfl (.same _ .cl) (.cons rfl (.same _ .cl) (.cons rfl (.same _ .cl) (.cons rfl (.same _ .cl) .nil)))))))
            · (conv=>whnf);refine pw_exit ?_;(conv=>whnf);cases h26;refine ⟨_, rfl, ?_⟩; rintro rfl;(conv=>whnf);refine ⟨_, rfl, ?_⟩;exact .sub' (nl rfl) (.cons rfl (.cons rfl (.cons rfl (.cons rfl .nil))))
        · (conv=>whnf);refine pw_exit ?_;(conv=>whnf);cases h22;refine ⟨_, rfl, ?_⟩; rintro rfl;(conv=>whnf);exact ⟨(.cons rfl .nil), rfl⟩
    · refine pwa ?_;(conv=>whnf);refine pw_ret ?_;(conv=>whnf);obtain ⟨g56, H⟩ := ogrd_some H;cases H;exact ⟨fun b => Nat.beq b 1, .slm rfl rfl g56 (fun _ => rfl)⟩
noncomputable def f501 [LO] (p0 : Int → Option Bool) (a0 : List (ByteArray × Bool × Int × Int)) (a1 : List (ByteArray × Int × Int × Int × Bool × Bool)) (a2 : Int) (a3 : Int) : Option Bool :=
 obnd (f506 p0 a0 a1 ([a2] : List Int)) fun (y1 : (List Bool)) =>
 ogrd ((ile 0 a3)) (
 obnd (y1[a3.toNat]?) fun (x4 : Bool) =>
 some x4)
theorem c501 [LO] {p0 : Int → Option Bool} {a0 : List (ByteArray × Bool × Int × Int)} {a1 : List (ByteArray × Int × Int × Int × Bool × Bool)} {a2 : Int} {a3 : Int} {g0 : Value} [Cl g0] (hp0 : ∀ y0 y, p0 y0 = some y → ICallV E g0 [(.int .i64 y0)] AHeap.none fun v _ => v = (.bool y)) {x : Bool} (H : f501 p0 a0 a1 a2 a3 = some x) : ICalls E 501 [(.agg ⟨[(VS 4 (a0.map e_SBII)), (VS 6 (a1.map e_SIIIBB))]⟩), (.agg ⟨[(.int .i64 a2), (.int .i64 a3)]⟩), g0] AHeap.none fun v _ => v = (.bool x) := by
 refine icalls_fn (pfnw ?_); unfold f501 at H;(conv=>whnf);refine pwa ?_;(conv=>whnf);refine pw_sd ?_;(conv=>whnf);refine ⟨?_, trivial⟩;(conv=>whnf);refine ⟨by trivial,?_⟩;(conv=>whnf);refine ⟨?_, trivial⟩;(conv=>whnf);obtain ⟨y1, h2, H⟩ := obnd_some H;refine ICalls.goW (c506 hp0 h2) (.cons (.refl _) (.cons (.vt _ _ _) (.cons (.refl _) .nil))) ?_;(conv=>whnf);refine ⟨by trivial,?_⟩;(conv=>whnf);refine pbr_ogrd H (fun g3 H => ?_);(conv=>whnf);refine nth_o (l := y1) H (fun x4 _ H => ?_)
 (conv=>whnf);refine pw_ret ?_;(conv=>whnf);cases H; rfl
noncomputable def f503  (_ : List (ByteArray × Bool × Int × Int)) (a1 : List (ByteArray × Int × Int × Int × Bool × Bool)) (a2 : Int) : Option Bool :=
 ogrd ((ile 0 a2)) (
 obnd (a1[a2.toNat]?) fun (x2 : ByteArray × Int × Int × Int × Bool × Bool) =>
 some x2.2.2.2.2.2)
theorem c503  {a0 : List (ByteArray × Bool × Int × Int)} {a1 : List (ByteArray × Int × Int × Int × Bool × Bool)} {a2 : Int} {x : Bool} (H : f503 a0 a1 a2 = some x) : ICalls E 503 [(.agg ⟨[(VS 4 (a0.map e_SBII)), (VS 6 (a1.map e_SIIIBB))]⟩), (.int .i64 a2)] AHeap.none fun v _ => v = (.bool x) := by
 refine icalls_fn (pfnw ?_); unfold f503 at H;(conv=>whnf);refine pwa ?_;(conv=>whnf);refine pwa ?_;(conv=>whnf);refine pbr_ogrd H (fun g1 H => ?_);(conv=>whnf);refine nth_o (l := a1) H (fun x2 _ H => ?_);(conv=>whnf);refine pw_ret ?_;(conv=>whnf);cases H; rfl
noncomputable def f145 [LO]  (a0 : List Int) (a1 : Int) : Option Int :=
 obndS (
 oloop (τ := Int) (ρ := (Unit) ⊕ Int) (fun e5 =>
 oite ((ilt e5 ((a0.map eI).length : Int))) (
 ogrd ((ile 0 e5)) (
 obnd (a0[e5.toNat]?) fun (x10 : Int) =>
 oite ((ieq a1 x10)) (
 some (.inr (.inr (e5)))
 ) (
 some (.inl (IntKind.i64.wrap (e5 + (1 : Int))))))
 ) (
 some (.inr (.inl ())))
 ) (0 : Int)
 ) fun (_ : Unit) =>
 some (-1 : Int)
theorem c145 [LO]  {a0 : List Int} {a1 : Int} {x : Int} (H : f145 a0 a1 = some x) : ICalls E 145 [(VS 1 (a0.map eI)), (.int .i64 a1)] AHeap.none fun v _ => v = (.int .i64 x) := by
 refine icalls_fn (pfnw ?_); unfold f145 at H;(conv=>whnf);refine pwa ?_;(conv=>whnf);obtain ⟨r1, h2, h3, h4⟩ := obndS_some H;refine pw_joinS (ρ := Unit) (fun e => ⟨[], ⟨0, [], false⟩⟩) r1 ?_ ?_
 · refine pwa ?_;(conv=>whnf);refine pw_block ?_;refine pw_loop (τ := Int) (fun e => ⟨[(0, (VS 1 (a0.map eI))), (1, (.int .i64 a1)), (7, (.int .i64 ((a0.map eI).length : Int))), (8, (.int .i64 e))], ⟨0, [], false⟩⟩) h2 ?_ (fun _ => nl rfl) ?_
   · exact .sub' (nl rfl) (.cons rfl (.cons rfl (.cons rfl (.cons rfl .nil))))
   · intro e5 x6 h7;refine pwa ?_;(conv=>whnf);refine pw_seq ?_;refine pw_cond ?_;(conv=>whnf);refine pbr_oite h7 (fun g8 h7 => ?_) (fun g8 h7 => ?_)
     · (conv=>whnf);refine pw_skip ?_;(conv=>whnf);refine pw_seq ?_;refine pw_block ?_;refine pwa ?_;(conv=>whnf);refine pwa ?_;(conv=>whnf);refine pbr_ogrd h7 (fun g9 h7 => ?_);(conv=>whnf);refine nth_o (l := a0) h7 (fun x10 _ h7 => ?_);(conv=>whnf);refine pw_cond ?_;(conv=>whnf);refine pbr_oite h7 (fun g11 h7 => ?_) (fun g11 h7 => ?_)
       · (conv=>whnf);refine pwa ?_;(conv=>whnf);refine pw_ret ?_;(conv=>whnf);cases h7;refine ⟨_, rfl, ?_⟩; rintro rfl;(conv=>whnf);obtain rfl := h4 _ rfl; rfl
       · (conv=>whnf);refine pw_skip ?_;(conv=>whnf);refine pw_ops ?_;refine po_all ?_;(conv=>whnf);cases h7;refine ⟨_, rfl, ?_⟩;exact .sub' (nl rfl) (.cons rfl (.cons rfl (.cons rfl (.cons rfl .nil))))
     · (conv=>whnf);refine pw_exit ?_;(conv=>whnf);cases h7;refine ⟨_, rfl, ?_⟩; rintro rfl;(conv=>whnf);exact ⟨_, rfl, ⟨.nil, rfl⟩⟩
 · intro r14 hr; have H := h3 _ hr;refine pwa ?_;(conv=>whnf);refine pw_ret ?_;(conv=>whnf);cases H; rfl
noncomputable def f138 [LO]  (a0 : List Int) (a1 : Int) : Option Bool :=
 obnd (f145 a0 a1) fun (y1 : Int) =>
 some (ile (0 : Int) y1)
theorem c138 [LO]  {a0 : List Int} {a1 : Int} {x : Bool} (H : f138 a0 a1 = some x) : ICalls E 138 [(VS 1 (a0.map eI)), (.int .i64 a1)] AHeap.none fun v _ => v = (.bool x) := by
 refine icalls_fn (pfnw ?_); unfold f138 at H;(conv=>whnf);refine pwa ?_;(conv=>whnf);refine pwa ?_;(conv=>whnf);obtain ⟨y1, h2, H⟩ := obnd_some H;refine (c145 h2).go ?_;(conv=>whnf);refine pw_ret ?_;(conv=>whnf);cases H; rfl
noncomputable def f502 [LO]  (a0 : Int) (a1 : List (ByteArray × Bool × Int × Int)) (a2 : List (ByteArray × Int × Int × Int × Bool × Bool)) (a3 : List Int) : Option Bool :=
 obnd (f503 a1 a2 a0) fun (y1 : Bool) =>
 obnd (
 oite y1 (
 obnd (f138 a3 a0) fun (y6 : Bool) =>
 some (!y6)
 ) (
 some false)
 ) fun (r3 : Bool) =>
 some r3
theorem c502 [LO]  {a0 : Int} {a1 : List (ByteArray × Bool × Int × Int)} {a2 : List (ByteArray × Int × Int × Int × Bool × Bool)} {a3 : List Int} {x : Bool} (H : f502 a0 a1 a2 a3 = some x) : ICallV E (.func (.func (E.id 502)) ⟨[]⟩ ⟨[(VP (.agg ⟨[(VS 4 (a1.map e_SBII)), (VS 6 (a2.map e_SIIIBB))]⟩) 0), (VP (.agg ⟨[(VS 1 (a3.map eI))]⟩) 0)]⟩) [(.int .i64 a0)] AHeap.none fun v _ => v = (.bool x) := by
 refine icallv_fn (pfnw ?_); unfold f502 at H;(conv=>whnf);refine pwa ?_;(conv=>whnf);refine pw_so ?_;refine po_ops 4 ?_;(conv=>whnf);obtain ⟨y1, h2, H⟩ := obnd_some H;refine (c503 h2).go ?_;(conv=>whnf);obtain ⟨r3, h4, H⟩ := obnd_some H;refine po_seg (τ := Bool) 5 (fun e => ⟨[(13, (.bool e))], ⟨0, [], false⟩⟩) r3 ?_ ?_
 · refine po_all ?_;(conv=>whnf);refine pbr_oite h4 (fun g5 h4 => ?_) (fun g5 h4 => ?_)
   · (conv=>whnf);refine pbr_t g5 ?_;(conv=>whnf);refine pbr_t g5 ?_;(conv=>whnf);obtain ⟨y6, h7, h4⟩ := obnd_some h4;refine (c138 h7).go ?_;(conv=>whnf);refine pbr_t g5 ?_;(conv=>whnf);refine pbr_t g5 ?_;(conv=>whnf);cases h4;exact ⟨(.cons rfl .nil), rfl⟩
   · (conv=>whnf);(iterate 4 refine pbr_f g5 ?_;(conv=>whnf));cases h4;exact ⟨(.cons rfl .nil), rfl⟩
 · refine po_all ?_;(conv=>whnf);refine pw_ret ?_;(conv=>whnf);cases H; rfl
noncomputable def f500 [LO]  (a0 : List Int) (a1 : List (ByteArray × Bool × Int × Int)) (a2 : List (ByteArray × Int × Int × Int × Bool × Bool)) (a3 : Int) (a4 : Int) : Option Bool :=
 obnd (f501 (fun (z0 : Int) => f502 z0 a1 a2 a0) a1 a2 a3 a4) fun (y1 : Bool) =>
 some (!y1)
theorem c500 [LO]  {a0 : List Int} {a1 : List (ByteArray × Bool × Int × Int)} {a2 : List (ByteArray × Int × Int × Int × Bool × Bool)} {a3 : Int} {a4 : Int} {x : Bool} (H : f500 a0 a1 a2 a3 a4 = some x) : ICallV E (.func (.func (E.id 500)) ⟨[]⟩ ⟨[(VP (.agg ⟨[(VS 4 (a1.map e_SBII)), (VS 6 (a2.map e_SIIIBB))]⟩) 0), (VP (.agg ⟨[(.int .i64 a3), (.int .i64 a4)]⟩) 0)]⟩) [(VS 1 (a0.map eI))] AHeap.none fun v _ => v = (.bool x) := by
 refine icallv_fn (pfnw ?_); unfold f500 at H;(conv=>whnf);refine pwa ?_;(conv=>whnf);refine pwa ?_;(conv=>whnf);obtain ⟨y1, h2, H⟩ := obnd_some H;refine ICalls.goD (c501 (fun _ _ h => (c502 h)) h2) (.cons .cl (.cons .cl (.cons (.func .nil (.cons .cl (.cons (.ptr rfl (by intro v hv; simp only [List.mem_cons, List.not_mem_nil, or_false] at hv; rcases hv with rfl <;> rfl)) .nil))) .nil))) rfl ?_;(conv=>whnf);refine pw_ret ?_;(conv=>whnf);cases H; rfl
noncomputable def f487 [LO]  (a0 : List (ByteArray × Bool × Int × Int)) (a1 : List (ByteArray × Int × Int × Int × Bool × Bool)) (a2 : Int) (a3 : Int) : Option ((List Int) × Bool) :=
 obnd (
 oloop (τ := (List Int) × Int) (ρ := (List Int)) (fun e5 =>
 oite ((ilt e5.2 ((a1.map e_SIIIBB).length : Int))) (
 ogrd ((ile 0 e5.2)) (
 obnd (a1[e5.2.toNat]?) fun (x10 : ByteArray × Int × Int × Int × Bool × Bool) =>
 obnd (
 oite x10.2.2.2.2.1 (
 some x10.2.2.2.2.2
 ) (
 some false)
 ) fun (r11 : Bool) =>
 oite r11 (
 ogrd (fits 8 (e5.1.length + ([e5.2] : List Int).length)) (
 some (.inl (((e5.1 ++ ([e5.2] : List Int)), (IntKind.i64.wrap (e5.2 + (1 : Int)))))))
 ) (
 some (.inl (e5.1, (IntKind.i64.wrap (e5.2 + (1 : Int)))))))
 ) (
 some (.inr (e5.1)))
 ) ((([] : List Int), (0 : Int)))
 ) fun (r1 : (List Int)) =>
 obndS (
 oloop (τ := Int) (ρ := (Unit) ⊕ ((List Int) × Bool)) (fun e22 =>
 oite ((ilt e22 (IntKind.i64.wrap (((r1.map eI).length : Int) + (1 : Int))))) (
 obnd (f504 (fun (z0 : List Int) => f500 z0 a0 a1 a2 a3) ([] : List Int) r1 e22) fun (y26 : (List Int) × Bool) =>
 oite y26.2 (
 some (.inr (.inr ((y26.1, true))))
 ) (
 some (.inl (IntKind.i64.wrap (e22 + (1 : Int)))))
 ) (
 some (.inr (.inl ())))
 ) (0 : Int)
 ) fun (_ : Unit) =>
 some (([] : List Int), false)
theorem c487 [LO]  {a0 : List (ByteArray × Bool × Int × Int)} {a1 : List (ByteArray × Int × Int × Int × Bool × Bool)} {a2 : Int} {a3 : Int} {x : (List Int) × Bool} (H : f487 a0 a1 a2 a3 = some x) : ICalls E 487 [(.agg ⟨[(VS 4 (a0.map e_SBII)), (VS 6 (a1.map e_SIIIBB))]⟩), (.agg ⟨[(.int .i64 a2), (.int .i64 a3)]⟩)] AHeap.none fun v _ => v = (.tuple ⟨[(VS 1 (x.1.map eI)), (.bool x.2)]⟩) := by
 refine ICalls.frz ?_;refine icalls_fn (pfnw ?_); unfold f487 at H;(conv=>whnf);refine pw_soR ?_;refine po_all ?_;(conv=>whnf);refine ⟨⟨[(2, (VP (.agg ⟨[(VS 4 (a0.map e_SBII)), (VS 6 (a1.map e_SIIIBB))]⟩) 0)), (3, (VP (.agg ⟨[(.int .i64 a2), (.int .i64 a3)]⟩) 0))], ⟨2, [], false⟩⟩, Recast.fz (fun b => Nat.beq b 0 || Nat.beq b 1) (nl rfl) .nil (.cons rfl (.ptrc rfl rfl rfl) (.cons rfl (.ptrc rfl rfl rfl) .nil)), ?_⟩;refine pwa ?_;(conv=>whnf);obtain ⟨r1, h2, H⟩ := obnd_some H;refine pw_join (ρ := (List Int)) (fun e => ⟨[(2, (VP (.agg ⟨[(VS 4 (a0.map e_SBII)), (VS 6 (a1.map e_SIIIBB))]⟩) 0)), (3, (VP (.agg ⟨[(.int .i64 a2), (.int .i64 a3)]⟩) 0)), (6, (VT 1 (e.map eI) 2))], ⟨3, [(2, .tail (e.map eI).length 1)], false⟩⟩) r1 ?_ ?_
 · refine pwa ?_;(conv=>whnf);refine pw_block ?_;refine pw_loop (τ := (List Int) × Int) (fun e => ⟨[(2, (VP (.agg ⟨[(VS 4 (a0.map e_SBII)), (VS 6 (a1.map e_SIIIBB))]⟩) 0)), (3, (VP (.agg ⟨[(.int .i64 a2), (.int .i64 a3)]⟩) 0)), (6, (VT 1 (e.1.map eI) 2)), (15, (VS 6 (a1.map e_SIIIBB))), (16, (.int .i64 ((a1.map e_SIIIBB).length : Int))), (17, (.int .i64 e.2))], ⟨3, [(2, .tail (e.1.map eI).length 1)], false⟩⟩) h2 ?_ (fun _ => nl rfl) ?_
   · exact (Recast.nilTs 1 (nl rfl) (.same rfl (.same rfl (.turn rfl (.same rfl (.same rfl (.same rfl .nil)))))))
   · intro e5 x6 h7;refine pwa ?_;(conv=>whnf);refine pw_seq ?_;refine pw_cond ?_;(conv=>whnf);refine pbr_oite h7 (fun g8 h7 => ?_) (fun g8 h7 => ?_)
     · (conv=>whnf);refine pw_skip ?_;(conv=>whnf);refine pw_seq ?_;refine pw_block ?_;refine pwa ?_;(conv=>whnf);refine pbr_ogrd h7 (fun g9 h7 => ?_);(conv=>whnf);refine nth_o (l := a1) h7 (fun x10 _ h7 => ?_);(conv=>whnf);obtain ⟨r11, h12, h7⟩ := obnd_some h7;refine pw_join (ρ := Bool) (fun e => ⟨[(2, (VP (.agg ⟨[(VS 4 (a0.map e_SBII)), (VS 6 (a1.map e_SIIIBB))]⟩) 0)), (3, (VP (.agg ⟨[(.int .i64 a2), (.int .i64 a3)]⟩) 0)), (6, (VT 1 (e5.1.map eI) 2)), (7, (.int .i64 e5.2)), (15, (VS 6 (a1.map e_SIIIBB))), (16, (.int .i64 ((a1.map e_SIIIBB).length : Int))), (17, (.int .i64 e5.2)), (27, (.bool e))], ⟨4, [(3, .rw [(.string x10.1), (.int .i64 x10.2.1), (.int .i64 x10.2.2.1), (.int .i64 x10.2.2.2.1), (.bool x10.2.2.2.2.1), (.bool x10.2.2.2.2.2)]), (2, .tail (e5.1.map eI).length 1)], false⟩⟩) r11 ?_ ?_
       · refine pw_ops ?_;refine po_all ?_;(conv=>whnf);refine pbr_oite h12 (fun g15 h12 => ?_) (fun g15 h12 => ?_)
         · (conv=>whnf);refine pbr_t g15 ?_;(conv=>whnf);refine pbr_t g15 ?_;(conv=>whnf);cases h12;exact ⟨by (repeat refine .cons rfl ?_);exact .nil,rfl⟩
         · (conv=>whnf);refine pbr_f g15 ?_;(conv=>whnf);refine pbr_f g15 ?_;(conv=>whnf);cases h12;exact ⟨by (repeat refine .cons rfl ?_);exact .nil,rfl⟩
       · refine pw_cond ?_;(conv=>whnf);refine pbr_oite h7 (fun g16 h7 => ?_) (fun g16 h7 => ?_)
         · (conv=>whnf);refine pw_ops ?_;refine po_all ?_;(conv=>whnf);refine app_o (l := e5.1) (m := ([e5.2] : List Int)) (f := eI) h7 (by rfl) (by rfl) (by rfl) (fun h7 => ?_);(conv=>whnf);refine pw_ops ?_;refine po_all ?_;(conv=>whnf);cases h7;refine ⟨_, rfl, ?_⟩;refine Recast.trunc (nl rfl) ?_ ?_
           · repeat (first | exact .nil | refine .cons rfl (by first | exact OBnd.rwc (nl rfl) rfl | exact OBnd.tail (nl rfl) | trivial | exact OBnd.loop (nl rfl) .nil) ?_)
           · repeat (first | exact .nil | refine .cons rfl (by first | exact Bnd.ptr (nl rfl) | exact Bnd.vt (nl rfl) | exact Bnd.cl | exact Bnd.map (nl rfl)) ?_)
         · (conv=>whnf);refine pw_skip ?_;(conv=>whnf);refine pw_ops ?_;refine po_all ?_;(conv=>whnf);cases h7;refine ⟨_, rfl, ?_⟩;refine Recast.trunc (nl rfl) ?_ ?_
           · repeat (first | exact .nil | refine .cons rfl (by first | exact OBnd.rwc (nl rfl) rfl | exact OBnd.tail (nl rfl) | trivial | exact OBnd.loop (nl rfl) .nil) ?_)
           · repeat (first | exact .nil | refine .cons rfl (by first | exact Bnd.ptr (nl rfl) | exact Bnd.vt (nl rfl) | exact Bnd.cl | exact Bnd.map (nl rfl)) ?_)
     · (conv=>whnf);refine pw_exit ?_;(conv=>whnf);cases h7;refine ⟨_, rfl, ?_⟩; rintro rfl;(conv=>whnf);exact ⟨(.cons rfl (.cons rfl (.cons rfl .nil))), rfl⟩
 · refine pwa ?_;(conv=>whnf);obtain ⟨r18, h19, h20, h21⟩ := obndS_some H;refine pw_joinS (ρ := Unit) (fun e => ⟨[], ⟨3, [(2, .tail (r1.map eI).length 1)], false⟩⟩) r18 ?_ ?_
   · refine pwa ?_;(conv=>whnf);refine pw_block ?_;refine pw_loop (τ := Int) (fun e => ⟨[(6, (VT 1 (r1.map eI) 2)), (9, (.func (.func (E.id 500)) ⟨[]⟩ ⟨[(VP (.agg ⟨[(VS 4 (a0.map e_SBII)), (VS 6 (a1.map e_SIIIBB))]⟩) 0), (VP (.agg ⟨[(.int .i64 a2), (.int .i64 a3)]⟩) 0)]⟩)), (36, (.int .i64 (IntKind.i64.wrap (((r1.map eI).length : Int) + (1 : Int))))), (37, (.int .i64 e))], ⟨3, [(2, .tail (r1.map eI).length 1)], false⟩⟩) h19 ?_ (fun _ => nl rfl) ?_
     · exact .sub' (nl rfl) (.cons rfl (.cons rfl (.cons rfl (.cons rfl .nil))))
     · intro e22 x23 h24;refine pwa ?_;(conv=>whnf);refine pw_seq ?_;refine pw_cond ?_;(conv=>whnf);refine pbr_oite h24 (fun g25 h24 => ?_) (fun g25 h24 => ?_)
       · (conv=>whnf);refine pw_skip ?_;(conv=>whnf);refine pw_seq ?_;refine pw_block ?_;refine pwa ?_;(conv=>whnf);refine pwa ?_;(conv=>whnf);obtain ⟨y26, h27, h24⟩ := obnd_some h24;refine ICalls.goW (c504 (fun _ _ h => (c500 h)) h27) (.cons (.nil _) (.cons (.vt _ _ _) (.cons (.refl _) (.cons (.refl _) .nil)))) ?_;(conv=>whnf);refine pwa ?_;(conv=>whnf);refine pw_cond ?_;(conv=>whnf);refine pbr_oite h24 (fun g28 h24 => ?_) (fun g28 h24 => ?_)
         · (conv=>whnf);refine pwa ?_;(conv=>whnf);refine pw_ret ?_;(conv=>whnf);cases h24;refine ⟨_, rfl, ?_⟩; rintro rfl;(conv=>whnf);obtain rfl := h21 _ rfl; show ∃ D, Fz _ D 0 (.tuple ⟨[(VS 1 _), (.bool true)]⟩) _;exact ⟨fun _ => false, .tuplel (.cons .cl (.cons .cl (.nil)))⟩
         · (conv=>whnf);refine pw_skip ?_;(conv=>whnf);refine pw_ops ?_;refine po_all ?_;(conv=>whnf);cases h24;refine ⟨_, rfl, ?_⟩;exact .sub' (nl rfl) (.cons rfl (.cons rfl (.cons rfl (.cons rfl .nil))))
       · (conv=>whnf);refine pw_exit ?_;(conv=>whnf);cases h24;refine ⟨_, rfl, ?_⟩; rintro rfl;(conv=>whnf);exact ⟨_, rfl, ⟨.nil, rfl⟩⟩
   · intro r31 hr; have H := h20 _ hr;refine pwa ?_;(conv=>whnf);refine pw_ret ?_;(conv=>whnf);cases H; show ∃ D, Fz _ D 0 (.tuple ⟨[(.slice none 0 0), (.bool false)]⟩) _;exact ⟨fun _ => false, .tuplel (.cons (.nil _) (.cons .cl (.nil)))⟩
noncomputable def f479 [LO]  (a0 : List (ByteArray × Bool × Int × Int)) (a1 : List (ByteArray × Int × Int × Int × Bool × Bool)) (a2 : Int) (a3 : Int) : Option ((List Int) × Int) :=
 obnd (f486 a0 a1 a2 a3) fun (y1 : (List (ByteArray × Bool × Int × Int)) × (List (ByteArray × Int × Int × Int × Bool × Bool)) × Int) =>
 oite ((!(ieq y1.2.2 (0 : Int)))) (
 some (([] : List Int), y1.2.2)
 ) (
 obnd (f487 y1.1 y1.2.1 a2 a3) fun (y4 : (List Int) × Bool) =>
 oite (!y4.2) (
 some (([] : List Int), (12 : Int))
 ) (
 obnd (f73 y4.1) fun (y7 : (List Int)) =>
 some (y7, (0 : Int))))
theorem c479 [LO]  {a0 : List (ByteArray × Bool × Int × Int)} {a1 : List (ByteArray × Int × Int × Int × Bool × Bool)} {a2 : Int} {a3 : Int} {x : (List Int) × Int} (H : f479 a0 a1 a2 a3 = some x) : ICalls E 479 [(.agg ⟨[(VS 4 (a0.map e_SBII)), (VS 6 (a1.map e_SIIIBB))]⟩), (.agg ⟨[(.int .i64 a2), (.int .i64 a3)]⟩)] AHeap.none fun v _ => v = (.tuple ⟨[(VS 1 (x.1.map eI)), (.int .i64 x.2)]⟩) := by
 refine ICalls.frz ?_;refine icalls_fn (pfnw ?_); unfold f479 at H;(conv=>whnf);refine pwa ?_;(conv=>whnf);refine pwa ?_;(conv=>whnf);obtain ⟨y1, h2, H⟩ := obnd_some H;refine (c486 h2).go ?_;(conv=>whnf);refine pw_seq ?_;refine pwa ?_;(conv=>whnf);refine pw_cond ?_;(conv=>whnf);refine pbr_oite H (fun g3 H => ?_) (fun g3 H => ?_)
 · (conv=>whnf);refine pwa ?_;(conv=>whnf);refine pw_ret ?_;(conv=>whnf);cases H; show ∃ D, Fz _ D 0 (.tuple ⟨[(.slice none 0 0), (.int .i64 y1.2.2)]⟩) _;exact ⟨fun _ => false, .tuplel (.cons (.nil _) (.cons .cl (.nil)))⟩
 · (conv=>whnf);refine pw_skip ?_;(conv=>whnf);refine pwa ?_;(conv=>whnf);obtain ⟨y4, h5, H⟩ := obnd_some H;refine (c487 h5).go ?_;(conv=>whnf);refine pw_seq ?_;refine pwa ?_;(conv=>whnf);refine pw_cond ?_;(conv=>whnf);refine pbr_oite H (fun g6 H => ?_) (fun g6 H => ?_)
   · (conv=>whnf);refine pwa ?_;(conv=>whnf);refine pw_ret ?_;(conv=>whnf);cases H; show ∃ D, Fz _ D 0 (.tuple ⟨[(.slice none 0 0), (.int .i64 12)]⟩) _;exact ⟨fun _ => false, .tuplel (.cons (.nil _) (.cons .cl (.nil)))⟩
   · (conv=>whnf);refine pw_skip ?_;(conv=>whnf);refine pwa ?_;(conv=>whnf);obtain ⟨y7, h8, H⟩ := obnd_some H;refine (c73 h8).go ?_;(conv=>whnf);refine pw_ret ?_;(conv=>whnf);cases H; show ∃ D, Fz _ D 0 (.tuple ⟨[(VS 1 _), (.int .i64 0)]⟩) _;exact ⟨fun _ => false, .tuplel (.cons .cl (.cons .cl (.nil)))⟩
noncomputable def f507 [LO]  (a0 : List (ByteArray × Bool × Int × Int)) (_ : List (ByteArray × Int × Int × Int × Bool × Bool)) : Option ((List Int)) :=
 obnd (
 oloop (τ := (List Int) × Int) (ρ := (List Int)) (fun e5 =>
 oite ((ilt e5.2 ((a0.map e_SBII).length : Int))) (
 ogrd ((ile 0 e5.2)) (
 obnd (a0[e5.2.toNat]?) fun (x10 : ByteArray × Bool × Int × Int) =>
 oite x10.2.1 (
 ogrd (fits 8 (e5.1.length + ([e5.2] : List Int).length)) (
 some (.inl (((e5.1 ++ ([e5.2] : List Int)), (IntKind.i64.wrap (e5.2 + (1 : Int)))))))
 ) (
 some (.inl (e5.1, (IntKind.i64.wrap (e5.2 + (1 : Int)))))))
 ) (
 some (.inr (e5.1)))
 ) ((([] : List Int), (0 : Int)))
 ) fun (r1 : (List Int)) =>
 some r1
theorem c507 [LO]  {a0 : List (ByteArray × Bool × Int × Int)} {a1 : List (ByteArray × Int × Int × Int × Bool × Bool)} {x : (List Int)} (H : f507 a0 a1 = some x) : ICalls E 507 [(.agg ⟨[(VS 4 (a0.map e_SBII)), (VS 6 (a1.map e_SIIIBB))]⟩)] AHeap.none fun v _ => v = (VS 1 (x.map eI)) := by
 refine ICalls.frz ?_;refine icalls_fn (pfnw ?_); unfold f507 at H;(conv=>whnf);refine pwa ?_;(conv=>whnf);refine pwa ?_;(conv=>whnf);obtain ⟨r1, h2, H⟩ := obnd_some H;refine pw_join (ρ := (List Int)) (fun e => ⟨[(3, (VT 1 (e.map eI) 1))], ⟨2, [(1, .tail (e.map eI).length 1), (0, .rw [(VS 4 (a0.map e_SBII)), (VS 6 (a1.map e_SIIIBB))])], false⟩⟩) r1 ?_ ?_
 · refine pwa ?_;(conv=>whnf);refine pw_block ?_;refine pw_loop (τ := (List Int) × Int) (fun e => ⟨[(3, (VT 1 (e.1.map eI) 1)), (8, (VS 4 (a0.map e_SBII))), (9, (.int .i64 ((a0.map e_SBII).length : Int))), (10, (.int .i64 e.2))], ⟨2, [(1, .tail (e.1.map eI).length 1), (0, .rw [(VS 4 (a0.map e_SBII)), (VS 6 (a1.map e_SIIIBB))])], false⟩⟩) h2 ?_ (fun _ => nl rfl) ?_
   · exact (Recast.nilTs 1 (nl rfl) (.turn rfl (.same rfl (.same rfl (.same rfl .nil)))))
   · intro e5 x6 h7;refine pwa ?_;(conv=>whnf);refine pw_seq ?_;refine pw_cond ?_;(conv=>whnf);refine pbr_oite h7 (fun g8 h7 => ?_) (fun g8 h7 => ?_)
     · (conv=>whnf);refine pw_skip ?_;(conv=>whnf);refine pw_seq ?_;refine pw_block ?_;refine pwa ?_;(conv=>whnf);refine pbr_ogrd h7 (fun g9 h7 => ?_);(conv=>whnf);refine nth_o (l := a0) h7 (fun x10 _ h7 => ?_);(conv=>whnf);refine pwa ?_;(conv=>whnf);refine pw_cond ?_;(conv=>whnf);refine pbr_oite h7 (fun g11 h7 => ?_) (fun g11 h7 => ?_)
       · (conv=>whnf);refine pw_ops ?_;refine po_all ?_;(conv=>whnf);refine app_o (l := e5.1) (m := ([e5.2] : List Int)) (f := eI) h7 (by rfl) (by rfl) (by rfl) (fun h7 => ?_);(conv=>whnf);refine pw_ops ?_;refine po_all ?_;(conv=>whnf);cases h7;refine ⟨_, rfl, ?_⟩;refine Recast.trunc (nl rfl) ?_ ?_
         · repeat (first | exact .nil | refine .cons rfl (by first | exact OBnd.rwc (nl rfl) rfl | exact OBnd.tail (nl rfl) | trivial | exact OBnd.loop (nl rfl) .nil) ?_)
         · repeat (first | exact .nil | refine .cons rfl (by first | exact Bnd.ptr (nl rfl) | exact Bnd.vt (nl rfl) | exact Bnd.cl | exact Bnd.map (nl rfl)) ?_)
       · (conv=>whnf);refine pw_skip ?_;(conv=>whnf);refine pw_ops ?_;refine po_all ?_;(conv=>whnf);cases h7;refine ⟨_, rfl, ?_⟩;refine Recast.trunc (nl rfl) ?_ ?_
         · repeat (first | exact .nil | refine .cons rfl (by first | exact OBnd.rwc (nl rfl) rfl | exact OBnd.tail (nl rfl) | trivial | exact OBnd.loop (nl rfl) .nil) ?_)
         · repeat (first | exact .nil | refine .cons rfl (by first | exact Bnd.ptr (nl rfl) | exact Bnd.vt (nl rfl) | exact Bnd.cl | exact Bnd.map (nl rfl)) ?_)
     · (conv=>whnf);refine pw_exit ?_;(conv=>whnf);cases h7;refine ⟨_, rfl, ?_⟩; rintro rfl;(conv=>whnf);exact ⟨(.cons rfl .nil), rfl⟩
 · refine pwa ?_;(conv=>whnf);refine pw_ret ?_;(conv=>whnf);cases H; show ∃ D, Fz _ D 0 (VT 1 _ 1) _;exact ⟨fun _ => false, .vtc⟩
noncomputable def f490 [LO]  (a0 : List (ByteArray × Bool × Int × Int)) (a1 : List (ByteArray × Int × Int × Int × Bool × Bool)) : Option ((List Bool)) :=
 obnd (f507 a0 a1) fun (y1 : (List Int)) =>
 obnd (f506 (fun (z0 : Int) => f503 a0 a1 z0) a0 a1 y1) fun (y3 : (List Bool)) =>
 obnd (
 oloop (τ := (List Bool) × Int) (ρ := (List Bool)) (fun e9 =>
 oite ((ilt e9.2 ((a1.map e_SIIIBB).length : Int))) (
 ogrd ((ile 0 e9.2)) (
 obnd (a1[e9.2.toNat]?) fun (x14 : ByteArray × Int × Int × Int × Bool × Bool) =>
 ogrd ((ile 0 x14.2.2.1)) (
 obnd (y3[x14.2.2.1.toNat]?) fun (x16 : Bool) =>
 obnd (
 oite x16 (
 some true
 ) (
 oite x14.2.2.2.2.2 (
 ogrd ((ile 0 x14.2.1)) (
 obnd (y3[x14.2.1.toNat]?) fun (x22 : Bool) =>
 some x22)
 ) (
 some false))
 ) fun (r17 : Bool) =>
 ogrd (fits 1 (e9.1.length + ([r17] : List Bool).length)) (
 some (.inl (((e9.1 ++ ([r17] : List Bool)), (IntKind.i64.wrap (e9.2 + (1 : Int)))))))))
 ) (
 some (.inr (e9.1)))
 ) ((([] : List Bool), (0 : Int)))
 ) fun (r5 : (List Bool)) =>
 some r5
theorem c490 [LO]  {a0 : List (ByteArray × Bool × Int × Int)} {a1 : List (ByteArray × Int × Int × Int × Bool × Bool)} {x : (List Bool)} (H : f490 a0 a1 = some x) : ICalls E 490 [(.agg ⟨[(VS 4 (a0.map e_SBII)), (VS 6 (a1.map e_SIIIBB))]⟩)] AHeap.none fun v h' => ∃ b n, v = VT 1 (x.map eB) b ∧ n = (x.map eB).length ∧ h'.get b = some (.tail n 1) := by
 refine icalls_fn (pfnw ?_); unfold f490 at H;(conv=>whnf);refine pwa ?_;(conv=>whnf);refine pw_sd ?_;(conv=>whnf);refine ⟨?_, trivial⟩;(conv=>whnf);obtain ⟨y1, h2, H⟩ := obnd_some H;refine (c507 h2).go ?_;(conv=>whnf);refine ⟨by trivial,?_⟩;(conv=>whnf);refine ⟨?_, trivial⟩;(conv=>whnf);obtain ⟨y3, h4, H⟩ := obnd_some H;refine (c506 (fun _ _ h => ICalls.bound (xs := [(.agg ⟨[(VS 4 (a0.map e_SBII)), (VS 6 (a1.map e_SIIIBB))]⟩)]) (c503 h)) h4).go ?_;(conv=>whnf);refine ⟨by trivial,?_⟩
 (conv=>whnf);refine pwa ?_;(conv=>whnf);obtain ⟨r5, h6, H⟩ := obnd_some H;refine pw_join (ρ := (List Bool)) (fun e => ⟨[(4, (VT 1 (e.map eB) 1))], ⟨2, [(1, .tail (e.map eB).length 1), (0, .rw [(VS 4 (a0.map e_SBII)), (VS 6 (a1.map e_SIIIBB))])], false⟩⟩) r5 ?_ ?_
 · refine pwa ?_;(conv=>whnf);refine pw_block ?_;refine pw_loop (τ := (List Bool) × Int) (fun e => ⟨[(3, (VS 1 (y3.map eB))), (4, (VT 1 (e.1.map eB) 1)), (15, (VS 6 (a1.map e_SIIIBB))), (16, (.int .i64 ((a1.map e_SIIIBB).length : Int))), (17, (.int .i64 e.2))], ⟨2, [(1, .tail (e.1.map eB).length 1), (0, .rw [(VS 4 (a0.map e_SBII)), (VS 6 (a1.map e_SIIIBB))])], false⟩⟩) h6 ?_ (fun _ => nl rfl) ?_
   · exact (Recast.nilTs 1 (nl rfl) (.same rfl (.turn rfl (.same rfl (.same rfl (.same rfl .nil))))))
   · intro e9 x10 h11;refine pwa ?_;(conv=>whnf);refine pw_seq ?_;refine pw_cond ?_;(conv=>whnf);refine pbr_oite h11 (fun g12 h11 => ?_) (fun g12 h11 => ?_)
     · (conv=>whnf);refine pw_skip ?_;(conv=>whnf);refine pw_seq ?_;refine pw_block ?_;refine pwa ?_;(conv=>whnf);refine pbr_ogrd h11 (fun g13 h11 => ?_);(conv=>whnf);refine nth_o (l := a1) h11 (fun x14 _ h11 => ?_);(conv=>whnf);refine pw_ops ?_;refine po_ops 7 ?_;(conv=>whnf);refine pbr_ogrd h11 (fun g15 h11 => ?_);(conv=>whnf);refine nth_o (l := y3) h11 (fun x16 _ h11 => ?_);(conv=>whnf);obtain ⟨r17, h18, h11⟩ := obnd_some h11;refine po_seg (τ := Bool) 10 (fun e => ⟨[(3, (VS 1 (y3.map eB))), (15, (VS 6 (a1.map e_SIIIBB))), (16, (.int .i64 ((a1.map e_SIIIBB).length : Int))), (17, (.int .i64 e9.2)), (21, (VT 1 (e9.1.map eB) 1)), (37, (.bool e))], ⟨3, [(2, .rw [(.string x14.1), (.int .i64 x14.2.1), (.int .i64 x14.2.2.1), (.int .i64 x14.2.2.2.1), (.bool x14.2.2.2.2.1), (.bool x14.2.2.2.2.2)]), (1, .tail (e9.1.map eB).length 1), (0, .rw [(VS 4 (a0.map e_SBII)), (VS 6 (a1.map e_SIIIBB))])], false⟩⟩) r17 ?_ ?_
       · refine po_all ?_;(conv=>whnf);refine pbr_oite h18 (fun g19 h18 => ?_) (fun g19 h18 => ?_)
         · (conv=>whnf);(iterate 4 refine pbr_t g19 ?_;(conv=>whnf));cases h18;exact ⟨by (repeat refine .cons rfl ?_);exact .nil,rfl⟩
         · (conv=>whnf);refine pbr_f g19 ?_;(conv=>whnf);refine pbr_f g19 ?_;(conv=>whnf);refine pbr_oite h18 (fun g20 h18 => ?_) (fun g20 h18 => ?_)
           · (conv=>whnf);(iterate 3 refine pbr_t g20 ?_;(conv=>whnf));refine pbr_ogrd h18 (fun g21 h18 => ?_);(conv=>whnf);refine nth_o (l := y3) h18 (fun x22 _ h18 => ?_);(conv=>whnf);refine pbr_t g20 ?_;(conv=>whnf);refine pbr_f g19 ?_;(conv=>whnf);refine pbr_t g20 ?_;(conv=>whnf);refine pbr_f g19 ?_;(conv=>whnf);cases h18;exact ⟨by (repeat refine .cons rfl ?_);exact .nil,rfl⟩
           · (conv=>whnf);(iterate 4 refine pbr_f g20 ?_;(conv=>whnf));refine pbr_f g19 ?_;(conv=>whnf);refine pbr_f g20 ?_;(conv=>whnf);refine pbr_f g19 ?_;(conv=>whnf);cases h18;exact ⟨by (repeat refine .cons rfl ?_);exact .nil,rfl⟩
       · refine po_all ?_;(conv=>whnf);refine app_o (l := e9.1) (m := ([r17] : List Bool)) (f := eB) h11 (by rfl) (by rfl) (by rfl) (fun h11 => ?_);(conv=>whnf);refine pw_ops ?_;refine po_all ?_;(conv=>whnf);cases h11;refine ⟨_, rfl, ?_⟩;refine Recast.trunc (nl rfl) ?_ ?_
         · repeat (first | exact .nil | refine .cons rfl (by first | exact OBnd.rwc (nl rfl) rfl | exact OBnd.tail (nl rfl) | trivial | exact OBnd.loop (nl rfl) .nil) ?_)
         · repeat (first | exact .nil | refine .cons rfl (by first | exact Bnd.ptr (nl rfl) | exact Bnd.vt (nl rfl) | exact Bnd.cl | exact Bnd.map (nl rfl)) ?_)
     · (conv=>whnf);refine pw_exit ?_;(conv=>whnf);cases h11;refine ⟨_, rfl, ?_⟩; rintro rfl;(conv=>whnf);exact ⟨(.cons rfl .nil), rfl⟩
 · refine pwa ?_;(conv=>whnf);refine pw_ret ?_;(conv=>whnf);cases H;exact ⟨1, _, rfl, rfl, rfl⟩
noncomputable def f489 [LO]  (a0 : List Bool) : Option ((List Int)) :=
 obnd (
 oloop (τ := (List Int) × Int) (ρ := (List Int)) (fun e5 =>
 oite ((ilt e5.2 ((a0.map eB).length : Int))) (
 ogrd ((ile 0 e5.2)) (
 obnd (a0[e5.2.toNat]?) fun (x10 : Bool) =>
 oite x10 (
 ogrd (fits 8 (e5.1.length + ([e5.2] : List Int).length)) (
 some (.inl (((e5.1 ++ ([e5.2] : List Int)), (IntKind.i64.wrap (e5.2 + (1 : Int)))))))
 ) (
 some (.inl (e5.1, (IntKind.i64.wrap (e5.2 + (1 : Int)))))))
 ) (
 some (.inr (e5.1)))
 ) ((([] : List Int), (0 : Int)))
 ) fun (r1 : (List Int)) =>
 some r1
theorem c489 [LO]  {a0 : List Bool} {x : (List Int)} (H : f489 a0 = some x) : ICalls E 489 [(VS 1 (a0.map eB))] AHeap.none fun v _ => v = (VS 1 (x.map eI)) := by
 refine ICalls.frz ?_;refine icalls_fn (pfnw ?_); unfold f489 at H;(conv=>whnf);refine pwa ?_;(conv=>whnf);refine pwa ?_;(conv=>whnf);obtain ⟨r1, h2, H⟩ := obnd_some H;refine pw_join (ρ := (List Int)) (fun e => ⟨[(3, (VT 1 (e.map eI) 0))], ⟨1, [(0, .tail (e.map eI).length 1)], false⟩⟩) r1 ?_ ?_
 · refine pwa ?_;(conv=>whnf);refine pw_block ?_;refine pw_loop (τ := (List Int) × Int) (fun e => ⟨[(3, (VT 1 (e.1.map eI) 0)), (6, (VS 1 (a0.map eB))), (7, (.int .i64 ((a0.map eB).length : Int))), (8, (.int .i64 e.2))], ⟨1, [(0, .tail (e.1.map eI).length 1)], false⟩⟩) h2 ?_ (fun _ => nl rfl) ?_
   · exact (Recast.nilTs 1 (nl rfl) (.turn rfl (.same rfl (.same rfl (.same rfl .nil)))))
   · intro e5 x6 h7;refine pwa ?_;(conv=>whnf);refine pw_seq ?_;refine pw_cond ?_;(conv=>whnf);refine pbr_oite h7 (fun g8 h7 => ?_) (fun g8 h7 => ?_)
     · (conv=>whnf);refine pw_skip ?_;(conv=>whnf);refine pw_seq ?_;refine pw_block ?_;refine pwa ?_;(conv=>whnf);refine pbr_ogrd h7 (fun g9 h7 => ?_);(conv=>whnf);refine nth_o (l := a0) h7 (fun x10 _ h7 => ?_);(conv=>whnf);refine pwa ?_;(conv=>whnf);refine pw_cond ?_;(conv=>whnf);refine pbr_oite h7 (fun g11 h7 => ?_) (fun g11 h7 => ?_)
       · (conv=>whnf);refine pw_ops ?_;refine po_all ?_;(conv=>whnf);refine app_o (l := e5.1) (m := ([e5.2] : List Int)) (f := eI) h7 (by rfl) (by rfl) (by rfl) (fun h7 => ?_);(conv=>whnf);refine pw_ops ?_;refine po_all ?_;(conv=>whnf);cases h7;refine ⟨_, rfl, ?_⟩;refine Recast.trunc (nl rfl) ?_ ?_
         · repeat (first | exact .nil | refine .cons rfl (by first | exact OBnd.rwc (nl rfl) rfl | exact OBnd.tail (nl rfl) | trivial | exact OBnd.loop (nl rfl) .nil) ?_)
         · repeat (first | exact .nil | refine .cons rfl (by first | exact Bnd.ptr (nl rfl) | exact Bnd.vt (nl rfl) | exact Bnd.cl | exact Bnd.map (nl rfl)) ?_)
       · (conv=>whnf);refine pw_skip ?_;(conv=>whnf);refine pw_ops ?_;refine po_all ?_;(conv=>whnf);cases h7;refine ⟨_, rfl, ?_⟩;exact .sub' (nl rfl) (.cons rfl (.cons rfl (.cons rfl (.cons rfl .nil))))
     · (conv=>whnf);refine pw_exit ?_;(conv=>whnf);cases h7;refine ⟨_, rfl, ?_⟩; rintro rfl;(conv=>whnf);exact ⟨(.cons rfl .nil), rfl⟩
 · refine pwa ?_;(conv=>whnf);refine pw_ret ?_;(conv=>whnf);cases H; show ∃ D, Fz _ D 0 (VT 1 _ 0) _;exact ⟨fun _ => false, .vtc⟩
noncomputable def f480 [LO]  (a0 : List (ByteArray × Bool × Int × Int)) (a1 : List (ByteArray × Int × Int × Int × Bool × Bool)) : Option ((List Int) × Int) :=
 obnd (f488 a0 a1) fun (y1 : (List (ByteArray × Bool × Int × Int)) × (List (ByteArray × Int × Int × Int × Bool × Bool)) × Int) =>
 oite ((!(ieq y1.2.2 (0 : Int)))) (
 some (([] : List Int), y1.2.2)
 ) (
 obnd (f490 y1.1 y1.2.1) fun (y4 : (List Bool)) =>
 obnd (f489 y4) fun (y6 : (List Int)) =>
 some (y6, (0 : Int)))
theorem c480 [LO]  {a0 : List (ByteArray × Bool × Int × Int)} {a1 : List (ByteArray × Int × Int × Int × Bool × Bool)} {x : (List Int) × Int} (H : f480 a0 a1 = some x) : ICalls E 480 [(.agg ⟨[(VS 4 (a0.map e_SBII)), (VS 6 (a1.map e_SIIIBB))]⟩)] AHeap.none fun v _ => v = (.tuple ⟨[(VS 1 (x.1.map eI)), (.int .i64 x.2)]⟩) := by
 refine ICalls.frz ?_;refine icalls_fn (pfnw ?_); unfold f480 at H;(conv=>whnf);refine pwa ?_;(conv=>whnf);refine pwa ?_;(conv=>whnf);obtain ⟨y1, h2, H⟩ := obnd_some H;refine (c488 h2).go ?_;(conv=>whnf);refine pw_seq ?_;refine pwa ?_;(conv=>whnf);refine pw_cond ?_;(conv=>whnf);refine pbr_oite H (fun g3 H => ?_) (fun g3 H => ?_)
 · (conv=>whnf);refine pwa ?_;(conv=>whnf);refine pw_ret ?_;(conv=>whnf);cases H; show ∃ D, Fz _ D 0 (.tuple ⟨[(.slice none 0 0), (.int .i64 y1.2.2)]⟩) _;exact ⟨fun _ => false, .tuplel (.cons (.nil _) (.cons .cl (.nil)))⟩
 · (conv=>whnf);refine pw_skip ?_;(conv=>whnf);refine pwa ?_;(conv=>whnf);obtain ⟨y4, h5, H⟩ := obnd_some H;refine ICalls.goFW (c490 h5) (.cons (.refl _) .nil) ?_;(conv=>whnf);obtain ⟨y6, h7, H⟩ := obnd_some H;refine ICalls.goW (c489 h7) (.cons (.vt _ _ _) .nil) ?_;(conv=>whnf);refine pw_ret ?_;(conv=>whnf);cases H; show ∃ D, Fz _ D 0 (.tuple ⟨[(VS 1 _), (.int .i64 0)]⟩) _;exact ⟨fun _ => false, .tuplel (.cons .cl (.cons .cl (.nil)))⟩
noncomputable def f344 [LO]  (a0 : List Int) (a1 : Int) : Option Bool :=
 obndS (
 oloop (τ := Int) (ρ := (Unit) ⊕ Bool) (fun e5 =>
 oite ((ilt e5 ((a0.map eI).length : Int))) (
 ogrd ((ile 0 e5)) (
 obnd (a0[e5.toNat]?) fun (x10 : Int) =>
 oite ((ieq x10 a1)) (
 some (.inr (.inr (true)))
 ) (
 some (.inl (IntKind.i64.wrap (e5 + (1 : Int))))))
 ) (
 some (.inr (.inl ())))
 ) (0 : Int)
 ) fun (_ : Unit) =>
 some false
theorem c344 [LO]  {a0 : List Int} {a1 : Int} {x : Bool} (H : f344 a0 a1 = some x) : ICalls E 344 [(VS 1 (a0.map eI)), (.int .i64 a1)] AHeap.none fun v _ => v = (.bool x) := by
 refine icalls_fn (pfnw ?_); unfold f344 at H;(conv=>whnf);refine pwa ?_;(conv=>whnf);obtain ⟨r1, h2, h3, h4⟩ := obndS_some H;refine pw_joinS (ρ := Unit) (fun e => ⟨[], ⟨0, [], false⟩⟩) r1 ?_ ?_
 · refine pwa ?_;(conv=>whnf);refine pw_block ?_;refine pw_loop (τ := Int) (fun e => ⟨[(0, (VS 1 (a0.map eI))), (1, (.int .i64 a1)), (5, (.int .i64 e))], ⟨0, [], false⟩⟩) h2 ?_ (fun _ => nl rfl) ?_
   · exact .sub' (nl rfl) (.cons rfl (.cons rfl (.cons rfl .nil)))
   · intro e5 x6 h7;refine pw_seq ?_;refine pwa ?_;(conv=>whnf);refine pw_cond ?_;(conv=>whnf);refine pbr_oite h7 (fun g8 h7 => ?_) (fun g8 h7 => ?_)
     · (conv=>whnf);refine pw_skip ?_;(conv=>whnf);refine pw_seq ?_;refine pw_block ?_;refine pwa ?_;(conv=>whnf);refine pbr_ogrd h7 (fun g9 h7 => ?_);(conv=>whnf);refine nth_o (l := a0) h7 (fun x10 _ h7 => ?_);(conv=>whnf);refine pw_cond ?_;(conv=>whnf);refine pbr_oite h7 (fun g11 h7 => ?_) (fun g11 h7 => ?_)
       · (conv=>whnf);refine pwa ?_;(conv=>whnf);refine pw_ret ?_;(conv=>whnf);cases h7;refine ⟨_, rfl, ?_⟩; rintro rfl;(conv=>whnf);obtain rfl := h4 _ rfl; rfl
       · (conv=>whnf);refine pw_skip ?_;(conv=>whnf);refine pw_ops ?_;refine po_all ?_;(conv=>whnf);cases h7;refine ⟨_, rfl, ?_⟩;exact .sub' (nl rfl) (.cons rfl (.cons rfl (.cons rfl .nil)))
     · (conv=>whnf);refine pw_exit ?_;(conv=>whnf);cases h7;refine ⟨_, rfl, ?_⟩; rintro rfl;(conv=>whnf);exact ⟨_, rfl, ⟨.nil, rfl⟩⟩
 · intro r14 hr; have H := h3 _ hr;refine pwa ?_;(conv=>whnf);refine pw_ret ?_;(conv=>whnf);cases H; rfl
noncomputable def f346  (a0 : Int) (a1 : Int) : Option Int :=
 ogrd (!((ieq a1 0))) (
 oite ((ilt (a0.tmod a1) (0 : Int))) (
 some (IntKind.i64.wrap ((a0.tmod a1) + a1))
 ) (
 some (a0.tmod a1)))
theorem c346  {a0 : Int} {a1 : Int} {x : Int} (H : f346 a0 a1 = some x) : ICalls E 346 [(.int .i64 a0), (.int .i64 a1)] AHeap.none fun v _ => v = (.int .i64 x) := by
 refine icalls_fn (pfnw ?_); unfold f346 at H;(conv=>whnf);refine pwa ?_;(conv=>whnf);refine pwa ?_;(conv=>whnf);refine pbr_ogrdn H (fun g1 H => ?_);(conv=>whnf);refine pw_seq ?_;refine pwa ?_;(conv=>whnf);refine pw_cond ?_;(conv=>whnf);refine pbr_oite H (fun g2 H => ?_) (fun g2 H => ?_)
 · (conv=>whnf);refine pw_ops ?_;refine po_all ?_;(conv=>whnf);refine pwa ?_;(conv=>whnf);refine pw_ret ?_;(conv=>whnf);cases H; rfl
 · (conv=>whnf);refine pw_skip ?_;(conv=>whnf);refine pwa ?_;(conv=>whnf);refine pw_ret ?_;(conv=>whnf);cases H; rfl
noncomputable def f508  (a0 : List (ByteArray × Int × Int × Int × Bool × Bool)) : Option ((List (ByteArray × Int × Int × Int × Bool × Bool))) :=
 ogrd (!a0.isEmpty) (
 ogrd (fits 48 (([] : List (ByteArray × Int × Int × Int × Bool × Bool)).length + a0.length)) (
 some (([] : List (ByteArray × Int × Int × Int × Bool × Bool)) ++ a0)))
theorem c508  {a0 : List (ByteArray × Int × Int × Int × Bool × Bool)} {x : (List (ByteArray × Int × Int × Int × Bool × Bool))} (H : f508 a0 = some x) : ICalls E 508 [(VS 6 (a0.map e_SIIIBB))] AHeap.none fun v h' => ∃ b n, v = VT 6 (x.map e_SIIIBB) b ∧ n = (x.map e_SIIIBB).length ∧ h'.get b = some (.tail n 6) := by
 refine icalls_fn (pfnw ?_); unfold f508 at H;(conv=>whnf);refine pwa ?_;(conv=>whnf);refine pw_seq ?_;refine pwa ?_;(conv=>whnf);obtain ⟨g1, H⟩ := ogrd_some H;refine xnil_o rfl g1 ?_;(conv=>whnf);refine pw_cond ?_;(conv=>whnf);refine pw_skip ?_;(conv=>whnf);refine pwa ?_;(conv=>whnf);refine app_o (l := ([] : List (ByteArray × Int × Int × Int × Bool × Bool))) (m := a0) (f := e_SIIIBB) H (by rfl) (by rfl) (by rfl) (fun H => ?_);(conv=>whnf);refine pw_ret ?_;(conv=>whnf);cases H;exact ⟨0, _, rfl, rfl, rfl⟩
noncomputable def f494  (a0 : List (ByteArray × Bool × Int × Int)) (a1 : List (ByteArray × Int × Int × Int × Bool × Bool)) (a2 : Int) (a3 : Bool) : Option ((List (ByteArray × Bool × Int × Int)) × (List (ByteArray × Int × Int × Int × Bool × Bool))) :=
 obnd (
 obnd (f508 a1) fun (y5 : (List (ByteArray × Int × Int × Int × Bool × Bool))) =>
 ogrd (!y5.isEmpty) (
 some (y5.length, y5))
 ) fun (r1 : Nat × (List (ByteArray × Int × Int × Int × Bool × Bool))) =>
 ogrd ((ile 0 a2)) (
 ogrd ((ilt a2 (r1.1 : Int))) (
 obnd (r1.2[a2.toNat]?) fun (x10 : ByteArray × Int × Int × Int × Bool × Bool) =>
 ogrd (Nat.beq r1.1 (r1.2.set a2.toNat (x10.1, x10.2.1, x10.2.2.1, x10.2.2.2.1, x10.2.2.2.2.1, a3)).length) (
 some (a0, (r1.2.set a2.toNat (x10.1, x10.2.1, x10.2.2.1, x10.2.2.2.1, x10.2.2.2.2.1, a3))))))
theorem c494  {a0 : List (ByteArray × Bool × Int × Int)} {a1 : List (ByteArray × Int × Int × Int × Bool × Bool)} {a2 : Int} {a3 : Bool} {x : (List (ByteArray × Bool × Int × Int)) × (List (ByteArray × Int × Int × Int × Bool × Bool))} (H : f494 a0 a1 a2 a3 = some x) : ICalls E 494 [(.agg ⟨[(VS 4 (a0.map e_SBII)), (VS 6 (a1.map e_SIIIBB))]⟩), (.int .i64 a2), (.bool a3)] AHeap.none fun v _ => v = (.agg ⟨[(VS 4 (x.1.map e_SBII)), (VS 6 (x.2.map e_SIIIBB))]⟩) := by
 refine ICalls.frz ?_;refine icalls_fn (pfnw ?_); unfold f494 at H;(conv=>whnf);refine pwa ?_;(conv=>whnf);obtain ⟨r1, h2, H⟩ := obnd_some H;refine pw_joinR (ρ := Nat × (List (ByteArray × Int × Int × Int × Bool × Bool))) (fun e => ⟨[(1, (.int .i64 a2)), (2, (.bool a3)), (6, (.pointer (some ⟨1, 0, none⟩))), (7, (.pointer (some ⟨3, 0, none⟩)))], ⟨4, [(3, .rw [(VS 4 (a0.map e_SBII)), (.slice (some ⟨2, 0, none⟩) e.1 1)]), (2, .rw (flat (e.2.map e_SIIIBB))), (1, .rw [(.slice none 0 0), (.slice none 0 0)]), (0, .rw [(VS 4 (a0.map e_SBII)), (VS 6 (a1.map e_SIIIBB))])], false⟩⟩) r1 ?_ ?_
 · refine pw_draw ?_;(conv=>whnf);refine ⟨?_, ?_⟩
   · (conv=>whnf);obtain ⟨y5, h6, h2⟩ := obnd_some h2;obtain ⟨g7, h2⟩ := ogrd_some h2;refine ICalls.goS (f := e_SIIIBB) (ICalls.unS rfl v_e_SIIIBB g7 (c508 h6)) (.cons (.refl _) .nil) ?_;(conv=>whnf);refine ⟨by trivial,?_⟩;(conv=>whnf);refine ⟨?_, trivial⟩;(conv=>whnf);refine ⟨by trivial,?_⟩;(conv=>whnf);refine ⟨?_, trivial⟩;(conv=>whnf);refine ⟨by trivial,?_⟩;(conv=>whnf);cases h2;exact Recast.fz (fun _ => false) (nl rfl) (.cons (.same rfl rfl (OBnd.rwl (nl rfl) rfl (.cons .cl (.cons (.slice (nl rfl)) .nil)))) (.cons (.same rfl rfl (OBnd.rwc (nl rfl) oneL_flat)) (.cons (.same rfl rfl (OBnd.rwl (nl rfl) rfl (.cons .cl (.cons .cl .nil)))) (.cons (.same rfl rfl (OBnd.rwl (nl rfl) rfl (.cons .cl (.cons .cl .nil)))) .nil)))) (.cons rfl (.same _ .cl) (.cons rfl (.same _ .cl) (.cons rfl (.same _ (.ptr (nl rfl))) (.cons rfl (.same _ (.ptr (nl rfl))) .nil))))
   · obtain ⟨y5, h6, h2⟩ := obnd_some h2;obtain ⟨g7, h2⟩ := ogrd_some h2;(conv=>whnf);refine ⟨?_, trivial⟩;(conv=>whnf);refine ⟨by trivial,?_⟩;(conv=>whnf);refine ⟨?_, trivial⟩;(conv=>whnf);refine ICalls.goS (f := e_SIIIBB) (ICalls.unS rfl v_e_SIIIBB g7 (c508 h6)) (.cons (.refl _) .nil) ?_;(conv=>whnf);refine ⟨by trivial,?_⟩;(conv=>whnf);refine ⟨?_, trivial⟩;(conv=>whnf);refine ⟨by trivial,?_⟩;(conv=>whnf);cases h2;refine Recast.trans (s' := ⟨[(1, (.int .i64 a2)), (2, (.bool a3)), (6, (.pointer (some ⟨1, 0, none⟩))), (7, (.pointer (some ⟨4, 0, none⟩)))], ⟨5, [(3, .rw (flat (y5.map e_SIIIBB))), (4, .rw [(VS 4 (a0.map e_SBII)), (.slice (some ⟨3, 0, none⟩) y5.length 1)]), (1, .rw [(.slice none 0 0), (.slice none 0 0)]), (0, .rw [(VS 4 (a0.map e_SBII)), (VS 6 (a1.map e_SIIIBB))])], false⟩⟩) (Recast.mv 2 4 (nl rfl) (nl rfl) (.cons (.rw (nn rfl) (nn rfl) (nl rfl) rfl oneL_flat .cl) (.cons (.mv rfl (nl rfl) rfl rfl (.of (.cons .cl (.cons (.slice (nn rfl) (nl rfl)) .nil)))) (.cons (.rw (nn rfl) (nn rfl) (nl rfl) rfl rfl (.of (.cons .cl (.cons .cl .nil)))) (.cons (.rw (nn rfl) (nn rfl) (nl rfl) rfl rfl (.of (.cons .cl (.cons .cl .nil)))) .nil)))) (.cons rfl .cl (.cons rfl .cl (.cons rfl (.ptr (nn rfl) (nl rfl)) (.cons rfl (.ptrm (nl rfl)) .nil))))) ?_
     refine Recast.trans (s' := ⟨[(1, (.int .i64 a2)), (2, (.bool a3)), (6, (.pointer (some ⟨1, 0, none⟩))), (7, (.pointer (some ⟨4, 0, none⟩)))], ⟨6, [(5, .rw (flat (y5.map e_SIIIBB))), (4, .rw [(VS 4 (a0.map e_SBII)), (.slice (some ⟨5, 0, none⟩) y5.length 1)]), (1, .rw [(.slice none 0 0), (.slice none 0 0)]), (0, .rw [(VS 4 (a0.map e_SBII)), (VS 6 (a1.map e_SIIIBB))])], false⟩⟩) (Recast.mv 3 5 (nl rfl) (nl rfl) (.cons (.mv rfl (nl rfl) rfl oneL_flat .cl) (.cons (.rw (nn rfl) (nn rfl) (nl rfl) rfl rfl (.of (.cons .cl (.cons (.slicem (nl rfl)) .nil)))) (.cons (.rw (nn rfl) (nn rfl) (nl rfl) rfl rfl (.of (.cons .cl (.cons .cl .nil)))) (.cons (.rw (nn rfl) (nn rfl) (nl rfl) rfl rfl (.of (.cons .cl (.cons .cl .nil)))) .nil)))) (.cons rfl .cl (.cons rfl .cl (.cons rfl (.ptr (nn rfl) (nl rfl)) (.cons rfl (.ptr (nn rfl) (nl rfl)) .nil))))) ?_
     refine Recast.trans (s' := ⟨[(1, (.int .i64 a2)), (2, (.bool a3)), (6, (.pointer (some ⟨1, 0, none⟩))), (7, (.pointer (some ⟨3, 0, none⟩)))], ⟨6, [(5, .rw (flat (y5.map e_SIIIBB))), (3, .rw [(VS 4 (a0.map e_SBII)), (.slice (some ⟨5, 0, none⟩) y5.length 1)]), (1, .rw [(.slice none 0 0), (.slice none 0 0)]), (0, .rw [(VS 4 (a0.map e_SBII)), (VS 6 (a1.map e_SIIIBB))])], false⟩⟩) (Recast.mv 4 3 (nl rfl) (nl rfl) (.cons (.rw (nn rfl) (nn rfl) (nl rfl) rfl oneL_flat .cl) (.cons (.mv rfl (nl rfl) rfl rfl (.of (.cons .cl (.cons (.slice (nn rfl) (nl rfl)) .nil)))) (.cons (.rw (nn rfl) (nn rfl) (nl rfl) rfl rfl (.of (.cons .cl (.cons .cl .nil)))) (.cons (.rw (nn rfl) (nn rfl) (nl rfl) rfl rfl (.of (.cons .cl (.cons .cl .nil)))) .nil)))) (.cons rfl .cl (.cons rfl .cl (.cons rfl (.ptr (nn rfl) (nl rfl)) (.cons rfl (.ptrm (nl rfl)) .nil))))) ?_
     exact (Recast.mv 5 2 (nl rfl) (nl rfl) (.cons (.rw (nn rfl) (nn rfl) (nl rfl) rfl rfl (.of (.cons .cl (.cons (.slicem (nl rfl)) .nil)))) (.cons (.mv rfl (nl rfl) rfl oneL_flat .cl) (.cons (.rw (nn rfl) (nn rfl) (nl rfl) rfl rfl (.of (.cons .cl (.cons .cl .nil)))) (.cons (.rw (nn rfl) (nn rfl) (nl rfl) rfl rfl (.of (.cons .cl (.cons .cl .nil)))) .nil)))) (.cons rfl .cl (.cons rfl .cl (.cons rfl (.ptr (nn rfl) (nl rfl)) (.cons rfl (.ptr (nn rfl) (nl rfl)) .nil)))))
 · refine pwa ?_;(conv=>whnf);refine pbr_ogrd H (fun g8 H => ?_);(conv=>whnf);refine pbr_ogrd H (fun g9 H => ?_);(conv=>whnf);obtain ⟨x10, h11, H⟩ := obnd_some H;refine set_st (f := e_SIIIBB) (l := r1.2) (n := a2.toNat) (j := 5) (x := x10) (y := (x10.1, x10.2.1, x10.2.2.1, x10.2.2.2.1, x10.2.2.2.2.1, a3)) h11 rfl rfl rfl ?_;(conv=>whnf);refine pwa ?_;(conv=>whnf);refine pw_ret ?_;(conv=>whnf);obtain ⟨g12, H⟩ := ogrd_some H;cases H; show ∃ D, Fz _ D 0 (.agg ⟨[(VS 4 _), (.slice (some ⟨2, 0, none⟩) r1.1 1)]⟩) _;exact ⟨fun b => Nat.beq b 2, .aggl (.cons .cl (.cons (.sls rfl rfl rfl g12) (.nil)))⟩
noncomputable def f481 [LO]  (a0 : List (ByteArray × Bool × Int × Int)) (a1 : List (ByteArray × Int × Int × Int × Bool × Bool)) (a2 : Int) : Option ((List Int) × Int) :=
 obnd (f488 a0 a1) fun (y1 : (List (ByteArray × Bool × Int × Int)) × (List (ByteArray × Int × Int × Int × Bool × Bool)) × Int) =>
 obnd (f493 a2 (0 : Int) ((IntKind.i64.wrap (((a1.map e_SIIIBB).length : Int) - (1 : Int))))) fun (y3 : Bool) =>
 obnd (f492 y3 (6 : Int)) fun (y5 : Int) =>
 obnd (f491 ([y1.2.2, y5] : List Int)) fun (y7 : Int) =>
 oite ((!(ieq y7 (0 : Int)))) (
 some (([] : List Int), y7)
 ) (
 ogrd ((ile 0 a2)) (
 obnd (y1.2.1[a2.toNat]?) fun (x11 : ByteArray × Int × Int × Int × Bool × Bool) =>
 oite (!x11.2.2.2.2.1) (
 some (([] : List Int), (12 : Int))
 ) (
 obnd (f494 y1.1 y1.2.1 a2 false) fun (y13 : (List (ByteArray × Bool × Int × Int)) × (List (ByteArray × Int × Int × Int × Bool × Bool))) =>
 obnd (f490 y13.1 y13.2) fun (y15 : (List Bool)) =>
 obnd (f494 y1.1 y1.2.1 a2 true) fun (y17 : (List (ByteArray × Bool × Int × Int)) × (List (ByteArray × Int × Int × Int × Bool × Bool))) =>
 obnd (f490 y17.1 y17.2) fun (y19 : (List Bool)) =>
 ogrd (!y19.isEmpty) (
 obnd (
 oloop (τ := Int × (List Bool)) (ρ := (List Bool)) (fun e26 =>
 oite ((ilt e26.1 (y19.length : Int))) (
 ogrd ((ile 0 e26.1)) (
 obnd (e26.2[e26.1.toNat]?) fun (x31 : Bool) =>
 obnd (
 oite x31 (
 obnd (y15[e26.1.toNat]?) fun (x37 : Bool) =>
 some (!x37)
 ) (
 some false)
 ) fun (r34 : Bool) =>
 ogrd (Nat.blt e26.1.toNat e26.2.length) (
 some (.inl (((IntKind.i64.wrap (e26.1 + (1 : Int))), (e26.2.set e26.1.toNat r34))))))
 ) (
 oinr (
 ogrd (Nat.beq y19.length e26.2.length) (
 some e26.2)))
 ) ((0 : Int), y19)
 ) fun (r22 : (List Bool)) =>
 obnd (f489 r22) fun (y42 : (List Int)) =>
 some (y42, (0 : Int))))))
theorem c481 [LO]  {a0 : List (ByteArray × Bool × Int × Int)} {a1 : List (ByteArray × Int × Int × Int × Bool × Bool)} {a2 : Int} {x : (List Int) × Int} (H : f481 a0 a1 a2 = some x) : ICalls E 481 [(.agg ⟨[(VS 4 (a0.map e_SBII)), (VS 6 (a1.map e_SIIIBB))]⟩), (.int .i64 a2)] AHeap.none fun v _ => v = (.tuple ⟨[(VS 1 (x.1.map eI)), (.int .i64 x.2)]⟩) := by
 refine ICalls.frz ?_;refine icalls_fn (pfnw ?_); unfold f481 at H;(conv=>whnf);refine pwa ?_;(conv=>whnf);refine pwa ?_;(conv=>whnf);obtain ⟨y1, h2, H⟩ := obnd_some H;refine (c488 h2).go ?_;(conv=>whnf);refine pw_seq ?_;refine pwa ?_;(conv=>whnf);obtain ⟨y3, h4, H⟩ := obnd_some H;refine (c493 h4).go ?_;(conv=>whnf);obtain ⟨y5, h6, H⟩ := obnd_some H;refine (c492 h6).go ?_;(conv=>whnf);obtain ⟨y7, h8, H⟩ := obnd_some H;refine ICalls.goW (c491 h8) (.cons (.vt _ _ _) .nil) ?_;(conv=>whnf);refine pwa ?_;(conv=>whnf);refine pw_cond ?_;(conv=>whnf)
 refine pbr_oite H (fun g9 H => ?_) (fun g9 H => ?_)
 · (conv=>whnf);refine pwa ?_;(conv=>whnf);refine pw_ret ?_;(conv=>whnf);cases H; show ∃ D, Fz _ D 0 (.tuple ⟨[(.slice none 0 0), (.int .i64 y7)]⟩) _;exact ⟨fun _ => false, .tuplel (.cons (.nil _) (.cons .cl (.nil)))⟩
 · (conv=>whnf);refine pw_skip ?_;(conv=>whnf);refine pw_seq ?_;refine pwa ?_;(conv=>whnf);refine pbr_ogrd H (fun g10 H => ?_);(conv=>whnf);refine nth_o (l := y1.2.1) H (fun x11 _ H => ?_);(conv=>whnf);refine pw_cond ?_;(conv=>whnf);refine pbr_oite H (fun g12 H => ?_) (fun g12 H => ?_)
   · (conv=>whnf);refine pwa ?_;(conv=>whnf);refine pw_ret ?_;(conv=>whnf);cases H; show ∃ D, Fz _ D 0 (.tuple ⟨[(.slice none 0 0), (.int .i64 12)]⟩) _;exact ⟨fun _ => false, .tuplel (.cons (.nil _) (.cons .cl (.nil)))⟩
   · (conv=>whnf);refine pw_skip ?_;(conv=>whnf);refine pwa ?_;(conv=>whnf);obtain ⟨y13, h14, H⟩ := obnd_some H;refine (c494 h14).go ?_;(conv=>whnf);obtain ⟨y15, h16, H⟩ := obnd_some H;refine ICalls.goFW (c490 h16) (.cons (.refl _) .nil) ?_;(conv=>whnf);refine pwa ?_;(conv=>whnf);obtain ⟨y17, h18, H⟩ := obnd_some H;refine (c494 h18).go ?_;(conv=>whnf);obtain ⟨y19, h20, H⟩ := obnd_some H;obtain ⟨g21, H⟩ := ogrd_some H;refine ICalls.goN (f := eB) (ICalls.unN (fun _ => rfl) (fun _ => rfl) g21 (c490 h20)) (.cons (.refl _) .nil) ?_;(conv=>whnf);obtain ⟨r22, h23, H⟩ := obnd_some H
     refine pw_joinR (ρ := (List Bool)) (fun e => ⟨[(9, (VS 1 (e.map eB)))], ⟨5, [(3, .tail (y15.map eB).length 1), (2, .tail 2 1), (1, .rw [(VS 4 (y1.1.map e_SBII)), (VS 6 (y1.2.1.map e_SIIIBB))]), (0, .rw [(VS 4 (a0.map e_SBII)), (VS 6 (a1.map e_SIIIBB))])], false⟩⟩) r22 ?_ ?_
     · refine pwa ?_;(conv=>whnf);refine pw_block ?_;refine pw_loop (τ := Int × (List Bool)) (fun e => ⟨[(8, (VT 1 (y15.map eB) 3)), (9, (.slice (some ⟨4, 0, none⟩) y19.length 1)), (46, (.int .i64 (y19.length : Int))), (47, (.int .i64 e.1))], ⟨5, [(4, .rw (e.2.map eB)), (3, .tail (y15.map eB).length 1), (2, .tail 2 1), (1, .rw [(VS 4 (y1.1.map e_SBII)), (VS 6 (y1.2.1.map e_SIIIBB))]), (0, .rw [(VS 4 (a0.map e_SBII)), (VS 6 (a1.map e_SIIIBB))])], false⟩⟩) h23 ?_ (fun _ => nl rfl) ?_
       · exact .sub' (nl rfl) (.cons rfl (.cons rfl (.cons rfl (.cons rfl .nil))))
       · intro e26 x27 h28;refine pwa ?_;(conv=>whnf);refine pw_seq ?_;refine pw_cond ?_;(conv=>whnf);refine pbr_oite h28 (fun g29 h28 => ?_) (fun g29 h28 => ?_)
         · (conv=>whnf);refine pw_skip ?_;(conv=>whnf);refine pw_seq ?_;refine pw_block ?_;refine pwa ?_;(conv=>whnf);refine pw_ops ?_;refine po_ops 7 ?_;(conv=>whnf);refine pbr_ogrd h28 (fun g30 h28 => ?_);(conv=>whnf);refine pbr_t g29 ?_;(conv=>whnf);refine nth_a (l := e26.2) (f := eB) h28 (fun x31 h32 h28 => ?_);(conv=>whnf);obtain ⟨r34, h35, h28⟩ := obnd_some h28;refine po_seg (τ := Bool) 6 (fun e => ⟨[(8, (VT 1 (y15.map eB) 3)), (9, (.slice (some ⟨4, 0, none⟩) y19.length 1)), (46, (.int .i64 (y19.length : Int))), (47, (.int .i64 e26.1)), (50, (.slice (some ⟨4, 0, none⟩) y19.length 1)), (51, (.int .i64 e26.1)), (62, (.bool e))], ⟨5, [(4, .rw (e26.2.map eB)), (3, .tail (y15.map eB).length 1), (2, .tail 2 1), (1, .rw [(VS 4 (y1.1.map e_SBII)), (VS 6 (y1.2.1.map e_SIIIBB))]), (0, .rw [(VS 4 (a0.map e_SBII)), (VS 6 (a1.map e_SIIIBB))])], false⟩⟩) r34 ?_ ?_
           · refine po_all ?_;(conv=>whnf);refine pbr_oite h35 (fun g36 h35 => ?_) (fun g36 h35 => ?_)
             · (conv=>whnf);refine pbr_t g36 ?_;(conv=>whnf);refine pbr_t g36 ?_;(conv=>whnf);refine pbr_t g30 ?_;(conv=>whnf);refine nth_o (l := y15) h35 (fun x37 _ h35 => ?_);(conv=>whnf);(iterate 3 refine pbr_t g36 ?_;(conv=>whnf));cases h35;exact ⟨by (repeat refine .cons rfl ?_);exact .nil,rfl⟩
             · (conv=>whnf);(iterate 5 refine pbr_f g36 ?_;(conv=>whnf));cases h35;exact ⟨by (repeat refine .cons rfl ?_);exact .nil,rfl⟩
           · refine po_all ?_;(conv=>whnf);refine pbr_t g30 ?_;(conv=>whnf);refine pbr_t g29 ?_;(conv=>whnf);obtain ⟨g38, h28⟩ := ogrd_some h28;refine set_a (l := e26.2) (f := eB) (x := r34) g38 rfl ?_;(conv=>whnf);refine pw_ops ?_;refine po_all ?_;(conv=>whnf);cases h28;refine ⟨_, rfl, ?_⟩;exact .sub' (nl rfl) (.cons rfl (.cons rfl (.cons rfl (.cons rfl .nil))))
         · (conv=>whnf);refine pw_exit ?_;(conv=>whnf);obtain ⟨w41, rfl, h39⟩ := oinr_some h28;refine ⟨_, rfl, ?_⟩; rintro rfl;(conv=>whnf);obtain ⟨g40, h39⟩ := ogrd_some h39;cases h39;exact Recast.fz (fun b => Nat.beq b 4) (nl rfl) (.cons (.same rfl rfl (OBnd.tail (nl rfl))) (.cons (.same rfl rfl (OBnd.tail (nl rfl))) (.cons (.same rfl rfl (OBnd.rwl (nl rfl) rfl (.cons .cl (.cons .cl .nil)))) (.cons (.same rfl rfl (OBnd.rwl (nl rfl) rfl (.cons .cl (.cons .cl .nil)))) .nil)))) (.cons rfl (.slm rfl rfl g40 (fun _ => rfl)) .nil)
     · refine pwa ?_;(conv=>whnf);obtain ⟨y42, h43, H⟩ := obnd_some H;refine (c489 h43).go ?_;(conv=>whnf);refine pw_ret ?_;(conv=>whnf);cases H; show ∃ D, Fz _ D 0 (.tuple ⟨[(VS 1 _), (.int .i64 0)]⟩) _;exact ⟨fun _ => false, .tuplel (.cons .cl (.cons .cl (.nil)))⟩
end Go.Proofs.Ytjnpdnlgkepmcaa.AM
