/- Computations of functions, and that the functions do them (printed by tools/lift.py). Conditions: none. -/
import Derived.Test.YtjnpdnlgkepmcaaAmLift6
import Derived.Test.YtjnpdnlgkepmcaaAmVni
import Derived.Test.YtjnpdnlgkepmcaaAmLift4
import Derived.Test.YtjnpdnlgkepmcaaAmDat2
import Derived.Test.YtjnpdnlgkepmcaaAmHas
namespace Go.Proofs.Ytjnpdnlgkepmcaa.AM
set_option linter.unusedSimpArgs false
set_option linter.unusedVariables false
set_option maxHeartbeats 1000000
open Go Go.RowKit
namespace Wk
attribute [local irreducible] ICallV ICalls Recast rng
abbrev e_SBII (x : ByteArray × Bool × Int × Int) : Value := .agg ⟨[(.string x.1), (.bool x.2.1), (.int .i64 x.2.2.1), (.int .i64 x.2.2.2)]⟩
instance {x : ByteArray × Bool × Int × Int} : Cl (e_SBII x) := inferInstanceAs (Cl (.agg ⟨[(.string x.1), (.bool x.2.1), (.int .i64 x.2.2.1), (.int .i64 x.2.2.2)]⟩))
abbrev e_SIIIBB (x : ByteArray × Int × Int × Int × Bool × Bool) : Value := .agg ⟨[(.string x.1), (.int .i64 x.2.1), (.int .i64 x.2.2.1), (.int .i64 x.2.2.2.1), (.bool x.2.2.2.2.1), (.bool x.2.2.2.2.2)]⟩
instance {x : ByteArray × Int × Int × Int × Bool × Bool} : Cl (e_SIIIBB x) := inferInstanceAs (Cl (.agg ⟨[(.string x.1), (.int .i64 x.2.1), (.int .i64 x.2.2.1), (.int .i64 x.2.2.2.1), (.bool x.2.2.2.2.1), (.bool x.2.2.2.2.2)]⟩))
abbrev e_II (x : Int × Int) : Value := .agg ⟨[(.int .i64 x.1), (.int .i64 x.2)]⟩
instance {x : Int × Int} : Cl (e_II x) := inferInstanceAs (Cl (.agg ⟨[(.int .i64 x.1), (.int .i64 x.2)]⟩))
instance : Sz e_SIIIBB 6 where
 sz _ := rfl
 one x u hu := by replace hu : u ∈ ([(.string x.1), (.int .i64 x.2.1), (.int .i64 x.2.2.1), (.int .i64 x.2.2.2.1), (.bool x.2.2.2.2.1), (.bool x.2.2.2.2.2)] : List Value) := hu; simp only [List.mem_cons, List.not_mem_nil, or_false] at hu; rcases hu with rfl | rfl | rfl | rfl | rfl | rfl <;> rfl
 agg _ := rfl
 cl x u hu := by replace hu : u ∈ ([(.string x.1), (.int .i64 x.2.1), (.int .i64 x.2.2.1), (.int .i64 x.2.2.2.1), (.bool x.2.2.2.2.1), (.bool x.2.2.2.2.2)] : List Value) := hu; exact ClL.out (l := ([(.string x.1), (.int .i64 x.2.1), (.int .i64 x.2.2.1), (.int .i64 x.2.2.2.1), (.bool x.2.2.2.2.1), (.bool x.2.2.2.2.2)] : List Value)) u hu
theorem v_e_SIIIBB (x) (u) (hu : u ∈ (e_SIIIBB x).cells.toList) : vrc1 u = true := by replace hu : u ∈ ([(.string x.1), (.int .i64 x.2.1), (.int .i64 x.2.2.1), (.int .i64 x.2.2.2.1), (.bool x.2.2.2.2.1), (.bool x.2.2.2.2.2)] : List Value) := hu; simp only [List.mem_cons, List.not_mem_nil, or_false] at hu; rcases hu with rfl | rfl | rfl | rfl | rfl | rfl <;> rfl
noncomputable def f483   : Option ((List (ByteArray × Bool × Int × Int)) × (List (ByteArray × Int × Int × Int × Bool × Bool))) :=
 some (([((⟨#[117, 112]⟩ : ByteArray), true, (100 : Int), (0 : Int)), ((⟨#[106]⟩ : ByteArray), false, (0 : Int), (3 : Int)), ((⟨#[100, 111, 119, 110]⟩ : ByteArray), true, (0 : Int), (0 : Int))] : List (ByteArray × Bool × Int × Int)), ([((⟨#[97]⟩ : ByteArray), (0 : Int), (1 : Int), (100 : Int), false, true), ((⟨#[98]⟩ : ByteArray), (1 : Int), (2 : Int), (200 : Int), true, true)] : List (ByteArray × Int × Int × Int × Bool × Bool)))
theorem c483   {x : (List (ByteArray × Bool × Int × Int)) × (List (ByteArray × Int × Int × Int × Bool × Bool))} (H : f483 = some x) : ICalls E 483 [] AHeap.none fun v _ => v = (.agg ⟨[(VS 4 (x.1.map e_SBII)), (VS 6 (x.2.map e_SIIIBB))]⟩) := by
 refine ICalls.frz ?_;refine icalls_fn (pfnw ?_); unfold f483 at H;(conv=>whnf);refine pwa ?_;(conv=>whnf);refine pwa ?_;(conv=>whnf);refine pw_ret ?_;(conv=>whnf);cases H; show ∃ D, Fz _ D 0 (.agg ⟨[(VT 4 (([((⟨#[117, 112]⟩ : ByteArray), true, (100 : Int), (0 : Int)), ((⟨#[106]⟩ : ByteArray), false, (0 : Int), (3 : Int)), ((⟨#[100, 111, 119, 110]⟩ : ByteArray), true, (0 : Int), (0 : Int))] : List (ByteArray × Bool × Int × Int)).map e_SBII) 1), (VT 6 (([((⟨#[97]⟩ : ByteArray), (0 : Int), (1 : Int), (100 : Int), false, true), ((⟨#[98]⟩ : ByteArray), (1 : Int), (2 : Int), (200 : Int), true, true)] : List (ByteArray × Int × Int × Int × Bool × Bool)).map e_SIIIBB) 2)]⟩) _
 exact ⟨fun _ => false, .aggl (.cons .vtc (.cons .vtc (.nil)))⟩
noncomputable def f492  (a0 : Bool) (a1 : Int) : Option Int :=
 oite a0 (
 some (0 : Int)
 ) (
 some a1)
theorem c492  {a0 : Bool} {a1 : Int} {x : Int} (H : f492 a0 a1 = some x) : ICalls E 492 [(.bool a0), (.int .i64 a1)] AHeap.none fun v _ => v = (.int .i64 x) := by
 refine icalls_fn (pfnw ?_); unfold f492 at H;(conv=>whnf);refine pwa ?_;(conv=>whnf);refine pw_seq ?_;refine pwa ?_;(conv=>whnf);refine pw_cond ?_;(conv=>whnf);refine pbr_oite H (fun g1 H => ?_) (fun g1 H => ?_)
 · (conv=>whnf);refine pwa ?_;(conv=>whnf);refine pw_ret ?_;(conv=>whnf);cases H; rfl
 · (conv=>whnf);refine pw_skip ?_;(conv=>whnf);refine pwa ?_;(conv=>whnf);refine pw_ret ?_;(conv=>whnf);cases H; rfl
noncomputable def f491 [LO]  (a0 : List Int) : Option Int :=
 obndS (
 oloop (τ := Int) (ρ := (Unit) ⊕ Int) (fun e5 =>
 oite ((ilt e5 ((a0.map eI).length : Int))) (
 ogrd ((ile 0 e5)) (
 obnd (a0[e5.toNat]?) fun (x10 : Int) =>
 oite ((!(ieq x10 (0 : Int)))) (
 some (.inr (.inr (x10)))
 ) (
 some (.inl (IntKind.i64.wrap (e5 + (1 : Int))))))
 ) (
 some (.inr (.inl ())))
 ) (0 : Int)
 ) fun (_ : Unit) =>
 some (0 : Int)
theorem c491 [LO]  {a0 : List Int} {x : Int} (H : f491 a0 = some x) : ICalls E 491 [(VS 1 (a0.map eI))] AHeap.none fun v _ => v = (.int .i64 x) := by
 refine icalls_fn (pfnw ?_); unfold f491 at H;(conv=>whnf);refine pwa ?_;(conv=>whnf);obtain ⟨r1, h2, h3, h4⟩ := obndS_some H;refine pw_joinS (ρ := Unit) (fun e => ⟨[], ⟨0, [], false⟩⟩) r1 ?_ ?_
 · refine pwa ?_;(conv=>whnf);refine pw_block ?_;refine pw_loop (τ := Int) (fun e => ⟨[(5, (VS 1 (a0.map eI))), (6, (.int .i64 ((a0.map eI).length : Int))), (7, (.int .i64 e))], ⟨0, [], false⟩⟩) h2 ?_ (fun _ => nl rfl) ?_
   · exact .sub' (nl rfl) (.cons rfl (.cons rfl (.cons rfl .nil)))
   · intro e5 x6 h7;refine pwa ?_;(conv=>whnf);refine pw_seq ?_;refine pw_cond ?_;(conv=>whnf);refine pbr_oite h7 (fun g8 h7 => ?_) (fun g8 h7 => ?_)
     · (conv=>whnf);refine pw_skip ?_;(conv=>whnf);refine pw_seq ?_;refine pw_block ?_;refine pwa ?_;(conv=>whnf);refine pbr_ogrd h7 (fun g9 h7 => ?_);(conv=>whnf);refine nth_o (l := a0) h7 (fun x10 _ h7 => ?_);(conv=>whnf);refine pwa ?_;(conv=>whnf);refine pw_cond ?_;(conv=>whnf);refine pbr_oite h7 (fun g11 h7 => ?_) (fun g11 h7 => ?_)
       · (conv=>whnf);refine pwa ?_;(conv=>whnf);refine pw_ret ?_;(conv=>whnf);cases h7;refine ⟨_, rfl, ?_⟩; rintro rfl;(conv=>whnf);obtain rfl := h4 _ rfl; rfl
       · (conv=>whnf);refine pw_skip ?_;(conv=>whnf);refine pw_ops ?_;refine po_all ?_;(conv=>whnf);cases h7;refine ⟨_, rfl, ?_⟩;exact .sub' (nl rfl) (.cons rfl (.cons rfl (.cons rfl .nil)))
     · (conv=>whnf);refine pw_exit ?_;(conv=>whnf);cases h7;refine ⟨_, rfl, ?_⟩; rintro rfl;(conv=>whnf);exact ⟨_, rfl, ⟨.nil, rfl⟩⟩
 · intro r14 hr; have H := h3 _ hr;refine pwa ?_;(conv=>whnf);refine pw_ret ?_;(conv=>whnf);cases H; rfl
noncomputable def f493  (a0 : Int) (a1 : Int) (a2 : Int) : Option Bool :=
 obnd (
 oite ((ile a1 a0)) (
 some (ile a0 a2)
 ) (
 some false)
 ) fun (r1 : Bool) =>
 some r1
theorem c493  {a0 : Int} {a1 : Int} {a2 : Int} {x : Bool} (H : f493 a0 a1 a2 = some x) : ICalls E 493 [(.int .i64 a0), (.int .i64 a1), (.int .i64 a2)] AHeap.none fun v _ => v = (.bool x) := by
 refine icalls_fn (pfnw ?_); unfold f493 at H;(conv=>whnf);refine pwa ?_;(conv=>whnf);refine pw_so ?_;refine po_ops 4 ?_;(conv=>whnf);obtain ⟨r1, h2, H⟩ := obnd_some H;refine po_seg (τ := Bool) 4 (fun e => ⟨[(14, (.bool e))], ⟨0, [], false⟩⟩) r1 ?_ ?_
 · refine po_all ?_;(conv=>whnf);refine pbr_oite h2 (fun g3 h2 => ?_) (fun g3 h2 => ?_)
   · (conv=>whnf);(iterate 3 refine pbr_t g3 ?_;(conv=>whnf));cases h2;exact ⟨(.cons rfl .nil), rfl⟩
   · (conv=>whnf);(iterate 3 refine pbr_f g3 ?_;(conv=>whnf));cases h2;exact ⟨(.cons rfl .nil), rfl⟩
 · refine po_all ?_;(conv=>whnf);refine pw_ret ?_;(conv=>whnf);cases H; rfl
noncomputable def f515  (a0 : Int) (a1 : Int) : Option Bool :=
 obnd (f493 a0 (IntKind.i64.wrap (0 - a1)) a1) fun (y1 : Bool) =>
 some y1
theorem c515  {a0 : Int} {a1 : Int} {x : Bool} (H : f515 a0 a1 = some x) : ICalls E 515 [(.int .i64 a0), (.int .i64 a1)] AHeap.none fun v _ => v = (.bool x) := by
 refine icalls_fn (pfnw ?_); unfold f515 at H;(conv=>whnf);refine pwa ?_;(conv=>whnf);refine pwa ?_;(conv=>whnf);obtain ⟨y1, h2, H⟩ := obnd_some H;refine (c493 h2).go ?_;(conv=>whnf);refine pw_ret ?_;(conv=>whnf);cases H; rfl
noncomputable def f516 [LO]  (a0 : ByteArray) : Option Bool :=
 obndS (
 oloop (τ := Int) (ρ := (Unit) ⊕ Bool) (fun e5 =>
 oite ((ilt e5 ((a0.data.toList.map eY).length : Int))) (
 ogrd ((ile 0 e5)) (
 obnd (a0.data.toList[e5.toNat]?) fun (x10 : UInt8) =>
 obnd (f493 (IntKind.i64.wrap (x10.toNat : Int)) (97 : Int) (122 : Int)) fun (y11 : Bool) =>
 obnd (
 oite y11 (
 some true
 ) (
 obnd (f493 (IntKind.i64.wrap (x10.toNat : Int)) (65 : Int) (90 : Int)) fun (y16 : Bool) =>
 some y16)
 ) fun (r13 : Bool) =>
 obnd (
 oite (!r13) (
 obnd (
 oite ((ieq e5 (0 : Int))) (
 some true
 ) (
 oite ((!(ieq (x10.toNat : Int) (45 : Int)))) (
 obnd (f493 (IntKind.i64.wrap (x10.toNat : Int)) (48 : Int) (57 : Int)) fun (y27 : Bool) =>
 some (!y27)
 ) (
 some false))
 ) fun (r23 : Bool) =>
 some r23
 ) (
 some false)
 ) fun (r18 : Bool) =>
 oite r18 (
 some (.inr (.inr (false)))
 ) (
 some (.inl (IntKind.i64.wrap (e5 + (1 : Int))))))
 ) (
 some (.inr (.inl ())))
 ) (0 : Int)
 ) fun (_ : Unit) =>
 obnd (f493 (a0.size : Int) (1 : Int) (12 : Int)) fun (y33 : Bool) =>
 some y33
theorem c516 [LO]  {a0 : ByteArray} {x : Bool} (H : f516 a0 = some x) : ICalls E 516 [(.string a0)] AHeap.none fun v _ => v = (.bool x) := by
 refine icalls_fn (pfnw ?_); unfold f516 at H;(conv=>whnf);refine pwa ?_;(conv=>whnf);obtain ⟨r1, h2, h3, h4⟩ := obndS_some H;refine pw_joinS (ρ := Unit) (fun e => ⟨[(0, (.string a0))], ⟨0, [], false⟩⟩) r1 ?_ ?_
 · refine pwa ?_;(conv=>whnf);refine pw_block ?_;refine pw_loop (τ := Int) (fun e => ⟨[(0, (.string a0)), (7, (VS 1 (a0.data.toList.map eY))), (8, (.int .i64 ((a0.data.toList.map eY).length : Int))), (9, (.int .i64 e))], ⟨0, [], false⟩⟩) h2 ?_ (fun _ => nl rfl) ?_
   · exact .sub' (nl rfl) (.cons rfl (.cons rfl (.cons rfl (.cons rfl .nil))))
   · intro e5 x6 h7;refine pwa ?_;(conv=>whnf);refine pw_seq ?_;refine pw_cond ?_;(conv=>whnf);refine pbr_oite h7 (fun g8 h7 => ?_) (fun g8 h7 => ?_)
     · (conv=>whnf);refine pw_skip ?_;(conv=>whnf);refine pw_seq ?_;refine pw_block ?_;refine pwa ?_;(conv=>whnf);refine pbr_ogrd h7 (fun g9 h7 => ?_);(conv=>whnf);refine nth_o (l := a0.data.toList) h7 (fun x10 _ h7 => ?_);(conv=>whnf);refine pw_so ?_;refine po_ops 4 ?_;(conv=>whnf);obtain ⟨y11, h12, h7⟩ := obnd_some h7;refine (c493 h12).go ?_;(conv=>whnf);obtain ⟨r13, h14, h7⟩ := obnd_some h7;refine po_seg (τ := Bool) 4 (fun e => ⟨[(0, (.string a0)), (3, (.int .i64 e5)), (4, (.int .u8 (x10.toNat : Int))), (7, (VS 1 (a0.data.toList.map eY))), (8, (.int .i64 ((a0.data.toList.map eY).length : Int))), (9, (.int .i64 e5)), (21, (.bool e))], ⟨0, [], false⟩⟩) r13 ?_ ?_
       · refine po_all ?_;(conv=>whnf);refine pbr_oite h14 (fun g15 h14 => ?_) (fun g15 h14 => ?_)
         · (conv=>whnf);(iterate 3 refine pbr_t g15 ?_;(conv=>whnf));cases h14;exact ⟨by (repeat refine .cons rfl ?_);exact .nil,rfl⟩
         · (conv=>whnf);refine pbr_f g15 ?_;(conv=>whnf);refine pbr_f g15 ?_;(conv=>whnf);obtain ⟨y16, h17, h14⟩ := obnd_some h14;refine (c493 h17).go ?_;(conv=>whnf);refine pbr_f g15 ?_;(conv=>whnf);cases h14;exact ⟨by (repeat refine .cons rfl ?_);exact .nil,rfl⟩
       · refine po_all ?_;(conv=>whnf);obtain ⟨r18, h19, h7⟩ := obnd_some h7;refine pw_join (ρ := Bool) (fun e => ⟨[(0, (.string a0)), (7, (VS 1 (a0.data.toList.map eY))), (8, (.int .i64 ((a0.data.toList.map eY).length : Int))), (9, (.int .i64 e5)), (37, (.bool e))], ⟨0, [], false⟩⟩) r18 ?_ ?_
         · refine pw_ops ?_;refine po_ops 6 ?_;(conv=>whnf);refine pbr_oite h19 (fun g22 h19 => ?_) (fun g22 h19 => ?_)
           · (conv=>whnf);refine pbr_t g22 ?_;(conv=>whnf);refine pbr_t g22 ?_;(conv=>whnf);obtain ⟨r23, h24, h19⟩ := obnd_some h19;refine po_seg (τ := Bool) 9 (fun e => ⟨[(0, (.string a0)), (7, (VS 1 (a0.data.toList.map eY))), (8, (.int .i64 ((a0.data.toList.map eY).length : Int))), (9, (.int .i64 e5)), (24, (.bool (!r13))), (25, (.int .i64 e5)), (26, (.bool (ieq e5 (0 : Int)))), (27, (.bool (ieq e5 (0 : Int)))), (36, (.bool e))], ⟨0, [], false⟩⟩) r23 ?_ ?_
             · refine po_all ?_;(conv=>whnf);refine pbr_oite h24 (fun g25 h24 => ?_) (fun g25 h24 => ?_)
               · (conv=>whnf);(iterate 3 refine pbr_t g25 ?_;(conv=>whnf));refine pbr_t g22 ?_;(conv=>whnf);refine pbr_t g25 ?_;(conv=>whnf);cases h24;exact ⟨by (repeat refine .cons rfl ?_);exact .nil,rfl⟩
               · (conv=>whnf);refine pbr_f g25 ?_;(conv=>whnf);refine pbr_f g25 ?_;(conv=>whnf);refine pbr_oite h24 (fun g26 h24 => ?_) (fun g26 h24 => ?_)
                 · (conv=>whnf);refine pbr_t g26 ?_;(conv=>whnf);refine pbr_t g26 ?_;(conv=>whnf);obtain ⟨y27, h28, h24⟩ := obnd_some h24;refine (c493 h28).go ?_;(conv=>whnf);refine pbr_t g26 ?_;(conv=>whnf);refine pbr_f g25 ?_;(conv=>whnf);refine pbr_t g26 ?_;(conv=>whnf);refine pbr_t g22 ?_;(conv=>whnf);refine pbr_f g25 ?_;(conv=>whnf);cases h24;exact ⟨by (repeat refine .cons rfl ?_);exact .nil,rfl⟩
                 · (conv=>whnf);(iterate 3 refine pbr_f g26 ?_;(conv=>whnf));refine pbr_f g25 ?_;(conv=>whnf);refine pbr_f g26 ?_;(conv=>whnf);refine pbr_t g22 ?_;(conv=>whnf);refine pbr_f g25 ?_;(conv=>whnf);cases h24;exact ⟨by (repeat refine .cons rfl ?_);exact .nil,rfl⟩
             · refine po_all ?_;(conv=>whnf);refine pbr_t g22 ?_;(conv=>whnf);cases h19;exact ⟨by (repeat refine .cons rfl ?_);exact .nil,rfl⟩
           · (conv=>whnf);refine pbr_f g22 ?_;(conv=>whnf);refine pbr_f g22 ?_;(conv=>whnf);refine po_ops 9 ?_;(conv=>whnf);refine pbr_f g22 ?_;(conv=>whnf);refine po_all ?_;(conv=>whnf);refine pbr_f g22 ?_;(conv=>whnf);cases h19;exact ⟨by (repeat refine .cons rfl ?_);exact .nil,rfl⟩
         · refine pw_cond ?_;(conv=>whnf);refine pbr_oite h7 (fun g29 h7 => ?_) (fun g29 h7 => ?_)
           · (conv=>whnf);refine pwa ?_;(conv=>whnf);refine pw_ret ?_;(conv=>whnf);cases h7;refine ⟨_, rfl, ?_⟩; rintro rfl;(conv=>whnf);obtain rfl := h4 _ rfl; rfl
           · (conv=>whnf);refine pw_skip ?_;(conv=>whnf);refine pw_ops ?_;refine po_all ?_;(conv=>whnf);cases h7;refine ⟨_, rfl, ?_⟩;exact .sub' (nl rfl) (.cons rfl (.cons rfl (.cons rfl (.cons rfl .nil))))
     · (conv=>whnf);refine pw_exit ?_;(conv=>whnf);cases h7;refine ⟨_, rfl, ?_⟩; rintro rfl;(conv=>whnf);exact ⟨_, rfl, ⟨(.cons rfl .nil), rfl⟩⟩
 · intro r32 hr; have H := h3 _ hr;refine pwa ?_;(conv=>whnf);obtain ⟨y33, h34, H⟩ := obnd_some H;refine (c493 h34).go ?_;(conv=>whnf);refine pw_ret ?_;(conv=>whnf);cases H; rfl
noncomputable def f517  (a0 : Int) (a1 : List (ByteArray × Bool × Int × Int)) (_ : List (ByteArray × Int × Int × Int × Bool × Bool)) : Option Bool :=
 obnd (f493 a0 (0 : Int) ((IntKind.i64.wrap (((a1.map e_SBII).length : Int) - (1 : Int))))) fun (y1 : Bool) =>
 some y1
theorem c517  {a0 : Int} {a1 : List (ByteArray × Bool × Int × Int)} {a2 : List (ByteArray × Int × Int × Int × Bool × Bool)} {x : Bool} (H : f517 a0 a1 a2 = some x) : ICallV E (.func (.func (E.id 517)) ⟨[]⟩ ⟨[(VP (.agg ⟨[(VS 4 (a1.map e_SBII)), (VS 6 (a2.map e_SIIIBB))]⟩) 0)]⟩) [(.int .i64 a0)] AHeap.none fun v _ => v = (.bool x) := by
 refine icallv_fn (pfnw ?_); unfold f517 at H;(conv=>whnf);refine pwa ?_;(conv=>whnf);refine pwa ?_;(conv=>whnf);obtain ⟨y1, h2, H⟩ := obnd_some H;refine (c493 h2).go ?_;(conv=>whnf);refine pw_ret ?_;(conv=>whnf);cases H; rfl
noncomputable def f505 [LO]  (a0 : List (ByteArray × Bool × Int × Int)) (a1 : List (ByteArray × Int × Int × Int × Bool × Bool)) : Option (Int × Int) :=
 obnd (
 oite ((ilt (0 : Int) ((a0.map e_SBII).length : Int))) (
 some (ilt (0 : Int) ((a1.map e_SIIIBB).length : Int))
 ) (
 some false)
 ) fun (r1 : Bool) =>
 obnd (
 oite ((ile ((a0.map e_SBII).length : Int) (10 : Int))) (
 some (ile ((a1.map e_SIIIBB).length : Int) (14 : Int))
 ) (
 some false)
 ) fun (r4 : Bool) =>
 obnd (f492 r1 (10 : Int)) fun (y7 : Int) =>
 obnd (f492 r4 (8 : Int)) fun (y9 : Int) =>
 obnd (f491 ([y7, y9] : List Int)) fun (y11 : Int) =>
 oite ((!(ieq y11 (0 : Int)))) (
 some ((0 : Int), y11)
 ) (
 obndS (
 oloop (τ := Int × (List ByteArray)) (ρ := ((List ByteArray)) ⊕ (Int × Int)) (fun e18 =>
 oite ((ilt e18.1 ((a0.map e_SBII).length : Int))) (
 ogrd ((ile 0 e18.1)) (
 obnd (a0[e18.1.toNat]?) fun (x23 : ByteArray × Bool × Int × Int) =>
 obnd (f515 x23.2.2.2 (10000 : Int)) fun (y24 : Bool) =>
 obnd (
 oite x23.2.1 (
 obnd (f493 x23.2.2.1 (0 : Int) (1000000 : Int)) fun (y31 : Bool) =>
 some (x23.2.2.2, y31)
 ) (
 some (x23.2.2.1, y24))
 ) fun (r26 : Int × Bool) =>
 obnd (f516 x23.1) fun (y33 : Bool) =>
 obnd (f492 y33 (4 : Int)) fun (y35 : Int) =>
 obnd (f492 (!(hasK (kd (kc e18.2)) x23.1)) (5 : Int)) fun (y37 : Int) =>
 obnd (f492 r26.2 (2 : Int)) fun (y39 : Int) =>
 obnd (f492 (ieq r26.1 (0 : Int)) (3 : Int)) fun (y41 : Int) =>
 obnd (f491 ([y35, y37, y39, y41] : List Int)) fun (y43 : Int) =>
 oite ((!(ieq y43 (0 : Int)))) (
 some (.inr (.inr ((e18.1, y43))))
 ) (
 some (.inl (((IntKind.i64.wrap (e18.1 + (1 : Int))), (mset (kd (kc e18.2)) x23.1))))))
 ) (
 some (.inr (.inl e18.2)))
 ) (((0 : Int), ([] : List ByteArray)))
 ) fun (_ : (List ByteArray)) =>
 obndS (
 oloop (τ := Int × (List ByteArray)) (ρ := ((List ByteArray)) ⊕ (Int × Int)) (fun e53 =>
 oite ((ilt e53.1 ((a1.map e_SIIIBB).length : Int))) (
 ogrd ((ile 0 e53.1)) (
 obnd (a1[e53.1.toNat]?) fun (x58 : ByteArray × Int × Int × Int × Bool × Bool) =>
 obnd (
 obnd (f516 x58.1) fun (y63 : Bool) =>
 obnd (f492 y63 (4 : Int)) fun (y65 : Int) =>
 obnd (f492 (!(hasK (kd (kc e53.2)) x58.1)) (5 : Int)) fun (y67 : Int) =>
 obnd (f517 x58.2.1 a0 a1) fun (y69 : Bool) =>
 oite y69 (
 obnd (f517 x58.2.2.1 a0 a1) fun (y72 : Bool) =>
 obnd (f492 y72 (6 : Int)) fun (y74 : Int) =>
 obnd (f492 (!(ieq x58.2.1 x58.2.2.1)) (13 : Int)) fun (y76 : Int) =>
 obnd (f493 x58.2.2.2.1 (0 : Int) (1000 : Int)) fun (y78 : Bool) =>
 obnd (f492 y78 (2 : Int)) fun (y80 : Int) =>
 oite x58.2.2.2.2.1 (
 obnd (f492 true (3 : Int)) fun (y83 : Int) =>
 obnd (f491 ([y65, y67, y74, y76, y80, y83] : List Int)) fun (y85 : Int) =>
 some y85
 ) (
 obnd (f492 x58.2.2.2.2.2 (3 : Int)) fun (y87 : Int) =>
 obnd (f491 ([y65, y67, y74, y76, y80, y87] : List Int)) fun (y89 : Int) =>
 some y89)
 ) (
 obnd (f492 false (6 : Int)) fun (y91 : Int) =>
 obnd (f492 (!(ieq x58.2.1 x58.2.2.1)) (13 : Int)) fun (y93 : Int) =>
 obnd (f493 x58.2.2.2.1 (0 : Int) (1000 : Int)) fun (y95 : Bool) =>
 obnd (f492 y95 (2 : Int)) fun (y97 : Int) =>
 oite x58.2.2.2.2.1 (
 obnd (f492 true (3 : Int)) fun (y100 : Int) =>
 obnd (f491 ([y65, y67, y91, y93, y97, y100] : List Int)) fun (y102 : Int) =>
 some y102
 ) (
 obnd (f492 x58.2.2.2.2.2 (3 : Int)) fun (y104 : Int) =>
 obnd (f491 ([y65, y67, y91, y93, y97, y104] : List Int)) fun (y106 : Int) =>
 some y106))
 ) fun (r59 : Int) =>
 oite ((!(ieq r59 (0 : Int)))) (
 some (.inr (.inr ((e53.1, r59))))
 ) (
 some (.inl (((IntKind.i64.wrap (e53.1 + (1 : Int))), (mset (kd (kc e53.2)) x58.1))))))
 ) (
 some (.inr (.inl e53.2)))
 ) (((0 : Int), ([] : List ByteArray)))
 ) fun (_ : (List ByteArray)) =>
 some ((0 : Int), (0 : Int)))
theorem c505 [LO]  {a0 : List (ByteArray × Bool × Int × Int)} {a1 : List (ByteArray × Int × Int × Int × Bool × Bool)} {x : Int × Int} (H : f505 a0 a1 = some x) : ICalls E 505 [(.agg ⟨[(VS 4 (a0.map e_SBII)), (VS 6 (a1.map e_SIIIBB))]⟩)] AHeap.none fun v _ => v = (.tuple ⟨[(.int .i64 x.1), (.int .i64 x.2)]⟩) := by
  refine icalls_fn (pfnw ?_); unfold f505 at H;(conv=>whnf);refine pwa ?_;(conv=>whnf);refine pw_so ?_;refine po_ops 5 ?_;(conv=>whnf);obtain ⟨r1, h2, H⟩ := obnd_some H;refine po_seg (τ := Bool) 5 (fun e => ⟨[(1, (.pointer (some ⟨0, 0, none⟩))), (27, (.bool e))], ⟨1, [(0, .rw [(VS 4 (a0.map e_SBII)), (VS 6 (a1.map e_SIIIBB))])], false⟩⟩) r1 ?_ ?_
  · refine po_all ?_;(conv=>whnf);refine pbr_oite h2 (fun g3 h2 => ?_) (fun g3 h2 => ?_)
    · (conv=>whnf);(iterate 4 refine pbr_t g3 ?_;(conv=>whnf));cases h2;exact ⟨(.cons rfl (.cons rfl .nil)), rfl⟩
    · (conv=>whnf);(iterate 4 refine pbr_f g3 ?_;(conv=>whnf));cases h2;exact ⟨(.cons rfl (.cons rfl .nil)), rfl⟩
  · refine po_all ?_;(conv=>whnf);refine pw_so ?_;refine po_ops 5 ?_;(conv=>whnf);obtain ⟨r4, h5, H⟩ := obnd_some H;refine po_seg (τ := Bool) 5 (fun e => ⟨[(1, (.pointer (some ⟨0, 0, none⟩))), (4, (.bool r1)), (37, (.bool e))], ⟨1, [(0, .rw [(VS 4 (a0.map e_SBII)), (VS 6 (a1.map e_SIIIBB))])], false⟩⟩) r4 ?_ ?_
    · refine po_all ?_;(conv=>whnf);refine pbr_oite h5 (fun g6 h5 => ?_) (fun g6 h5 => ?_)
      · (conv=>whnf);(iterate 4 refine pbr_t g6 ?_;(conv=>whnf));cases h5;exact ⟨(.cons rfl (.cons rfl (.cons rfl .nil))), rfl⟩
      · (conv=>whnf);(iterate 4 refine pbr_f g6 ?_;(conv=>whnf));cases h5;exact ⟨(.cons rfl (.cons rfl (.cons rfl .nil))), rfl⟩
    · refine po_all ?_;(conv=>whnf);refine pw_seq ?_;refine pwa ?_;(conv=>whnf);obtain ⟨y7, h8, H⟩ := obnd_some H;refine (c492 h8).go ?_;(conv=>whnf);obtain ⟨y9, h10, H⟩ := obnd_some H;refine (c492 h10).go ?_;(conv=>whnf);obtain ⟨y11, h12, H⟩ := obnd_some H;refine ICalls.goW (c491 h12) (.cons (.vt _ _ _) .nil) ?_;(conv=>whnf);refine pwa ?_;(conv=>whnf);refine pw_cond ?_;(conv=>whnf);refine pbr_oite H (fun g13 H => ?_) (fun g13 H => ?_)
      · (conv=>whnf);refine pwa ?_;(conv=>whnf);refine pw_ret ?_;(conv=>whnf);cases H; rfl
      · (conv=>whnf);refine pw_skip ?_;(conv=>whnf);refine pwa ?_;(conv=>whnf);obtain ⟨r14, h15, h16, h17⟩ := obndS_some H;refine pw_joinS (ρ := (List ByteArray)) (fun e => ⟨[(1, (.pointer (some ⟨0, 0, none⟩)))], ⟨3, [(2, .loop (mpL e)), (1, .tail 2 1), (0, .rw [(VS 4 (a0.map e_SBII)), (VS 6 (a1.map e_SIIIBB))])], false⟩⟩) r14 ?_ ?_
        · refine pwa ?_;(conv=>whnf);refine pw_block ?_;refine pw_loop (τ := Int × (List ByteArray)) (fun e => ⟨[(1, (.pointer (some ⟨0, 0, none⟩))), (7, (.map (some 2))), (49, (VS 4 (a0.map e_SBII))), (50, (.int .i64 ((a0.map e_SBII).length : Int))), (51, (.int .i64 e.1))], ⟨3, [(2, .loop (mpL e.2)), (1, .tail 2 1), (0, .rw [(VS 4 (a0.map e_SBII)), (VS 6 (a1.map e_SIIIBB))])], false⟩⟩) h15 ?_ (fun _ => nl rfl) ?_
          · exact .sub' (nl rfl) (.cons rfl (.cons rfl (.cons rfl (.cons rfl (.cons rfl .nil)))))
          · intro e18 x19 h20;refine pwa ?_;(conv=>whnf);refine pw_seq ?_;refine pw_cond ?_;(conv=>whnf);refine pbr_oite h20 (fun g21 h20 => ?_) (fun g21 h20 => ?_)
            · (conv=>whnf);refine pw_skip ?_;(conv=>whnf);refine pw_seq ?_;refine pw_block ?_;refine pwa ?_;(conv=>whnf);refine pbr_ogrd h20 (fun g22 h20 => ?_);(conv=>whnf);refine nth_o (l := a0) h20 (fun x23 _ h20 => ?_);(conv=>whnf);refine pw_sd ?_;(conv=>whnf);refine ⟨?_, trivial⟩;(conv=>whnf);obtain ⟨y24, h25, h20⟩ := obnd_some h20;refine (c515 h25).go ?_;(conv=>whnf);refine ⟨by trivial,?_⟩;(conv=>whnf);obtain ⟨r26, h27, h20⟩ := obnd_some h20;refine pw_join (ρ := Int × Bool) (fun e => ⟨[(1, (.pointer (some ⟨0, 0, none⟩))), (7, (.map (some 2))), (8, (.int .i64 e18.1)), (9, (.pointer (some ⟨3, 0, none⟩))), (10, (.int .i64 e.1)), (11, (.bool e.2)), (49, (VS 4 (a0.map e_SBII))), (50, (.int .i64 ((a0.map e_SBII).length : Int))), (51, (.int .i64 e18.1))], ⟨4, [(3, .rw [(.string x23.1), (.bool x23.2.1), (.int .i64 x23.2.2.1), (.int .i64 x23.2.2.2)]), (2, .loop (mpL e18.2)), (1, .tail 2 1), (0, .rw [(VS 4 (a0.map e_SBII)), (VS 6 (a1.map e_SIIIBB))])], false⟩⟩) r26 ?_ ?_
              · refine pwa ?_;(conv=>whnf);refine pw_cond ?_;(conv=>whnf);refine pbr_oite h27 (fun g30 h27 => ?_) (fun g30 h27 => ?_)
                · (conv=>whnf);refine pw_draw ?_;(conv=>whnf);refine ⟨?_, trivial⟩;(conv=>whnf);obtain ⟨y31, h32, h27⟩ := obnd_some h27;refine (c493 h32).go ?_;(conv=>whnf);refine ⟨by trivial,?_⟩;(conv=>whnf);cases h27;exact ⟨by (repeat refine .cons rfl ?_);exact .nil,rfl⟩
                · (conv=>whnf);refine pw_skip ?_;(conv=>whnf);cases h27;exact ⟨by (repeat refine .cons rfl ?_);exact .nil,rfl⟩
              · refine pw_seq ?_;refine pw_sd ?_;(conv=>whnf);refine ⟨?_, trivial⟩;(conv=>whnf);obtain ⟨y33, h34, h20⟩ := obnd_some h20;refine (c516 h34).go ?_;(conv=>whnf);refine ⟨by trivial,?_⟩;(conv=>whnf);refine ⟨?_, trivial⟩;(conv=>whnf);obtain ⟨y35, h36, h20⟩ := obnd_some h20;refine (c492 h36).go ?_;(conv=>whnf);refine ⟨by trivial,?_⟩;(conv=>whnf);refine ⟨?_, trivial⟩;(conv=>whnf);obtain ⟨y37, h38, h20⟩ := obnd_some h20;refine (c492 h38).go ?_;(conv=>whnf);refine ⟨by trivial,?_⟩
                (conv=>whnf);refine ⟨?_, trivial⟩;(conv=>whnf);obtain ⟨y39, h40, h20⟩ := obnd_some h20;refine (c492 h40).go ?_;(conv=>whnf);refine ⟨by trivial,?_⟩;(conv=>whnf);refine ⟨?_, trivial⟩;(conv=>whnf);obtain ⟨y41, h42, h20⟩ := obnd_some h20;refine (c492 h42).go ?_;(conv=>whnf);refine ⟨by trivial,?_⟩;(conv=>whnf);refine ⟨?_, trivial⟩;(conv=>whnf);refine ⟨by trivial,?_⟩;(conv=>whnf);refine ⟨?_, trivial⟩;(conv=>whnf);obtain ⟨y43, h44, h20⟩ := obnd_some h20;refine ICalls.goW (c491 h44) (.cons (.vt _ _ _) .nil) ?_
                (conv=>whnf);refine ⟨by trivial,?_⟩;(conv=>whnf);refine pwa ?_;(conv=>whnf);refine pw_cond ?_;(conv=>whnf);refine pbr_oite h20 (fun g45 h20 => ?_) (fun g45 h20 => ?_)
                · (conv=>whnf);refine pwa ?_;(conv=>whnf);refine pw_ret ?_;(conv=>whnf);cases h20;refine ⟨_, rfl, ?_⟩; rintro rfl;(conv=>whnf);obtain rfl := h17 _ rfl; rfl
                · (conv=>whnf);refine pw_skip ?_;(conv=>whnf);refine pw_ops ?_;refine po_all ?_;(conv=>whnf);refine pw_ops ?_;refine po_all ?_;(conv=>whnf);cases h20;refine ⟨_, rfl, ?_⟩;refine Recast.trunc (nl rfl) ?_ ?_
                  · repeat (first | exact .nil | refine .cons rfl (by first | exact OBnd.rwc (nl rfl) rfl | exact OBnd.tail (nl rfl) | trivial | exact OBnd.loop (nl rfl) .nil) ?_)
                  · repeat (first | exact .nil | refine .cons rfl (by first | exact Bnd.ptr (nl rfl) | exact Bnd.vt (nl rfl) | exact Bnd.cl | exact Bnd.map (nl rfl)) ?_)
            · (conv=>whnf);refine pw_exit ?_;(conv=>whnf);cases h20;refine ⟨_, rfl, ?_⟩; rintro rfl;(conv=>whnf);exact ⟨_, rfl, ⟨(.cons rfl .nil), rfl⟩⟩
        · intro r48 hr; have H := h16 _ hr;refine pwa ?_;(conv=>whnf);refine pwa ?_;(conv=>whnf);obtain ⟨r49, h50, h51, h52⟩ := obndS_some H;refine pw_joinS (ρ := (List ByteArray)) (fun e => ⟨[], ⟨4, [(3, .loop (mpL e)), (2, .loop (mpL r48)), (1, .tail 2 1), (0, .rw [(VS 4 (a0.map e_SBII)), (VS 6 (a1.map e_SIIIBB))])], false⟩⟩) r49 ?_ ?_
          · refine pwa ?_;(conv=>whnf);refine pw_block ?_;refine pw_loop (τ := Int × (List ByteArray)) (fun e => ⟨[(13, (.func (.func (E.id 517)) ⟨[]⟩ ⟨[(.pointer (some ⟨0, 0, none⟩))]⟩)), (14, (.map (some 3))), (96, (VS 6 (a1.map e_SIIIBB))), (97, (.int .i64 ((a1.map e_SIIIBB).length : Int))), (98, (.int .i64 e.1))], ⟨4, [(3, .loop (mpL e.2)), (2, .loop (mpL r48)), (1, .tail 2 1), (0, .rw [(VS 4 (a0.map e_SBII)), (VS 6 (a1.map e_SIIIBB))])], false⟩⟩) h50 ?_ (fun _ => nl rfl) ?_
            · exact .sub' (nl rfl) (.cons rfl (.cons rfl (.cons rfl (.cons rfl (.cons rfl .nil)))))
            · intro e53 x54 h55;refine pwa ?_;(conv=>whnf);refine pw_seq ?_;refine pw_cond ?_;(conv=>whnf);refine pbr_oite h55 (fun g56 h55 => ?_) (fun g56 h55 => ?_)
              · (conv=>whnf);refine pw_skip ?_;(conv=>whnf);refine pw_seq ?_;refine pw_block ?_;refine pwa ?_;(conv=>whnf);refine pbr_ogrd h55 (fun g57 h55 => ?_);(conv=>whnf);refine nth_o (l := a1) h55 (fun x58 _ h55 => ?_);(conv=>whnf);obtain ⟨r59, h60, h55⟩ := obnd_some h55;refine pw_join (ρ := Int) (fun e => ⟨[(13, (.func (.func (E.id 517)) ⟨[]⟩ ⟨[(.pointer (some ⟨0, 0, none⟩))]⟩)), (14, (.map (some 3))), (15, (.int .i64 e53.1)), (16, (.pointer (some ⟨4, 0, none⟩))), (17, (.int .i64 e)), (96, (VS 6 (a1.map e_SIIIBB))), (97, (.int .i64 ((a1.map e_SIIIBB).length : Int))), (98, (.int .i64 e53.1))], ⟨6, [(5, .tail 6 1), (4, .rw [(.string x58.1), (.int .i64 x58.2.1), (.int .i64 x58.2.2.1), (.int .i64 x58.2.2.2.1), (.bool x58.2.2.2.2.1), (.bool x58.2.2.2.2.2)]), (3, .loop (mpL e53.2)), (2, .loop (mpL r48)), (1, .tail 2 1), (0, .rw [(VS 4 (a0.map e_SBII)), (VS 6 (a1.map e_SIIIBB))])], false⟩⟩) r59 ?_ ?_
                · refine pw_draw ?_;(conv=>whnf);refine ⟨?_, trivial⟩;(conv=>whnf);obtain ⟨y63, h64, h60⟩ := obnd_some h60;refine (c516 h64).go ?_;(conv=>whnf);refine ⟨by trivial,?_⟩;(conv=>whnf);refine ⟨?_, trivial⟩;(conv=>whnf);obtain ⟨y65, h66, h60⟩ := obnd_some h60;refine (c492 h66).go ?_;(conv=>whnf);refine ⟨by trivial,?_⟩;(conv=>whnf);refine ⟨?_, trivial⟩;(conv=>whnf);obtain ⟨y67, h68, h60⟩ := obnd_some h60;refine (c492 h68).go ?_;(conv=>whnf);refine ⟨by trivial,?_⟩
                  (conv=>whnf);refine ⟨?_, trivial⟩;(conv=>whnf);obtain ⟨y69, h70, h60⟩ := obnd_some h60;refine ICallV.goD (c517 h70) (.func .nil (.cons (.ptr rfl (by intro v hv; simp only [List.mem_cons, List.not_mem_nil, or_false] at hv; rcases hv with rfl | rfl <;> rfl)) .nil)) (.cons .cl .nil) rfl ?_;(conv=>whnf);refine ⟨by trivial,?_⟩;(conv=>whnf);refine pbr_oite h60 (fun g71 h60 => ?_) (fun g71 h60 => ?_)
                  · (conv=>whnf);refine pbr_t g71 ?_;(conv=>whnf);refine pbr_t g71 ?_;(conv=>whnf);refine ⟨?_, trivial⟩;(conv=>whnf);refine pbr_t g71 ?_;(conv=>whnf);obtain ⟨y72, h73, h60⟩ := obnd_some h60;refine ICallV.goD (c517 h73) (.func .nil (.cons (.ptr rfl (by intro v hv; simp only [List.mem_cons, List.not_mem_nil, or_false] at hv; rcases hv with rfl | rfl <;> rfl)) .nil)) (.cons .cl .nil) rfl ?_;(conv=>whnf);refine ⟨by trivial,?_⟩;(conv=>whnf);refine pbr_t g71 ?_;(conv=>whnf);refine ⟨?_, trivial⟩;(conv=>whnf);obtain ⟨y74, h75, h60⟩ := obnd_some h60;refine (c492 h75).go ?_
                    (conv=>whnf);refine ⟨by trivial,?_⟩;(conv=>whnf);refine ⟨?_, trivial⟩;(conv=>whnf);obtain ⟨y76, h77, h60⟩ := obnd_some h60;refine (c492 h77).go ?_;(conv=>whnf);refine ⟨by trivial,?_⟩;(conv=>whnf);refine ⟨?_, trivial⟩;(conv=>whnf);obtain ⟨y78, h79, h60⟩ := obnd_some h60;refine (c493 h79).go ?_;(conv=>whnf);refine ⟨by trivial,?_⟩;(conv=>whnf);refine ⟨?_, trivial⟩;(conv=>whnf);obtain ⟨y80, h81, h60⟩ := obnd_some h60;refine (c492 h81).go ?_;(conv=>whnf)
                    refine ⟨by trivial,?_⟩;(conv=>whnf);refine pbr_oite h60 (fun g82 h60 => ?_) (fun g82 h60 => ?_)
                    · (conv=>whnf);refine pbr_t g82 ?_;(conv=>whnf);refine pbr_t g82 ?_;(conv=>whnf);refine ⟨?_, trivial⟩;(conv=>whnf);obtain ⟨y83, h84, h60⟩ := obnd_some h60;refine (c492 h84).go ?_;(conv=>whnf);refine ⟨by trivial,?_⟩;(conv=>whnf);refine ⟨?_, trivial⟩;(conv=>whnf);refine ⟨by trivial,?_⟩;(conv=>whnf);refine ⟨?_, trivial⟩;(conv=>whnf);obtain ⟨y85, h86, h60⟩ := obnd_some h60;refine ICalls.goW (c491 h86) (.cons (.vt _ _ _) .nil) ?_;(conv=>whnf);refine ⟨by trivial,?_⟩
                      (conv=>whnf);cases h60;exact ⟨by (repeat refine .cons rfl ?_);exact .nil,rfl⟩
                    · (conv=>whnf);refine pbr_f g82 ?_;(conv=>whnf);refine pbr_f g82 ?_;(conv=>whnf);refine ⟨?_, trivial⟩;(conv=>whnf);obtain ⟨y87, h88, h60⟩ := obnd_some h60;refine (c492 h88).go ?_;(conv=>whnf);refine ⟨by trivial,?_⟩;(conv=>whnf);refine ⟨?_, trivial⟩;(conv=>whnf);refine ⟨by trivial,?_⟩;(conv=>whnf);refine ⟨?_, trivial⟩;(conv=>whnf);obtain ⟨y89, h90, h60⟩ := obnd_some h60;refine ICalls.goW (c491 h90) (.cons (.vt _ _ _) .nil) ?_;(conv=>whnf);refine ⟨by trivial,?_⟩
                      (conv=>whnf);cases h60;exact ⟨by (repeat refine .cons rfl ?_);exact .nil,rfl⟩
                  · (conv=>whnf);refine pbr_f g71 ?_;(conv=>whnf);refine pbr_f g71 ?_;(conv=>whnf);refine ⟨?_, trivial⟩;(conv=>whnf);refine pbr_f g71 ?_;(conv=>whnf);refine pbr_f g71 ?_;(conv=>whnf);refine ⟨?_, trivial⟩;(conv=>whnf);obtain ⟨y91, h92, h60⟩ := obnd_some h60;refine (c492 h92).go ?_;(conv=>whnf);refine ⟨by trivial,?_⟩;(conv=>whnf);refine ⟨?_, trivial⟩;(conv=>whnf);obtain ⟨y93, h94, h60⟩ := obnd_some h60;refine (c492 h94).go ?_;(conv=>whnf);refine ⟨by trivial,?_⟩;(conv=>whnf);refine ⟨?_, trivial⟩;(conv=>whnf)
                    obtain ⟨y95, h96, h60⟩ := obnd_some h60;refine (c493 h96).go ?_;(conv=>whnf);refine ⟨by trivial,?_⟩;(conv=>whnf);refine ⟨?_, trivial⟩;(conv=>whnf);obtain ⟨y97, h98, h60⟩ := obnd_some h60;refine (c492 h98).go ?_;(conv=>whnf);refine ⟨by trivial,?_⟩;(conv=>whnf);refine pbr_oite h60 (fun g99 h60 => ?_) (fun g99 h60 => ?_)
                    · (conv=>whnf);refine pbr_t g99 ?_;(conv=>whnf);refine pbr_t g99 ?_;(conv=>whnf);refine ⟨?_, trivial⟩;(conv=>whnf);obtain ⟨y100, h101, h60⟩ := obnd_some h60;refine (c492 h101).go ?_;(conv=>whnf);refine ⟨by trivial,?_⟩;(conv=>whnf);refine ⟨?_, trivial⟩;(conv=>whnf);refine ⟨by trivial,?_⟩;(conv=>whnf);refine ⟨?_, trivial⟩;(conv=>whnf);obtain ⟨y102, h103, h60⟩ := obnd_some h60;refine ICalls.goW (c491 h103) (.cons (.vt _ _ _) .nil) ?_;(conv=>whnf);refine ⟨by trivial,?_⟩
                      (conv=>whnf);cases h60;exact ⟨by (repeat refine .cons rfl ?_);exact .nil,rfl⟩
                    · (conv=>whnf);refine pbr_f g99 ?_;(conv=>whnf);refine pbr_f g99 ?_;(conv=>whnf);refine ⟨?_, trivial⟩;(conv=>whnf);obtain ⟨y104, h105, h60⟩ := obnd_some h60;refine (c492 h105).go ?_;(conv=>whnf);refine ⟨by trivial,?_⟩;(conv=>whnf);refine ⟨?_, trivial⟩;(conv=>whnf);refine ⟨by trivial,?_⟩;(conv=>whnf);refine ⟨?_, trivial⟩;(conv=>whnf);obtain ⟨y106, h107, h60⟩ := obnd_some h60;refine ICalls.goW (c491 h107) (.cons (.vt _ _ _) .nil) ?_;(conv=>whnf);refine ⟨by trivial,?_⟩
                      (conv=>whnf);cases h60;exact ⟨by (repeat refine .cons rfl ?_);exact .nil,rfl⟩
                · refine pw_seq ?_;refine pwa ?_;(conv=>whnf);refine pw_cond ?_;(conv=>whnf);refine pbr_oite h55 (fun g108 h55 => ?_) (fun g108 h55 => ?_)
                  · (conv=>whnf);refine pwa ?_;(conv=>whnf);refine pw_ret ?_;(conv=>whnf);cases h55;refine ⟨_, rfl, ?_⟩; rintro rfl;(conv=>whnf);obtain rfl := h52 _ rfl; rfl
                  · (conv=>whnf);refine pw_skip ?_;(conv=>whnf);refine pw_ops ?_;refine po_all ?_;(conv=>whnf);refine pw_ops ?_;refine po_all ?_;(conv=>whnf);cases h55;refine ⟨_, rfl, ?_⟩;exact Recast.fz (fun _ => false) (nl rfl) (.cons (.same rfl rfl (OBnd.loop (nl rfl) .nil)) (.cons (.same rfl rfl (OBnd.loop (nl rfl) .nil)) (.cons (.same rfl rfl (OBnd.tail (nl rfl))) (.cons (.same rfl rfl (OBnd.rwl (nl rfl) rfl (.cons .cl (.cons .cl .nil)))) .nil)))) (.cons rfl (.same _ (.funcl .nil (.cons (.ptr (nl rfl)) .nil))) (.cons rfl (.same _ (.map (nl rfl))) (.cons rfl (.same _ .cl) (.cons rfl (.same _ .cl) (.cons rfl (.same _ .cl) .nil)))))
              · (conv=>whnf);refine pw_exit ?_;(conv=>whnf);cases h55;refine ⟨_, rfl, ?_⟩; rintro rfl;(conv=>whnf);exact ⟨_, rfl, ⟨.nil, rfl⟩⟩
          · intro r111 hr; have H := h51 _ hr;refine pwa ?_;(conv=>whnf);refine pw_ret ?_;(conv=>whnf);cases H; rfl
noncomputable def f488 [LO]  (a0 : List (ByteArray × Bool × Int × Int)) (a1 : List (ByteArray × Int × Int × Int × Bool × Bool)) : Option ((List (ByteArray × Bool × Int × Int)) × (List (ByteArray × Int × Int × Int × Bool × Bool)) × Int) :=
 obnd (f505 a0 a1) fun (y1 : Int × Int) =>
 some (a0, a1, y1.2)
theorem c488 [LO]  {a0 : List (ByteArray × Bool × Int × Int)} {a1 : List (ByteArray × Int × Int × Int × Bool × Bool)} {x : (List (ByteArray × Bool × Int × Int)) × (List (ByteArray × Int × Int × Int × Bool × Bool)) × Int} (H : f488 a0 a1 = some x) : ICalls E 488 [(.agg ⟨[(VS 4 (a0.map e_SBII)), (VS 6 (a1.map e_SIIIBB))]⟩)] AHeap.none fun v _ => v = (.tuple ⟨[(.agg ⟨[(VS 4 (x.1.map e_SBII)), (VS 6 (x.2.1.map e_SIIIBB))]⟩), (.int .i64 x.2.2)]⟩) := by
 refine ICalls.frz ?_;refine icalls_fn (pfnw ?_); unfold f488 at H;(conv=>whnf);refine pwa ?_;(conv=>whnf);refine pwa ?_;(conv=>whnf);obtain ⟨y1, h2, H⟩ := obnd_some H;refine (c505 h2).go ?_;(conv=>whnf);refine pwa ?_;(conv=>whnf);refine pw_ret ?_;(conv=>whnf);cases H; show ∃ D, Fz _ D 0 (.tuple ⟨[(.agg ⟨[(VS 4 _), (VS 6 _)]⟩), (.int .i64 y1.2)]⟩) _;exact ⟨fun _ => false, .tuplel (.cons .cl (.cons .cl (.nil)))⟩
noncomputable def f507 [LO]  (a0 : List (ByteArray × Bool × Int × Int)) (_ : List (ByteArray × Int × Int × Int × Bool × Bool)) : Option ((List Int)) :=
 obnd (
 oloop (τ := (List Int) × Int) (ρ := (List Int)) (fun e5 =>
 oite ((ilt e5.2 ((a0.map e_SBII).length : Int))) (
 ogrd ((ile 0 e5.2)) (
 obnd (a0[e5.2.toNat]?) fun (x10 : ByteArray × Bool × Int × Int) =>
 oite x10.2.1 (
 ogrd (fits 8 (e5.1.length + ([e5.2] : List Int).length)) (
 some (.inl (((e5.1 ++ ([e5.2] : List Int)), (IntKind.i64.wrap (e5.2 + (1 : Int)))))))
 ) (
 some (.inl (e5.1, (IntKind.i64.wrap (e5.2 + (1 : Int)))))))
 ) (
 some (.inr (e5.1)))
 ) ((([] : List Int), (0 : Int)))
 ) fun (r1 : (List Int)) =>
 some r1
theorem c507 [LO]  {a0 : List (ByteArray × Bool × Int × Int)} {a1 : List (ByteArray × Int × Int × Int × Bool × Bool)} {x : (List Int)} (H : f507 a0 a1 = some x) : ICalls E 507 [(.agg ⟨[(VS 4 (a0.map e_SBII)), (VS 6 (a1.map e_SIIIBB))]⟩)] AHeap.none fun v _ => v = (VS 1 (x.map eI)) := by
 refine ICalls.frz ?_;refine icalls_fn (pfnw ?_); unfold f507 at H;(conv=>whnf);refine pwa ?_;(conv=>whnf);refine pwa ?_;(conv=>whnf);obtain ⟨r1, h2, H⟩ := obnd_some H;refine pw_join (ρ := (List Int)) (fun e => ⟨[(3, (VT 1 (e.map eI) 1))], ⟨2, [(1, .tail (e.map eI).length 1), (0, .rw [(VS 4 (a0.map e_SBII)), (VS 6 (a1.map e_SIIIBB))])], false⟩⟩) r1 ?_ ?_
 · refine pwa ?_;(conv=>whnf);refine pw_block ?_;refine pw_loop (τ := (List Int) × Int) (fun e => ⟨[(3, (VT 1 (e.1.map eI) 1)), (8, (VS 4 (a0.map e_SBII))), (9, (.int .i64 ((a0.map e_SBII).length : Int))), (10, (.int .i64 e.2))], ⟨2, [(1, .tail (e.1.map eI).length 1), (0, .rw [(VS 4 (a0.map e_SBII)), (VS 6 (a1.map e_SIIIBB))])], false⟩⟩) h2 ?_ (fun _ => nl rfl) ?_
   · exact (Recast.nilTs 1 (nl rfl) (.turn rfl (.same rfl (.same rfl (.same rfl .nil)))))
   · intro e5 x6 h7;refine pwa ?_;(conv=>whnf);refine pw_seq ?_;refine pw_cond ?_;(conv=>whnf);refine pbr_oite h7 (fun g8 h7 => ?_) (fun g8 h7 => ?_)
     · (conv=>whnf);refine pw_skip ?_;(conv=>whnf);refine pw_seq ?_;refine pw_block ?_;refine pwa ?_;(conv=>whnf);refine pbr_ogrd h7 (fun g9 h7 => ?_);(conv=>whnf);refine nth_o (l := a0) h7 (fun x10 _ h7 => ?_);(conv=>whnf);refine pwa ?_;(conv=>whnf);refine pw_cond ?_;(conv=>whnf);refine pbr_oite h7 (fun g11 h7 => ?_) (fun g11 h7 => ?_)
       · (conv=>whnf);refine pw_ops ?_;refine po_all ?_;(conv=>whnf);refine app_o (l := e5.1) (m := ([e5.2] : List Int)) (f := eI) h7 (by rfl) (by rfl) (by rfl) (fun h7 => ?_);(conv=>whnf);refine pw_ops ?_;refine po_all ?_;(conv=>whnf);cases h7;refine ⟨_, rfl, ?_⟩;refine Recast.trunc (nl rfl) ?_ ?_
         · repeat (first | exact .nil | refine .cons rfl (by first | exact OBnd.rwc (nl rfl) rfl | exact OBnd.tail (nl rfl) | trivial | exact OBnd.loop (nl rfl) .nil) ?_)
         · repeat (first | exact .nil | refine .cons rfl (by first | exact Bnd.ptr (nl rfl) | exact Bnd.vt (nl rfl) | exact Bnd.cl | exact Bnd.map (nl rfl)) ?_)
       · (conv=>whnf);refine pw_skip ?_;(conv=>whnf);refine pw_ops ?_;refine po_all ?_;(conv=>whnf);cases h7;refine ⟨_, rfl, ?_⟩;refine Recast.trunc (nl rfl) ?_ ?_
         · repeat (first | exact .nil | refine .cons rfl (by first | exact OBnd.rwc (nl rfl) rfl | exact OBnd.tail (nl rfl) | trivial | exact OBnd.loop (nl rfl) .nil) ?_)
         · repeat (first | exact .nil | refine .cons rfl (by first | exact Bnd.ptr (nl rfl) | exact Bnd.vt (nl rfl) | exact Bnd.cl | exact Bnd.map (nl rfl)) ?_)
     · (conv=>whnf);refine pw_exit ?_;(conv=>whnf);cases h7;refine ⟨_, rfl, ?_⟩; rintro rfl;(conv=>whnf);exact ⟨(.cons rfl .nil), rfl⟩
 · refine pwa ?_;(conv=>whnf);refine pw_ret ?_;(conv=>whnf);cases H; show ∃ D, Fz _ D 0 (VT 1 _ 1) _;exact ⟨fun _ => false, .vtc⟩
noncomputable def f531 [LO]  (a0 : List Bool) (a1 : Bool) : Option Int :=
 obndS (
 oloop (τ := Int) (ρ := (Unit) ⊕ Int) (fun e5 =>
 oite ((ilt e5 ((a0.map eB).length : Int))) (
 ogrd ((ile 0 e5)) (
 obnd (a0[e5.toNat]?) fun (x10 : Bool) =>
 oite ((a1 == x10)) (
 some (.inr (.inr (e5)))
 ) (
 some (.inl (IntKind.i64.wrap (e5 + (1 : Int))))))
 ) (
 some (.inr (.inl ())))
 ) (0 : Int)
 ) fun (_ : Unit) =>
 some (-1 : Int)
theorem c531 [LO]  {a0 : List Bool} {a1 : Bool} {x : Int} (H : f531 a0 a1 = some x) : ICalls E 531 [(VS 1 (a0.map eB)), (.bool a1)] AHeap.none fun v _ => v = (.int .i64 x) := by
 refine icalls_fn (pfnw ?_); unfold f531 at H;(conv=>whnf);refine pwa ?_;(conv=>whnf);obtain ⟨r1, h2, h3, h4⟩ := obndS_some H;refine pw_joinS (ρ := Unit) (fun e => ⟨[], ⟨0, [], false⟩⟩) r1 ?_ ?_
 · refine pwa ?_;(conv=>whnf);refine pw_block ?_;refine pw_loop (τ := Int) (fun e => ⟨[(0, (VS 1 (a0.map eB))), (1, (.bool a1)), (7, (.int .i64 ((a0.map eB).length : Int))), (8, (.int .i64 e))], ⟨0, [], false⟩⟩) h2 ?_ (fun _ => nl rfl) ?_
   · exact .sub' (nl rfl) (.cons rfl (.cons rfl (.cons rfl (.cons rfl .nil))))
   · intro e5 x6 h7;refine pwa ?_;(conv=>whnf);refine pw_seq ?_;refine pw_cond ?_;(conv=>whnf);refine pbr_oite h7 (fun g8 h7 => ?_) (fun g8 h7 => ?_)
     · (conv=>whnf);refine pw_skip ?_;(conv=>whnf);refine pw_seq ?_;refine pw_block ?_;refine pwa ?_;(conv=>whnf);refine pwa ?_;(conv=>whnf);refine pbr_ogrd h7 (fun g9 h7 => ?_);(conv=>whnf);refine nth_o (l := a0) h7 (fun x10 _ h7 => ?_);(conv=>whnf);refine pw_cond ?_;(conv=>whnf);refine pbr_oite h7 (fun g11 h7 => ?_) (fun g11 h7 => ?_)
       · (conv=>whnf);refine pwa ?_;(conv=>whnf);refine pw_ret ?_;(conv=>whnf);cases h7;refine ⟨_, rfl, ?_⟩; rintro rfl;(conv=>whnf);obtain rfl := h4 _ rfl; rfl
       · (conv=>whnf);refine pw_skip ?_;(conv=>whnf);refine pw_ops ?_;refine po_all ?_;(conv=>whnf);cases h7;refine ⟨_, rfl, ?_⟩;exact .sub' (nl rfl) (.cons rfl (.cons rfl (.cons rfl (.cons rfl .nil))))
     · (conv=>whnf);refine pw_exit ?_;(conv=>whnf);cases h7;refine ⟨_, rfl, ?_⟩; rintro rfl;(conv=>whnf);exact ⟨_, rfl, ⟨.nil, rfl⟩⟩
 · intro r14 hr; have H := h3 _ hr;refine pwa ?_;(conv=>whnf);refine pw_ret ?_;(conv=>whnf);cases H; rfl
noncomputable def f528 [LO]  (a0 : List Bool) (a1 : Bool) : Option Bool :=
 obnd (f531 a0 a1) fun (y1 : Int) =>
 some (ile (0 : Int) y1)
theorem c528 [LO]  {a0 : List Bool} {a1 : Bool} {x : Bool} (H : f528 a0 a1 = some x) : ICalls E 528 [(VS 1 (a0.map eB)), (.bool a1)] AHeap.none fun v _ => v = (.bool x) := by
 refine icalls_fn (pfnw ?_); unfold f528 at H;(conv=>whnf);refine pwa ?_;(conv=>whnf);refine pwa ?_;(conv=>whnf);obtain ⟨y1, h2, H⟩ := obnd_some H;refine (c531 h2).go ?_;(conv=>whnf);refine pw_ret ?_;(conv=>whnf);cases H; rfl
noncomputable def f521 [LO]  (a0 : List (ByteArray × Bool × Int × Int)) (a1 : List (ByteArray × Int × Int × Int × Bool × Bool)) : Option ((List (ByteArray × Bool × Int × Int)) × (List (ByteArray × Int × Int × Int × Bool × Bool)) × (List (Int × Int)) × Int × Int) :=
 ogrd (mfits 1 ((a0.map e_SBII).length : Int) ((a0.map e_SBII).length : Int)) (
 obnd (
 obnd (f507 a0 a1) fun (y6 : (List Int)) =>
 oloop (τ := Int × (List Bool)) (ρ := (List Bool)) (fun e8 =>
 oite ((ilt e8.1 ((y6.map eI).length : Int))) (
 ogrd ((ile 0 e8.1)) (
 obnd (y6[e8.1.toNat]?) fun (x13 : Int) =>
 ogrd ((ile 0 x13)) (
 ogrd ((ilt x13 (((a0.map e_SBII).length : Int).toNat : Int))) (
 ogrd (Nat.blt x13.toNat e8.2.length) (
 some (.inl (((IntKind.i64.wrap (e8.1 + (1 : Int))), (e8.2.set x13.toNat true))))))))
 ) (
 some (.inr (e8.2)))
 ) (((0 : Int), (List.replicate ((a0.map e_SBII).length : Int).toNat false)))
 ) fun (r2 : (List Bool)) =>
 oloop (τ := (List (Int × Int)) × (List Bool)) (ρ := (List (ByteArray × Bool × Int × Int)) × (List (ByteArray × Int × Int × Int × Bool × Bool)) × (List (Int × Int)) × Int × Int) (fun e18 =>
 obndS (
 oloop (τ := Int) (ρ := (Unit) ⊕ (((List (Int × Int)) × (List Bool)) ⊕ ((List (ByteArray × Bool × Int × Int)) × (List (ByteArray × Int × Int × Int × Bool × Bool)) × (List (Int × Int)) × Int × Int))) (fun e25 =>
 oite ((ilt e25 ((a1.map e_SIIIBB).length : Int))) (
 ogrd ((ile 0 e25)) (
 obnd (a1[e25.toNat]?) fun (x30 : ByteArray × Int × Int × Int × Bool × Bool) =>
 oite x30.2.2.2.2.2 (
 ogrd ((ile 0 x30.2.1)) (
 ogrd ((ilt x30.2.1 (((a0.map e_SBII).length : Int).toNat : Int))) (
 obnd (e18.2[x30.2.1.toNat]?) fun (x34 : Bool) =>
 ogrd ((ile 0 x30.2.2.1)) (
 ogrd ((ilt x30.2.2.1 (((a0.map e_SBII).length : Int).toNat : Int))) (
 obnd (e18.2[x30.2.2.1.toNat]?) fun (x39 : Bool) =>
 oite ((!(x34 == x39))) (
 oinr (
 oite ((ilt e25 (0 : Int))) (
 ogrd (Nat.beq ((a0.map e_SBII).length : Int).toNat e18.2.length) (
 obnd (f528 e18.2 false) fun (y46 : Bool) =>
 obnd (f492 (!y46) (14 : Int)) fun (y48 : Int) =>
 some (.inr (.inr ((a0, a1, e18.1, (-1 : Int), y48)))))
 ) (
 obnd (a1[e25.toNat]?) fun (x51 : ByteArray × Int × Int × Int × Bool × Bool) =>
 obnd (
 ogrd ((ile 0 x51.2.2.1)) (
 ogrd ((ilt x51.2.2.1 (((a0.map e_SBII).length : Int).toNat : Int))) (
 obnd (e18.2[x51.2.2.1.toNat]?) fun (x58 : Bool) =>
 oite x58 (
 some x51.2.1
 ) (
 some x51.2.2.1)))
 ) fun (r52 : Int) =>
 ogrd ((ile 0 r52)) (
 ogrd ((ilt r52 (((a0.map e_SBII).length : Int).toNat : Int))) (
 ogrd (Nat.blt r52.toNat e18.2.length) (
 ogrd (fits 16 (e18.1.length + ([(e25, r52)] : List (Int × Int)).length)) (
 some (.inr (.inl (((e18.1 ++ ([(e25, r52)] : List (Int × Int))), (e18.2.set r52.toNat true)))))))))))
 ) (
 some (.inl (IntKind.i64.wrap (e25 + (1 : Int)))))))))
 ) (
 some (.inl (IntKind.i64.wrap (e25 + (1 : Int))))))
 ) (
 some (.inr (.inl ())))
 ) (0 : Int)
 ) fun (_ : Unit) =>
 ogrd (Nat.beq ((a0.map e_SBII).length : Int).toNat e18.2.length) (
 obnd (f528 e18.2 false) fun (y69 : Bool) =>
 obnd (f492 (!y69) (14 : Int)) fun (y71 : Int) =>
 some (.inr ((a0, a1, e18.1, (-1 : Int), y71))))
 ) (([] : List (Int × Int)), r2))
theorem c521 [LO]  {a0 : List (ByteArray × Bool × Int × Int)} {a1 : List (ByteArray × Int × Int × Int × Bool × Bool)} {x : (List (ByteArray × Bool × Int × Int)) × (List (ByteArray × Int × Int × Int × Bool × Bool)) × (List (Int × Int)) × Int × Int} (H : f521 a0 a1 = some x) : ICalls E 521 [(.agg ⟨[(VS 4 (a0.map e_SBII)), (VS 6 (a1.map e_SIIIBB))]⟩)] AHeap.none fun v _ => v = (.tuple ⟨[(.agg ⟨[(VS 4 (x.1.map e_SBII)), (VS 6 (x.2.1.map e_SIIIBB)), (VS 2 (x.2.2.1.map e_II)), (.int .i64 x.2.2.2.1)]⟩), (.int .i64 x.2.2.2.2)]⟩) := by
 refine ICalls.frz ?_;refine icalls_fn (pfnw ?_); unfold f521 at H;(conv=>whnf);refine pwa ?_;(conv=>whnf);refine pwa ?_;(conv=>whnf);refine pwa ?_;(conv=>whnf);obtain ⟨g1, H⟩ := ogrd_some H;refine mk_o (f := eB) (x := false) rfl g1 ?_;(conv=>whnf);obtain ⟨r2, h3, H⟩ := obnd_some H;refine pw_join (ρ := (List Bool)) (fun e => ⟨[(1, (.pointer (some ⟨0, 0, none⟩))), (2, (.pointer (some ⟨1, 0, none⟩))), (4, (.pointer (some ⟨2, 0, none⟩))), (5, (.pointer (some ⟨4, 0, none⟩)))], ⟨5, [(4, .rw [(.slice (some ⟨3, 0, none⟩) ((a0.map e_SBII).length : Int).toNat 1)]), (3, .rw (e.map eB)), (2, .rw [(VS 4 (a0.map e_SBII)), (VS 6 (a1.map e_SIIIBB)), (.slice none 0 0), (.int .i64 (-1))]), (1, .rw [(.slice none 0 0), (.slice none 0 0), (.slice none 0 0), (.int .i64 0)]), (0, .rw [(VS 4 (a0.map e_SBII)), (VS 6 (a1.map e_SIIIBB))])], false⟩⟩) r2 ?_ ?_
 · refine pwa ?_;(conv=>whnf);obtain ⟨y6, h7, h3⟩ := obnd_some h3;refine (c507 h7).go ?_;(conv=>whnf);refine pw_block ?_;refine pw_loop (τ := Int × (List Bool)) (fun e => ⟨[(1, (.pointer (some ⟨0, 0, none⟩))), (2, (.pointer (some ⟨1, 0, none⟩))), (4, (.pointer (some ⟨2, 0, none⟩))), (5, (.pointer (some ⟨4, 0, none⟩))), (19, (VS 1 (y6.map eI))), (20, (.int .i64 ((y6.map eI).length : Int))), (21, (.int .i64 e.1))], ⟨5, [(4, .rw [(.slice (some ⟨3, 0, none⟩) ((a0.map e_SBII).length : Int).toNat 1)]), (3, .rw (e.2.map eB)), (2, .rw [(VS 4 (a0.map e_SBII)), (VS 6 (a1.map e_SIIIBB)), (.slice none 0 0), (.int .i64 (-1))]), (1, .rw [(.slice none 0 0), (.slice none 0 0), (.slice none 0 0), (.int .i64 0)]), (0, .rw [(VS 4 (a0.map e_SBII)), (VS 6 (a1.map e_SIIIBB))])], false⟩⟩) h3 ?_ (fun _ => nl rfl) ?_
   · exact .sub' (nl rfl) (.cons rfl (.cons rfl (.cons rfl (.cons rfl (.cons rfl (.cons rfl (.cons rfl .nil)))))))
   · intro e8 x9 h10;refine pwa ?_;(conv=>whnf);refine pw_seq ?_;refine pw_cond ?_;(conv=>whnf);refine pbr_oite h10 (fun g11 h10 => ?_) (fun g11 h10 => ?_)
     · (conv=>whnf);refine pw_skip ?_;(conv=>whnf);refine pw_seq ?_;refine pw_block ?_;refine pwa ?_;(conv=>whnf);refine pbr_ogrd h10 (fun g12 h10 => ?_);(conv=>whnf);refine nth_o (l := y6) h10 (fun x13 _ h10 => ?_);(conv=>whnf);refine pw_ops ?_;refine po_all ?_;(conv=>whnf);refine pbr_ogrd h10 (fun g14 h10 => ?_);(conv=>whnf);refine pbr_ogrd h10 (fun g15 h10 => ?_);(conv=>whnf);obtain ⟨g16, h10⟩ := ogrd_some h10;refine set_a (l := e8.2) (f := eB) (x := true) g16 rfl ?_;(conv=>whnf);refine pw_ops ?_;refine po_all ?_;(conv=>whnf);cases h10;refine ⟨_, rfl, ?_⟩;exact .sub' (nl rfl) (.cons rfl (.cons rfl (.cons rfl (.cons rfl (.cons rfl (.cons rfl (.cons rfl .nil)))))))
     · (conv=>whnf);refine pw_exit ?_;(conv=>whnf);cases h10;refine ⟨_, rfl, ?_⟩; rintro rfl;(conv=>whnf);exact ⟨by (repeat refine .cons rfl ?_);exact .nil,rfl⟩
 · refine pw_block ?_;refine pw_loop (τ := (List (Int × Int)) × (List Bool)) (fun e => ⟨[(1, (.pointer (some ⟨0, 0, none⟩))), (2, (.pointer (some ⟨1, 0, none⟩))), (4, (.pointer (some ⟨2, 0, none⟩))), (5, (.pointer (some ⟨4, 0, none⟩)))], ⟨6, [(5, .tail (e.1.map e_II).length 2), (4, .rw [(.slice (some ⟨3, 0, none⟩) ((a0.map e_SBII).length : Int).toNat 1)]), (3, .rw (e.2.map eB)), (2, .rw [(VS 4 (a0.map e_SBII)), (VS 6 (a1.map e_SIIIBB)), (VT 2 (e.1.map e_II) 5), (.int .i64 (-1))]), (1, .rw [(.slice none 0 0), (.slice none 0 0), (.slice none 0 0), (.int .i64 0)]), (0, .rw [(VS 4 (a0.map e_SBII)), (VS 6 (a1.map e_SIIIBB))])], false⟩⟩) H ?_ (fun _ => nl rfl) ?_
   · exact ((Recast.sub' (nl rfl) (.cons rfl (.cons rfl (.cons rfl (.cons rfl .nil)))) : Recast _ _ ⟨[(1, (.pointer (some ⟨0, 0, none⟩))), (2, (.pointer (some ⟨1, 0, none⟩))), (4, (.pointer (some ⟨2, 0, none⟩))), (5, (.pointer (some ⟨4, 0, none⟩)))], ⟨5, [(4, .rw [(.slice (some ⟨3, 0, none⟩) ((a0.map e_SBII).length : Int).toNat 1)]), (3, .rw (r2.map eB)), (2, .rw [(VS 4 (a0.map e_SBII)), (VS 6 (a1.map e_SIIIBB)), (.slice none 0 0), (.int .i64 (-1))]), (1, .rw [(.slice none 0 0), (.slice none 0 0), (.slice none 0 0), (.int .i64 0)]), (0, .rw [(VS 4 (a0.map e_SBII)), (VS 6 (a1.map e_SIIIBB))])], false⟩⟩).trans (Recast.nilM 2 2 (nl rfl) rfl (nl rfl) rfl (.same (.same (.turn (.same .nil)))) rfl))
   · intro e18 x19 h20;refine pw_block ?_;refine pwa ?_;(conv=>whnf);refine pcalls_in ?_;(conv=>whnf);refine pwa ?_;(conv=>whnf);obtain ⟨r21, h22, h23, h24⟩ := obndS_some h20;refine pw_joinS (ρ := Unit) (fun e => ⟨[], ⟨6, [(5, .tail (e18.1.map e_II).length 2), (4, .rw [(.slice (some ⟨3, 0, none⟩) ((a0.map e_SBII).length : Int).toNat 1)]), (3, .rw (e18.2.map eB)), (2, .rw [(VS 4 (a0.map e_SBII)), (VS 6 (a1.map e_SIIIBB)), (VT 2 (e18.1.map e_II) 5), (.int .i64 (-1))]), (1, .rw [(.slice none 0 0), (.slice none 0 0), (.slice none 0 0), (.int .i64 0)]), (0, .rw [(VS 4 (a0.map e_SBII)), (VS 6 (a1.map e_SIIIBB))])], false⟩⟩) r21 ?_ ?_
     · refine pwa ?_;(conv=>whnf);refine pw_block ?_;refine pw_loop (τ := Int) (fun e => ⟨[(0, (VS 6 (a1.map e_SIIIBB))), (1, (.func (.func (E.id 527)) ⟨[]⟩ ⟨[(.pointer (some ⟨4, 0, none⟩))]⟩)), (7, (.int .i64 ((a1.map e_SIIIBB).length : Int))), (8, (.int .i64 e))], ⟨6, [(5, .tail (e18.1.map e_II).length 2), (4, .rw [(.slice (some ⟨3, 0, none⟩) ((a0.map e_SBII).length : Int).toNat 1)]), (3, .rw (e18.2.map eB)), (2, .rw [(VS 4 (a0.map e_SBII)), (VS 6 (a1.map e_SIIIBB)), (VT 2 (e18.1.map e_II) 5), (.int .i64 (-1))]), (1, .rw [(.slice none 0 0), (.slice none 0 0), (.slice none 0 0), (.int .i64 0)]), (0, .rw [(VS 4 (a0.map e_SBII)), (VS 6 (a1.map e_SIIIBB))])], false⟩⟩) h22 ?_ (fun _ => nl rfl) ?_
       · exact .sub' (nl rfl) (.cons rfl (.cons rfl (.cons rfl (.cons rfl .nil))))
       · intro e25 x26 h27;refine pwa ?_;(conv=>whnf);refine pw_seq ?_;refine pw_cond ?_;(conv=>whnf);refine pbr_oite h27 (fun g28 h27 => ?_) (fun g28 h27 => ?_)
         · (conv=>whnf);refine pw_skip ?_;(conv=>whnf);refine pw_seq ?_;refine pw_block ?_;refine pwa ?_;(conv=>whnf);refine pwa ?_;(conv=>whnf);refine pbr_ogrd h27 (fun g29 h27 => ?_);(conv=>whnf);refine nth_o (l := a1) h27 (fun x30 _ h27 => ?_);(conv=>whnf);refine pcallv_in ?_;(conv=>whnf);refine pwa ?_;(conv=>whnf);refine pw_sd ?_;(conv=>whnf);refine pbr_oite h27 (fun g31 h27 => ?_) (fun g31 h27 => ?_)
           · (conv=>whnf);(iterate 3 refine pbr_t g31 ?_;(conv=>whnf));refine pbr_ogrd h27 (fun g32 h27 => ?_);(conv=>whnf);refine pbr_ogrd h27 (fun g33 h27 => ?_);(conv=>whnf);refine pbr_t g31 ?_;(conv=>whnf);refine nth_a (l := e18.2) (f := eB) h27 (fun x34 h35 h27 => ?_);(conv=>whnf);(iterate 4 refine pbr_t g31 ?_;(conv=>whnf));refine pbr_ogrd h27 (fun g37 h27 => ?_);(conv=>whnf);refine pbr_ogrd h27 (fun g38 h27 => ?_);(conv=>whnf);refine pbr_t g31 ?_;(conv=>whnf);refine nth_a (l := e18.2) (f := eB) h27 (fun x39 h40 h27 => ?_)
             (conv=>whnf);refine pbr_t g31 ?_;(conv=>whnf);refine pbr_t g31 ?_;(conv=>whnf);refine pw_ret ?_;(conv=>whnf);refine pw_cond ?_;(conv=>whnf);refine pbr_oite h27 (fun g42 h27 => ?_) (fun g42 h27 => ?_)
             · (conv=>whnf);refine pwa ?_;(conv=>whnf);refine pw_ret ?_;(conv=>whnf);obtain ⟨w65, rfl, h43⟩ := oinr_some h27;refine ⟨_, rfl, ?_⟩; rintro rfl;(conv=>whnf);refine pw_seq ?_;refine pwa ?_;(conv=>whnf);refine pw_cond ?_;(conv=>whnf);refine pbr_oite h43 (fun g44 h43 => ?_) (fun g44 h43 => ?_)
               · (conv=>whnf);refine pw_sd ?_;(conv=>whnf);refine ⟨?_, trivial⟩;(conv=>whnf);obtain ⟨g45, h43⟩ := ogrd_some h43;obtain ⟨y46, h47, h43⟩ := obnd_some h43;refine ICalls.goD (c528 h47) (.cons (.slm rfl g45 (fun _ => rfl)) (.cons .cl .nil)) rfl ?_;(conv=>whnf);refine ⟨by trivial,?_⟩;(conv=>whnf);refine ⟨?_, trivial⟩;(conv=>whnf);obtain ⟨y48, h49, h43⟩ := obnd_some h43;refine (c492 h49).go ?_;(conv=>whnf);refine ⟨by trivial,?_⟩;(conv=>whnf);refine ⟨?_, trivial⟩;(conv=>whnf);refine ⟨by trivial,?_⟩
                 (conv=>whnf);refine pw_ret ?_;(conv=>whnf);cases h43;obtain rfl := h24 _ rfl;refine ⟨_, rfl, ?_⟩; rintro rfl;(conv=>whnf); show ∃ D, Fz _ D 0 (.tuple ⟨[(.agg ⟨[(VS 4 _), (VS 6 _), (VT 2 _ 5), (.int .i64 (-1))]⟩), (.int .i64 y48)]⟩) _;exact ⟨fun _ => false, .tuplel (.cons (.aggl (.cons .cl (.cons .cl (.cons .vtc (.cons .cl (.nil)))))) (.cons .cl (.nil)))⟩
               · (conv=>whnf);refine pw_skip ?_;(conv=>whnf);refine pwa ?_;(conv=>whnf);refine pbr_t g29 ?_;(conv=>whnf);refine nth_o (l := a1) h43 (fun x51 _ h43 => ?_);(conv=>whnf);refine pwa ?_;(conv=>whnf);obtain ⟨r52, h53, h43⟩ := obnd_some h43;refine pw_join (ρ := Int) (fun e => ⟨[(1, (.pointer (some ⟨0, 0, none⟩))), (2, (.pointer (some ⟨1, 0, none⟩))), (4, (.pointer (some ⟨2, 0, none⟩))), (5, (.pointer (some ⟨4, 0, none⟩))), (8, (.int .i64 e25)), (10, (.int .i64 e))], ⟨8, [(7, .rw [(.string x51.1), (.int .i64 x51.2.1), (.int .i64 x51.2.2.1), (.int .i64 x51.2.2.2.1), (.bool x51.2.2.2.2.1), (.bool x51.2.2.2.2.2)]), (6, .rw [(.string x30.1), (.int .i64 x30.2.1), (.int .i64 x30.2.2.1), (.int .i64 x30.2.2.2.1), (.bool x30.2.2.2.2.1), (.bool x30.2.2.2.2.2)]), (5, .tail (e18.1.map e_II).length 2), (4, .rw [(.slice (some ⟨3, 0, none⟩) ((a0.map e_SBII).length : Int).toNat 1)]), (3, .rw (e18.2.map eB)), (2, .rw [(VS 4 (a0.map e_SBII)), (VS 6 (a1.map e_SIIIBB)), (VT 2 (e18.1.map e_II) 5), (.int .i64 (-1))]), (1, .rw [(.slice none 0 0), (.slice none 0 0), (.slice none 0 0), (.int .i64 0)]), (0, .rw [(VS 4 (a0.map e_SBII)), (VS 6 (a1.map e_SIIIBB))])], false⟩⟩) r52 ?_ ?_
                 · refine pwa ?_;(conv=>whnf);refine pbr_ogrd h53 (fun g56 h53 => ?_);(conv=>whnf);refine pbr_ogrd h53 (fun g57 h53 => ?_);(conv=>whnf);refine nth_a (l := e18.2) (f := eB) h53 (fun x58 h59 h53 => ?_);(conv=>whnf);refine pw_cond ?_;(conv=>whnf);refine pbr_oite h53 (fun g61 h53 => ?_) (fun g61 h53 => ?_)
                   · (conv=>whnf);refine pw_ops ?_;refine po_all ?_;(conv=>whnf);cases h53;exact ⟨by (repeat refine .cons rfl ?_);exact .nil,rfl⟩
                   · (conv=>whnf);refine pw_skip ?_;(conv=>whnf);cases h53;exact ⟨by (repeat refine .cons rfl ?_);exact .nil,rfl⟩
                 · refine pwa ?_;(conv=>whnf);refine pbr_ogrd h43 (fun g62 h43 => ?_);(conv=>whnf);refine pbr_ogrd h43 (fun g63 h43 => ?_);(conv=>whnf);obtain ⟨g64, h43⟩ := ogrd_some h43;refine set_a (l := e18.2) (f := eB) (x := true) g64 rfl ?_;(conv=>whnf);refine pw_ops ?_;refine po_all ?_;(conv=>whnf);refine app_o (l := e18.1) (m := ([(e25, r52)] : List (Int × Int))) (f := e_II) h43 (by rfl) (by rfl) (by rfl) (fun h43 => ?_);(conv=>whnf);cases h43;obtain rfl := h24 _ rfl;refine ⟨_, rfl, ?_⟩;exact Recast.fz (fun _ => false) (nl rfl) (.cons (.same rfl rfl (OBnd.tail (nl rfl))) (.cons (.same rfl rfl (OBnd.rwl (nl rfl) rfl (.cons (.slice (nl rfl)) .nil))) (.cons (.same rfl rfl (OBnd.rwc (nl rfl) (oneL_map fun _ => rfl))) (.cons (.same rfl rfl (OBnd.rwl (nl rfl) rfl (.cons .cl (.cons .cl (.cons (.vt (nl rfl)) (.cons .cl .nil)))))) (.cons (.same rfl rfl (OBnd.rwl (nl rfl) rfl (.cons .cl (.cons .cl (.cons .cl (.cons .cl .nil)))))) (.cons (.same rfl rfl (OBnd.rwl (nl rfl) rfl (.cons .cl (.cons .cl .nil)))) .nil)))))) (.cons rfl (.same _ (.ptr (nl rfl))) (.cons rfl (.same _ (.ptr (nl rfl))) (.cons rfl (.same _ (.ptr (nl rfl))) (.cons rfl (.same _ (.ptr (nl rfl))) .nil))))
             · (conv=>whnf);refine pw_skip ?_;(conv=>whnf);refine pw_ops ?_;refine po_all ?_;(conv=>whnf);cases h27;refine ⟨_, rfl, ?_⟩;exact Recast.fz (fun _ => false) (nl rfl) (.cons (.same rfl rfl (OBnd.tail (nl rfl))) (.cons (.same rfl rfl (OBnd.rwl (nl rfl) rfl (.cons (.slice (nl rfl)) .nil))) (.cons (.same rfl rfl (OBnd.rwc (nl rfl) (oneL_map fun _ => rfl))) (.cons (.same rfl rfl (OBnd.rwl (nl rfl) rfl (.cons .cl (.cons .cl (.cons (.vt (nl rfl)) (.cons .cl .nil)))))) (.cons (.same rfl rfl (OBnd.rwl (nl rfl) rfl (.cons .cl (.cons .cl (.cons .cl (.cons .cl .nil)))))) (.cons (.same rfl rfl (OBnd.rwl (nl rfl) rfl (.cons .cl (.cons .cl .nil)))) .nil)))))) (.cons rfl (.same _ .cl) (.cons rfl (.same _ (.funcl .nil (.cons (.ptr (nl rfl)) .nil))) (.cons rfl (.same _ .cl) (.cons rfl (.same _ .cl) .nil))))
           · (conv=>whnf);(iterate 11 refine pbr_f g31 ?_;(conv=>whnf));refine pw_ret ?_;(conv=>whnf);refine pw_cond ?_;(conv=>whnf);refine pw_skip ?_;(conv=>whnf);refine pw_ops ?_;refine po_all ?_;(conv=>whnf);cases h27;refine ⟨_, rfl, ?_⟩;exact Recast.fz (fun _ => false) (nl rfl) (.cons (.same rfl rfl (OBnd.tail (nl rfl))) (.cons (.same rfl rfl (OBnd.rwl (nl rfl) rfl (.cons (.slice (nl rfl)) .nil))) (.cons (.same rfl rfl (OBnd.rwc (nl rfl) (oneL_map fun _ => rfl))) (.cons (.same rfl rfl (OBnd.rwl (nl rfl) rfl (.cons .cl (.cons .cl (.cons (.vt (nl rfl)) (.cons .cl .nil)))))) (.cons (.same rfl rfl (OBnd.rwl (nl rfl) rfl (.cons .cl (.cons .cl (.cons .cl (.cons .cl .nil)))))) (.cons (.same rfl rfl (OBnd.rwl (nl rfl) rfl (.cons .cl (.cons .cl .nil)))) .nil)))))) (.cons rfl (.same _ .cl) (.cons rfl (.same _ (.funcl .nil (.cons (.ptr (nl rfl)) .nil))) (.cons rfl (.same _ .cl) (.cons rfl (.same _ .cl) .nil))))
         · (conv=>whnf);refine pw_exit ?_;(conv=>whnf);cases h27;refine ⟨_, rfl, ?_⟩; rintro rfl;(conv=>whnf);exact ⟨_, rfl, ⟨.nil, rfl⟩⟩
     · intro r67 hr; have h20 := h23 _ hr;refine pwa ?_;(conv=>whnf);refine pw_ret ?_;(conv=>whnf);refine pw_seq ?_;refine pwa ?_;(conv=>whnf);refine pw_cond ?_;(conv=>whnf);refine pw_sd ?_;(conv=>whnf);refine ⟨?_, trivial⟩;(conv=>whnf);obtain ⟨g68, h20⟩ := ogrd_some h20;obtain ⟨y69, h70, h20⟩ := obnd_some h20;refine ICalls.goD (c528 h70) (.cons (.slm rfl g68 (fun _ => rfl)) (.cons .cl .nil)) rfl ?_;(conv=>whnf);refine ⟨by trivial,?_⟩;(conv=>whnf);refine ⟨?_, trivial⟩;(conv=>whnf);obtain ⟨y71, h72, h20⟩ := obnd_some h20;refine (c492 h72).go ?_
       (conv=>whnf);refine ⟨by trivial,?_⟩;(conv=>whnf);refine ⟨?_, trivial⟩;(conv=>whnf);refine ⟨by trivial,?_⟩;(conv=>whnf);refine pw_ret ?_;(conv=>whnf);cases h20;refine ⟨_, rfl, ?_⟩; rintro rfl;(conv=>whnf); show ∃ D, Fz _ D 0 (.tuple ⟨[(.agg ⟨[(VS 4 _), (VS 6 _), (VT 2 _ 5), (.int .i64 (-1))]⟩), (.int .i64 y71)]⟩) _;exact ⟨fun _ => false, .tuplel (.cons (.aggl (.cons .cl (.cons .cl (.cons .vtc (.cons .cl (.nil)))))) (.cons .cl (.nil)))⟩
noncomputable def f529 [LO] (p0 : Int → Int → Option Bool) (a0 : List (Int × Int)) : Option Int :=
 obndS (
 oloop (τ := Int) (ρ := (Unit) ⊕ Int) (fun e5 =>
 oite ((ilt e5 ((a0.map e_II).length : Int))) (
 ogrd ((ile 0 e5)) (
 obnd (a0[e5.toNat]?) fun (x10 : Int × Int) =>
 obnd (p0 x10.1 x10.2) fun (y11 : Bool) =>
 oite y11 (
 some (.inr (.inr (e5)))
 ) (
 some (.inl (IntKind.i64.wrap (e5 + (1 : Int))))))
 ) (
 some (.inr (.inl ())))
 ) (0 : Int)
 ) fun (_ : Unit) =>
 some (-1 : Int)
theorem c529 [LO] {p0 : Int → Int → Option Bool} {a0 : List (Int × Int)} {g0 : Value} [Cl g0] (hp0 : ∀ y0 y1 y, p0 y0 y1 = some y → ICallV E g0 [(.agg ⟨[(.int .i64 y0), (.int .i64 y1)]⟩)] AHeap.none fun v _ => v = (.bool y)) {x : Int} (H : f529 p0 a0 = some x) : ICalls E 529 [(VS 2 (a0.map e_II)), g0] AHeap.none fun v _ => v = (.int .i64 x) := by
 refine icalls_fn (pfnw ?_); unfold f529 at H;(conv=>whnf);refine pwa ?_;(conv=>whnf);obtain ⟨r1, h2, h3, h4⟩ := obndS_some H;refine pw_joinS (ρ := Unit) (fun e => ⟨[], ⟨0, [], false⟩⟩) r1 ?_ ?_
 · refine pwa ?_;(conv=>whnf);refine pw_block ?_;refine pw_loop (τ := Int) (fun e => ⟨[(0, (VS 2 (a0.map e_II))), (1, g0), (7, (.int .i64 ((a0.map e_II).length : Int))), (8, (.int .i64 e))], ⟨0, [], false⟩⟩) h2 ?_ (fun _ => nl rfl) ?_
   · exact .sub' (nl rfl) (.cons rfl (.cons rfl (.cons rfl (.cons rfl .nil))))
   · intro e5 x6 h7;refine pwa ?_;(conv=>whnf);refine pw_seq ?_;refine pw_cond ?_;(conv=>whnf);refine pbr_oite h7 (fun g8 h7 => ?_) (fun g8 h7 => ?_)
     · (conv=>whnf);refine pw_skip ?_;(conv=>whnf);refine pw_seq ?_;refine pw_block ?_;refine pwa ?_;(conv=>whnf);refine pwa ?_;(conv=>whnf);refine pbr_ogrd h7 (fun g9 h7 => ?_);(conv=>whnf);refine nth_o (l := a0) h7 (fun x10 _ h7 => ?_);(conv=>whnf);obtain ⟨y11, h12, h7⟩ := obnd_some h7;refine ICallV.go (hp0 _ _ _ h12) ?_;(conv=>whnf);refine pw_cond ?_;(conv=>whnf);refine pbr_oite h7 (fun g13 h7 => ?_) (fun g13 h7 => ?_)
       · (conv=>whnf);refine pwa ?_;(conv=>whnf);refine pw_ret ?_;(conv=>whnf);cases h7;refine ⟨_, rfl, ?_⟩; rintro rfl;(conv=>whnf);obtain rfl := h4 _ rfl; rfl
       · (conv=>whnf);refine pw_skip ?_;(conv=>whnf);refine pw_ops ?_;refine po_all ?_;(conv=>whnf);cases h7;refine ⟨_, rfl, ?_⟩;exact .sub' (nl rfl) (.cons rfl (.cons rfl (.cons rfl (.cons rfl .nil))))
     · (conv=>whnf);refine pw_exit ?_;(conv=>whnf);cases h7;refine ⟨_, rfl, ?_⟩; rintro rfl;(conv=>whnf);exact ⟨_, rfl, ⟨.nil, rfl⟩⟩
 · intro r16 hr; have H := h3 _ hr;refine pwa ?_;(conv=>whnf);refine pw_ret ?_;(conv=>whnf);cases H; rfl
noncomputable def f522 [LO] (p0 : Int → Int → Option Bool) (a0 : List (Int × Int)) : Option Bool :=
 obnd (f529 p0 a0) fun (y1 : Int) =>
 some (ile (0 : Int) y1)
theorem c522 [LO] {p0 : Int → Int → Option Bool} {a0 : List (Int × Int)} {g0 : Value} [Cl g0] (hp0 : ∀ y0 y1 y, p0 y0 y1 = some y → ICallV E g0 [(.agg ⟨[(.int .i64 y0), (.int .i64 y1)]⟩)] AHeap.none fun v _ => v = (.bool y)) {x : Bool} (H : f522 p0 a0 = some x) : ICalls E 522 [(VS 2 (a0.map e_II)), g0] AHeap.none fun v _ => v = (.bool x) := by
 refine icalls_fn (pfnw ?_); unfold f522 at H;(conv=>whnf);refine pwa ?_;(conv=>whnf);refine pwa ?_;(conv=>whnf);obtain ⟨y1, h2, H⟩ := obnd_some H;refine (c529 hp0 h2).go ?_;(conv=>whnf);refine pw_ret ?_;(conv=>whnf);cases H; rfl
noncomputable def f523  (a0 : Int) (_ : Int) (a2 : Int) : Option Bool :=
 some (ieq a0 a2)
theorem c523  {a0 : Int} {a1 : Int} {a2 : Int} {x : Bool} (H : f523 a0 a1 a2 = some x) : ICallV E (.func (.func (E.id 523)) ⟨[]⟩ ⟨[(VP (.agg ⟨[(.int .i64 a2)]⟩) 0)]⟩) [(.agg ⟨[(.int .i64 a0), (.int .i64 a1)]⟩)] AHeap.none fun v _ => v = (.bool x) := by
 refine icallv_fn (pfnw ?_); unfold f523 at H;(conv=>whnf);refine pwa ?_;(conv=>whnf);refine pwa ?_;(conv=>whnf);refine pw_ret ?_;(conv=>whnf);cases H; rfl
noncomputable def f518 [LO]  (a0 : List (ByteArray × Bool × Int × Int)) (a1 : List (ByteArray × Int × Int × Int × Bool × Bool)) : Option ((List (ByteArray × Bool × Int × Int)) × (List (ByteArray × Int × Int × Int × Bool × Bool)) × (List (Int × Int)) × Int × Int) :=
 obnd (f521 a0 a1) fun (y1 : (List (ByteArray × Bool × Int × Int)) × (List (ByteArray × Int × Int × Int × Bool × Bool)) × (List (Int × Int)) × Int × Int) =>
 oite ((!(ieq y1.2.2.2.2 (0 : Int)))) (
 some (y1.1, y1.2.1, y1.2.2.1, y1.2.2.2.1, y1.2.2.2.2)
 ) (
 obndS (
 oloop (τ := Int × Int) (ρ := (Int) ⊕ ((List (ByteArray × Bool × Int × Int)) × (List (ByteArray × Int × Int × Int × Bool × Bool)) × (List (Int × Int)) × Int × Int)) (fun e8 =>
 oite ((ilt e8.1 ((a1.map e_SIIIBB).length : Int))) (
 ogrd ((ile 0 e8.1)) (
 obnd (a1[e8.1.toNat]?) fun (x13 : ByteArray × Int × Int × Int × Bool × Bool) =>
 obnd (f522 (fun (z0 : Int) (z1 : Int) => f523 z0 z1 e8.1) y1.2.2.1) fun (y14 : Bool) =>
 oite (!x13.2.2.2.2.2) (
 some (.inl ((IntKind.i64.wrap (e8.1 + (1 : Int))), e8.2))
 ) (
 oite y14 (
 some (.inl ((IntKind.i64.wrap (e8.1 + (1 : Int))), e8.2))
 ) (
 oite ((ile (0 : Int) e8.2)) (
 some (.inr (.inr ((y1.1, y1.2.1, y1.2.2.1, e8.2, (8 : Int)))))
 ) (
 some (.inl ((IntKind.i64.wrap (e8.1 + (1 : Int))), e8.1))))))
 ) (
 some (.inr (.inl e8.2)))
 ) ((0 : Int), y1.2.2.2.1)
 ) fun (r21 : Int) =>
 some (y1.1, y1.2.1, y1.2.2.1, r21, (0 : Int)))
theorem c518 [LO]  {a0 : List (ByteArray × Bool × Int × Int)} {a1 : List (ByteArray × Int × Int × Int × Bool × Bool)} {x : (List (ByteArray × Bool × Int × Int)) × (List (ByteArray × Int × Int × Int × Bool × Bool)) × (List (Int × Int)) × Int × Int} (H : f518 a0 a1 = some x) : ICalls E 518 [(.agg ⟨[(VS 4 (a0.map e_SBII)), (VS 6 (a1.map e_SIIIBB))]⟩)] AHeap.none fun v _ => v = (.tuple ⟨[(.agg ⟨[(VS 4 (x.1.map e_SBII)), (VS 6 (x.2.1.map e_SIIIBB)), (VS 2 (x.2.2.1.map e_II)), (.int .i64 x.2.2.2.1)]⟩), (.int .i64 x.2.2.2.2)]⟩) := by
 refine ICalls.frz ?_;refine icalls_fn (pfnw ?_); unfold f518 at H;(conv=>whnf);refine pwa ?_;(conv=>whnf);refine pwa ?_;(conv=>whnf);obtain ⟨y1, h2, H⟩ := obnd_some H;refine (c521 h2).go ?_;(conv=>whnf);refine pw_seq ?_;refine pwa ?_;(conv=>whnf);refine pw_cond ?_;(conv=>whnf);refine pbr_oite H (fun g3 H => ?_) (fun g3 H => ?_)
 · (conv=>whnf);refine pwa ?_;(conv=>whnf);refine pw_ret ?_;(conv=>whnf);cases H; show ∃ D, Fz _ D 0 (.tuple ⟨[(.agg ⟨[(VS 4 _), (VS 6 _), (VS 2 _), (.int .i64 y1.2.2.2.1)]⟩), (.int .i64 y1.2.2.2.2)]⟩) _;exact ⟨fun _ => false, .tuplel (.cons .cl (.cons .cl (.nil)))⟩
 · (conv=>whnf);refine pw_skip ?_;(conv=>whnf);obtain ⟨r4, h5, h6, h7⟩ := obndS_some H;refine pw_joinS (ρ := Int) (fun e => ⟨[(2, (.pointer (some ⟨1, 0, none⟩))), (4, (.pointer (some ⟨2, 0, none⟩)))], ⟨3, [(2, .rw [(VS 4 (y1.1.map e_SBII)), (VS 6 (y1.2.1.map e_SIIIBB)), (VS 2 (y1.2.2.1.map e_II)), (.int .i64 e)]), (1, .rw [(.slice none 0 0), (.slice none 0 0), (.slice none 0 0), (.int .i64 0)]), (0, .rw [(VS 4 (a0.map e_SBII)), (VS 6 (a1.map e_SIIIBB))])], false⟩⟩) r4 ?_ ?_
   · refine pwa ?_;(conv=>whnf);refine pw_block ?_;refine pw_loop (τ := Int × Int) (fun e => ⟨[(2, (.pointer (some ⟨1, 0, none⟩))), (4, (.pointer (some ⟨2, 0, none⟩))), (20, (VS 6 (a1.map e_SIIIBB))), (21, (.int .i64 ((a1.map e_SIIIBB).length : Int))), (22, (.int .i64 e.1))], ⟨3, [(2, .rw [(VS 4 (y1.1.map e_SBII)), (VS 6 (y1.2.1.map e_SIIIBB)), (VS 2 (y1.2.2.1.map e_II)), (.int .i64 e.2)]), (1, .rw [(.slice none 0 0), (.slice none 0 0), (.slice none 0 0), (.int .i64 0)]), (0, .rw [(VS 4 (a0.map e_SBII)), (VS 6 (a1.map e_SIIIBB))])], false⟩⟩) h5 ?_ (fun _ => nl rfl) ?_
     · exact .sub' (nl rfl) (.cons rfl (.cons rfl (.cons rfl (.cons rfl (.cons rfl .nil)))))
     · intro e8 x9 h10;refine pwa ?_;(conv=>whnf);refine pw_seq ?_;refine pw_cond ?_;(conv=>whnf);refine pbr_oite h10 (fun g11 h10 => ?_) (fun g11 h10 => ?_)
       · (conv=>whnf);refine pw_skip ?_;(conv=>whnf);refine pw_seq ?_;refine pw_block ?_;refine pwa ?_;(conv=>whnf);refine pbr_ogrd h10 (fun g12 h10 => ?_);(conv=>whnf);refine nth_o (l := a1) h10 (fun x13 _ h10 => ?_);(conv=>whnf);refine pwa ?_;(conv=>whnf);obtain ⟨y14, h15, h10⟩ := obnd_some h10;refine ICalls.goD (c522 (fun _ _ _ h => (c523 h)) h15) (.cons .cl (.cons (.func .nil (.cons (.ptr rfl (by intro v hv; simp only [List.mem_cons, List.not_mem_nil, or_false] at hv; rcases hv with rfl <;> rfl)) .nil)) .nil)) rfl ?_;(conv=>whnf);refine pw_seq ?_;refine pw_so ?_;refine po_all ?_
         (conv=>whnf);refine pbr_oite h10 (fun g16 h10 => ?_) (fun g16 h10 => ?_)
         · (conv=>whnf);refine pbr_t g16 ?_;(conv=>whnf);refine pw_cond ?_;(conv=>whnf);refine pw_exit ?_;(conv=>whnf);refine pw_ops ?_;refine po_all ?_;(conv=>whnf);cases h10;refine ⟨_, rfl, ?_⟩;refine Recast.trunc (nl rfl) ?_ ?_
           · repeat (first | exact .nil | refine .cons rfl (by first | exact OBnd.rwc (nl rfl) rfl | exact OBnd.tail (nl rfl) | trivial | exact OBnd.loop (nl rfl) .nil) ?_)
           · repeat (first | exact .nil | refine .cons rfl (by first | exact Bnd.ptr (nl rfl) | exact Bnd.vt (nl rfl) | exact Bnd.cl | exact Bnd.map (nl rfl)) ?_)
         · (conv=>whnf);refine pbr_f g16 ?_;(conv=>whnf);refine pw_cond ?_;(conv=>whnf);refine pbr_oite h10 (fun g17 h10 => ?_) (fun g17 h10 => ?_)
           · (conv=>whnf);refine pw_exit ?_;(conv=>whnf);refine pw_ops ?_;refine po_all ?_;(conv=>whnf);cases h10;refine ⟨_, rfl, ?_⟩;refine Recast.trunc (nl rfl) ?_ ?_
             · repeat (first | exact .nil | refine .cons rfl (by first | exact OBnd.rwc (nl rfl) rfl | exact OBnd.tail (nl rfl) | trivial | exact OBnd.loop (nl rfl) .nil) ?_)
             · repeat (first | exact .nil | refine .cons rfl (by first | exact Bnd.ptr (nl rfl) | exact Bnd.vt (nl rfl) | exact Bnd.cl | exact Bnd.map (nl rfl)) ?_)
           · (conv=>whnf);refine pw_skip ?_;(conv=>whnf);refine pw_seq ?_;refine pwa ?_;(conv=>whnf);refine pw_cond ?_;(conv=>whnf);refine pbr_oite h10 (fun g18 h10 => ?_) (fun g18 h10 => ?_)
             · (conv=>whnf);refine pwa ?_;(conv=>whnf);refine pw_ret ?_;(conv=>whnf);cases h10;refine ⟨_, rfl, ?_⟩; rintro rfl;(conv=>whnf);obtain rfl := h7 _ rfl; show ∃ D, Fz _ D 0 (.tuple ⟨[(.agg ⟨[(VS 4 _), (VS 6 _), (VS 2 _), (.int .i64 e8.2)]⟩), (.int .i64 8)]⟩) _;exact ⟨fun _ => false, .tuplel (.cons .cl (.cons .cl (.nil)))⟩
             · (conv=>whnf);refine pw_skip ?_;(conv=>whnf);refine pw_ops ?_;refine po_all ?_;(conv=>whnf);refine pw_ops ?_;refine po_all ?_;(conv=>whnf);cases h10;refine ⟨_, rfl, ?_⟩;refine Recast.trunc (nl rfl) ?_ ?_
               · repeat (first | exact .nil | refine .cons rfl (by first | exact OBnd.rwc (nl rfl) rfl | exact OBnd.tail (nl rfl) | trivial | exact OBnd.loop (nl rfl) .nil) ?_)
               · repeat (first | exact .nil | refine .cons rfl (by first | exact Bnd.ptr (nl rfl) | exact Bnd.vt (nl rfl) | exact Bnd.cl | exact Bnd.map (nl rfl)) ?_)
       · (conv=>whnf);refine pw_exit ?_;(conv=>whnf);cases h10;refine ⟨_, rfl, ?_⟩; rintro rfl;(conv=>whnf);exact ⟨_, rfl, ⟨(.cons rfl (.cons rfl .nil)), rfl⟩⟩
   · intro r21 hr; have H := h6 _ hr;refine pwa ?_;(conv=>whnf);refine pw_ret ?_;(conv=>whnf);cases H; show ∃ D, Fz _ D 0 (.tuple ⟨[(.agg ⟨[(VS 4 _), (VS 6 _), (VS 2 _), (.int .i64 r21)]⟩), (.int .i64 0)]⟩) _;exact ⟨fun _ => false, .tuplel (.cons .cl (.cons .cl (.nil)))⟩
noncomputable def f509 [LO]  (a0 : List (ByteArray × Bool × Int × Int)) (a1 : List (ByteArray × Int × Int × Int × Bool × Bool)) : Option ((List (ByteArray × Bool × Int × Int)) × (List (ByteArray × Int × Int × Int × Bool × Bool)) × (List (Int × Int)) × Int × Int) :=
 obnd (f488 a0 a1) fun (y1 : (List (ByteArray × Bool × Int × Int)) × (List (ByteArray × Int × Int × Int × Bool × Bool)) × Int) =>
 oite ((!(ieq y1.2.2 (0 : Int)))) (
 some (([] : List (ByteArray × Bool × Int × Int)), ([] : List (ByteArray × Int × Int × Int × Bool × Bool)), ([] : List (Int × Int)), (0 : Int), y1.2.2)
 ) (
 obnd (f518 y1.1 y1.2.1) fun (y4 : (List (ByteArray × Bool × Int × Int)) × (List (ByteArray × Int × Int × Int × Bool × Bool)) × (List (Int × Int)) × Int × Int) =>
 some (y4.1, y4.2.1, y4.2.2.1, y4.2.2.2.1, y4.2.2.2.2))
theorem c509 [LO]  {a0 : List (ByteArray × Bool × Int × Int)} {a1 : List (ByteArray × Int × Int × Int × Bool × Bool)} {x : (List (ByteArray × Bool × Int × Int)) × (List (ByteArray × Int × Int × Int × Bool × Bool)) × (List (Int × Int)) × Int × Int} (H : f509 a0 a1 = some x) : ICalls E 509 [(.agg ⟨[(VS 4 (a0.map e_SBII)), (VS 6 (a1.map e_SIIIBB))]⟩)] AHeap.none fun v _ => v = (.tuple ⟨[(.agg ⟨[(VS 4 (x.1.map e_SBII)), (VS 6 (x.2.1.map e_SIIIBB)), (VS 2 (x.2.2.1.map e_II)), (.int .i64 x.2.2.2.1)]⟩), (.int .i64 x.2.2.2.2)]⟩) := by
 refine ICalls.frz ?_;refine icalls_fn (pfnw ?_); unfold f509 at H;(conv=>whnf);refine pwa ?_;(conv=>whnf);refine pwa ?_;(conv=>whnf);obtain ⟨y1, h2, H⟩ := obnd_some H;refine (c488 h2).go ?_;(conv=>whnf);refine pw_seq ?_;refine pwa ?_;(conv=>whnf);refine pw_cond ?_;(conv=>whnf);refine pbr_oite H (fun g3 H => ?_) (fun g3 H => ?_)
 · (conv=>whnf);refine pwa ?_;(conv=>whnf);refine pw_ret ?_;(conv=>whnf);cases H; show ∃ D, Fz _ D 0 (.tuple ⟨[(.agg ⟨[(.slice none 0 0), (.slice none 0 0), (.slice none 0 0), (.int .i64 0)]⟩), (.int .i64 y1.2.2)]⟩) _;exact ⟨fun _ => false, .tuplel (.cons (.aggl (.cons (.nil _) (.cons (.nil _) (.cons (.nil _) (.cons .cl (.nil)))))) (.cons .cl (.nil)))⟩
 · (conv=>whnf);refine pw_skip ?_;(conv=>whnf);refine pwa ?_;(conv=>whnf);obtain ⟨y4, h5, H⟩ := obnd_some H;refine (c518 h5).go ?_;(conv=>whnf);refine pw_ret ?_;(conv=>whnf);cases H; show ∃ D, Fz _ D 0 (.tuple ⟨[(.agg ⟨[(VS 4 _), (VS 6 _), (VS 2 _), (.int .i64 y4.2.2.2.1)]⟩), (.int .i64 y4.2.2.2.2)]⟩) _;exact ⟨fun _ => false, .tuplel (.cons .cl (.cons .cl (.nil)))⟩
noncomputable def f525  (_ : List (ByteArray × Bool × Int × Int)) (a1 : List (ByteArray × Int × Int × Int × Bool × Bool)) (_ : List (Int × Int)) (_ : Int) (a4 : Int) (a5 : Int) : Option (Int × Int) :=
 ogrd ((ile 0 a4)) (
 obnd (a1[a4.toNat]?) fun (x2 : ByteArray × Int × Int × Int × Bool × Bool) =>
 oite ((!(ieq x2.2.2.1 a5))) (
 some (x2.2.2.1, (-1 : Int))
 ) (
 some (x2.2.1, (1 : Int))))
theorem c525  {a0 : List (ByteArray × Bool × Int × Int)} {a1 : List (ByteArray × Int × Int × Int × Bool × Bool)} {a2 : List (Int × Int)} {a3 : Int} {a4 : Int} {a5 : Int} {x : Int × Int} (H : f525 a0 a1 a2 a3 a4 a5 = some x) : ICalls E 525 [(.agg ⟨[(VS 4 (a0.map e_SBII)), (VS 6 (a1.map e_SIIIBB)), (VS 2 (a2.map e_II)), (.int .i64 a3)]⟩), (.agg ⟨[(.int .i64 a4), (.int .i64 a5)]⟩)] AHeap.none fun v _ => v = (.tuple ⟨[(.int .i64 x.1), (.int .i64 x.2)]⟩) := by
 refine icalls_fn (pfnw ?_); unfold f525 at H;(conv=>whnf);refine pwa ?_;(conv=>whnf);refine pwa ?_;(conv=>whnf);refine pbr_ogrd H (fun g1 H => ?_);(conv=>whnf);refine nth_o (l := a1) H (fun x2 _ H => ?_);(conv=>whnf);refine pwa ?_;(conv=>whnf);refine pw_cond ?_;(conv=>whnf);refine pbr_oite H (fun g3 H => ?_) (fun g3 H => ?_)
 · (conv=>whnf);refine pwa ?_;(conv=>whnf);refine pw_ret ?_;(conv=>whnf);cases H; rfl
 · (conv=>whnf);refine pwa ?_;(conv=>whnf);refine pw_ret ?_;(conv=>whnf);cases H; rfl
noncomputable def f520  (a0 : Int) (a1 : Int) : Option Int :=
 some (IntKind.i64.wrap ((IntKind.i64.wrap (a0 * a1)) * (imax a1 (IntKind.i64.wrap (0 - a1)))))
theorem c520  {a0 : Int} {a1 : Int} {x : Int} (H : f520 a0 a1 = some x) : ICalls E 520 [(.int .i64 a0), (.int .i64 a1)] AHeap.none fun v _ => v = (.int .i64 x) := by
 refine icalls_fn (pfnw ?_); unfold f520 at H;(conv=>whnf);refine pwa ?_;(conv=>whnf);refine pwa ?_;(conv=>whnf);refine pw_ret ?_;(conv=>whnf);cases H; rfl
noncomputable def f519 [LO]  (a0 : List (ByteArray × Bool × Int × Int)) (a1 : List (ByteArray × Int × Int × Int × Bool × Bool)) (a2 : List (Int × Int)) (a3 : Int) (a4 : Int) : Option ((List Int) × (List Int)) :=
 obnd (
 ogrd (mfits 8 ((a1.map e_SIIIBB).length : Int) ((a1.map e_SIIIBB).length : Int)) (
 ogrd (mfits 8 ((a0.map e_SBII).length : Int) ((a0.map e_SBII).length : Int)) (
 some ()))
 ) fun (_ : Unit) =>
 ogrd (mfits 8 ((a0.map e_SBII).length : Int) ((a0.map e_SBII).length : Int)) (
 obnd (
 oloop (τ := Int × (List Int) × (List Int)) (ρ := (List Int) × (List Int)) (fun e12 =>
 oite ((ilt e12.1 ((a0.map e_SBII).length : Int))) (
 ogrd ((ile 0 e12.1)) (
 obnd (a0[e12.1.toNat]?) fun (x17 : ByteArray × Bool × Int × Int) =>
 ogrd ((ilt e12.1 (((a0.map e_SBII).length : Int).toNat : Int))) (
 ogrd (Nat.blt e12.1.toNat e12.2.2.length) (
 ogrd (Nat.blt e12.1.toNat e12.2.1.length) (
 some (.inl (((IntKind.i64.wrap (e12.1 + (1 : Int))), (e12.2.1.set e12.1.toNat (IntKind.i64.wrap ((1000 : Int) * x17.2.2.1))), (e12.2.2.set e12.1.toNat x17.2.2.2))))))))
 ) (
 some (.inr ((e12.2.1, e12.2.2))))
 ) (((0 : Int), (List.replicate ((a0.map e_SBII).length : Int).toNat (0 : Int)), (List.replicate ((a0.map e_SBII).length : Int).toNat (0 : Int))))
 ) fun (r8 : (List Int) × (List Int)) =>
 obnd (
 oite ((ile (0 : Int) a3)) (
 ogrd ((ile 0 a3)) (
 obnd (a1[a3.toNat]?) fun (x28 : ByteArray × Int × Int × Int × Bool × Bool) =>
 ogrd ((ilt a3 (((a1.map e_SIIIBB).length : Int).toNat : Int))) (
 ogrd (Nat.blt a3.toNat (List.replicate ((a1.map e_SIIIBB).length : Int).toNat (0 : Int)).length) (
 ogrd ((ile 0 x28.2.1)) (
 ogrd ((ilt x28.2.1 (((a0.map e_SBII).length : Int).toNat : Int))) (
 obnd (r8.2[x28.2.1.toNat]?) fun (x33 : Int) =>
 ogrd (Nat.blt x28.2.1.toNat r8.2.length) (
 ogrd ((ile 0 x28.2.2.1)) (
 ogrd ((ilt x28.2.2.1 (((a0.map e_SBII).length : Int).toNat : Int))) (
 obnd ((r8.2.set x28.2.1.toNat (IntKind.i64.wrap (x33 + a4)))[x28.2.2.1.toNat]?) fun (x39 : Int) =>
 ogrd (Nat.blt x28.2.2.1.toNat (r8.2.set x28.2.1.toNat (IntKind.i64.wrap (x33 + a4))).length) (
 some (((List.replicate ((a1.map e_SIIIBB).length : Int).toNat (0 : Int)).set a3.toNat a4), ((r8.2.set x28.2.1.toNat (IntKind.i64.wrap (x33 + a4))).set x28.2.2.1.toNat (IntKind.i64.wrap (x39 - a4)))))))))))))
 ) (
 some ((List.replicate ((a1.map e_SIIIBB).length : Int).toNat (0 : Int)), r8.2))
 ) fun (r22 : (List Int) × (List Int)) =>
 obnd (
 oloop (τ := Int × (List Int) × (List Int)) (ρ := (List Int) × (List Int)) (fun e47 =>
 oite ((ile (0 : Int) e47.1)) (
 ogrd ((ile 0 e47.1)) (
 obnd (a2[e47.1.toNat]?) fun (x52 : Int × Int) =>
 obnd (f525 a0 a1 a2 a3 x52.1 x52.2) fun (y53 : Int × Int) =>
 ogrd ((ile 0 x52.2)) (
 ogrd ((ilt x52.2 (((a0.map e_SBII).length : Int).toNat : Int))) (
 obnd (e47.2.2[x52.2.toNat]?) fun (x57 : Int) =>
 ogrd ((ile 0 x52.1)) (
 ogrd ((ilt x52.1 (((a1.map e_SIIIBB).length : Int).toNat : Int))) (
 ogrd (Nat.blt x52.1.toNat e47.2.1.length) (
 ogrd ((ile 0 y53.1)) (
 ogrd ((ilt y53.1 (((a0.map e_SBII).length : Int).toNat : Int))) (
 obnd (e47.2.2[y53.1.toNat]?) fun (x65 : Int) =>
 obnd (e47.2.2[x52.2.toNat]?) fun (x68 : Int) =>
 ogrd (Nat.blt y53.1.toNat e47.2.2.length) (
 some (.inl (((IntKind.i64.wrap (e47.1 - (1 : Int))), (e47.2.1.set x52.1.toNat (IntKind.i64.wrap (y53.2 * x57))), (e47.2.2.set y53.1.toNat (IntKind.i64.wrap (x65 + x68)))))))))))))))
 ) (
 some (.inr ((e47.2.1, e47.2.2))))
 ) (((IntKind.i64.wrap (((a2.map e_II).length : Int) - (1 : Int))), r22.1, r22.2))
 ) fun (r43 : (List Int) × (List Int)) =>
 obnd (
 oloop (τ := Int × (List Int)) (ρ := (List Int)) (fun e77 =>
 oite ((ilt e77.1 ((a2.map e_II).length : Int))) (
 ogrd ((ile 0 e77.1)) (
 obnd (a2[e77.1.toNat]?) fun (x82 : Int × Int) =>
 obnd (f525 a0 a1 a2 a3 x82.1 x82.2) fun (y83 : Int × Int) =>
 ogrd ((ile 0 y83.1)) (
 ogrd ((ilt y83.1 (((a0.map e_SBII).length : Int).toNat : Int))) (
 obnd (e77.2[y83.1.toNat]?) fun (x87 : Int) =>
 ogrd ((ile 0 x82.1)) (
 obnd (a1[x82.1.toNat]?) fun (x91 : ByteArray × Int × Int × Int × Bool × Bool) =>
 ogrd ((ilt x82.1 (((a1.map e_SIIIBB).length : Int).toNat : Int))) (
 obnd (r43.1[x82.1.toNat]?) fun (x93 : Int) =>
 obnd (f520 x91.2.2.2.1 (IntKind.i64.wrap (y83.2 * x93))) fun (y96 : Int) =>
 ogrd ((ile 0 x82.2)) (
 ogrd ((ilt x82.2 (((a0.map e_SBII).length : Int).toNat : Int))) (
 ogrd (Nat.blt x82.2.toNat e77.2.length) (
 some (.inl (((IntKind.i64.wrap (e77.1 + (1 : Int))), (e77.2.set x82.2.toNat (IntKind.i64.wrap (x87 - y96))))))))))))))
 ) (
 some (.inr (e77.2)))
 ) ((0 : Int), r8.1)
 ) fun (r73 : (List Int)) =>
 ogrd (Nat.beq ((a1.map e_SIIIBB).length : Int).toNat r43.1.length) (
 ogrd (Nat.beq ((a0.map e_SBII).length : Int).toNat r73.length) (
 some (r43.1, r73))))
theorem c519 [LO]  {a0 : List (ByteArray × Bool × Int × Int)} {a1 : List (ByteArray × Int × Int × Int × Bool × Bool)} {a2 : List (Int × Int)} {a3 : Int} {a4 : Int} {x : (List Int) × (List Int)} (H : f519 a0 a1 a2 a3 a4 = some x) : ICalls E 519 [(.agg ⟨[(VS 4 (a0.map e_SBII)), (VS 6 (a1.map e_SIIIBB)), (VS 2 (a2.map e_II)), (.int .i64 a3)]⟩), (.int .i64 a4)] AHeap.none fun v _ => v = (.agg ⟨[(VS 1 (x.1.map eI)), (VS 1 (x.2.map eI))]⟩) := by
  refine ICalls.frz ?_;refine icalls_fn (pfnw ?_); unfold f519 at H;(conv=>whnf);refine pwa ?_;(conv=>whnf);obtain ⟨r1, h2, H⟩ := obnd_some H;refine pw_joinR (ρ := Unit) (fun e => ⟨[(1, (.int .i64 a4)), (2, (.pointer (some ⟨0, 0, none⟩))), (4, (.pointer (some ⟨1, 0, none⟩))), (5, (.pointer (some ⟨4, 0, none⟩)))], ⟨5, [(4, .rw [(.slice (some ⟨2, 0, none⟩) ((a1.map e_SIIIBB).length : Int).toNat 1), (.slice (some ⟨3, 0, none⟩) ((a0.map e_SBII).length : Int).toNat 1)]), (3, .rw ((List.replicate ((a0.map e_SBII).length : Int).toNat (0 : Int)).map eI)), (2, .rw ((List.replicate ((a1.map e_SIIIBB).length : Int).toNat (0 : Int)).map eI)), (1, .rw [(.slice none 0 0), (.slice none 0 0)]), (0, .rw [(VS 4 (a0.map e_SBII)), (VS 6 (a1.map e_SIIIBB)), (VS 2 (a2.map e_II)), (.int .i64 a3)])], false⟩⟩) r1 ?_ ?_
  · refine pw_draw ?_;(conv=>whnf);refine ⟨?_, ?_⟩
    · (conv=>whnf);obtain ⟨g5, h2⟩ := ogrd_some h2;refine mk_o (f := eI) (x := (0 : Int)) rfl g5 ?_;(conv=>whnf);refine ⟨by trivial,?_⟩;(conv=>whnf);refine ⟨?_, ?_⟩
      · (conv=>whnf);obtain ⟨g6, h2⟩ := ogrd_some h2;refine mk_o (f := eI) (x := (0 : Int)) rfl g6 ?_;(conv=>whnf);refine ⟨by trivial,?_⟩;(conv=>whnf);refine ⟨?_, trivial⟩;(conv=>whnf);refine ⟨by trivial,?_⟩;(conv=>whnf);refine ⟨?_, trivial⟩;(conv=>whnf);refine ⟨by trivial,?_⟩;(conv=>whnf);cases h2;exact Recast.fz (fun _ => false) (nl rfl) (.cons (.same rfl rfl (OBnd.rwl (nl rfl) rfl (.cons (.slice (nl rfl)) (.cons (.slice (nl rfl)) .nil)))) (.cons (.same rfl rfl (OBnd.rwc (nl rfl) (oneL_map fun _ => rfl))) (.cons (.same rfl rfl (OBnd.rwc (nl rfl) (oneL_map fun _ => rfl))) (.cons (.same rfl rfl (OBnd.rwl (nl rfl) rfl (.cons .cl (.cons .cl .nil)))) (.cons (.same rfl rfl (OBnd.rwl (nl rfl) rfl (.cons .cl (.cons .cl (.cons .cl (.cons .cl .nil)))))) .nil))))) (.cons rfl (.same _ .cl) (.cons rfl (.same _ (.ptr (nl rfl))) (.cons rfl (.same _ (.ptr (nl rfl))) (.cons rfl (.same _ (.ptr (nl rfl))) .nil))))
      · obtain ⟨g6, h2⟩ := ogrd_some h2;(conv=>whnf);refine ⟨?_, trivial⟩;(conv=>whnf);refine ⟨by trivial,?_⟩;(conv=>whnf);refine ⟨?_, trivial⟩;(conv=>whnf);refine mk_o (f := eI) (x := (0 : Int)) rfl g6 ?_;(conv=>whnf);refine ⟨by trivial,?_⟩;(conv=>whnf);refine ⟨?_, trivial⟩;(conv=>whnf);refine ⟨by trivial,?_⟩;(conv=>whnf);cases h2;refine Recast.trans (s' := ⟨[(1, (.int .i64 a4)), (2, (.pointer (some ⟨0, 0, none⟩))), (4, (.pointer (some ⟨1, 0, none⟩))), (5, (.pointer (some ⟨5, 0, none⟩)))], ⟨6, [(4, .rw ((List.replicate ((a0.map e_SBII).length : Int).toNat (0 : Int)).map eI)), (5, .rw [(.slice (some ⟨2, 0, none⟩) ((a1.map e_SIIIBB).length : Int).toNat 1), (.slice (some ⟨4, 0, none⟩) ((a0.map e_SBII).length : Int).toNat 1)]), (2, .rw ((List.replicate ((a1.map e_SIIIBB).length : Int).toNat (0 : Int)).map eI)), (1, .rw [(.slice none 0 0), (.slice none 0 0)]), (0, .rw [(VS 4 (a0.map e_SBII)), (VS 6 (a1.map e_SIIIBB)), (VS 2 (a2.map e_II)), (.int .i64 a3)])], false⟩⟩) (Recast.mv 3 5 (nl rfl) (nl rfl) (.cons (.rw (nn rfl) (nn rfl) (nl rfl) rfl (oneL_map fun _ => rfl) .cl) (.cons (.mv rfl (nl rfl) rfl rfl (.of (.cons (.slice (nn rfl) (nl rfl)) (.cons (.slice (nn rfl) (nl rfl)) .nil)))) (.cons (.rw (nn rfl) (nn rfl) (nl rfl) rfl (oneL_map fun _ => rfl) .cl) (.cons (.rw (nn rfl) (nn rfl) (nl rfl) rfl rfl (.of (.cons .cl (.cons .cl .nil)))) (.cons (.rw (nn rfl) (nn rfl) (nl rfl) rfl rfl (.of (.cons .cl (.cons .cl (.cons .cl (.cons .cl .nil)))))) .nil))))) (.cons rfl .cl (.cons rfl (.ptr (nn rfl) (nl rfl)) (.cons rfl (.ptr (nn rfl) (nl rfl)) (.cons rfl (.ptrm (nl rfl)) .nil))))) ?_
        refine Recast.trans (s' := ⟨[(1, (.int .i64 a4)), (2, (.pointer (some ⟨0, 0, none⟩))), (4, (.pointer (some ⟨1, 0, none⟩))), (5, (.pointer (some ⟨5, 0, none⟩)))], ⟨7, [(6, .rw ((List.replicate ((a0.map e_SBII).length : Int).toNat (0 : Int)).map eI)), (5, .rw [(.slice (some ⟨2, 0, none⟩) ((a1.map e_SIIIBB).length : Int).toNat 1), (.slice (some ⟨6, 0, none⟩) ((a0.map e_SBII).length : Int).toNat 1)]), (2, .rw ((List.replicate ((a1.map e_SIIIBB).length : Int).toNat (0 : Int)).map eI)), (1, .rw [(.slice none 0 0), (.slice none 0 0)]), (0, .rw [(VS 4 (a0.map e_SBII)), (VS 6 (a1.map e_SIIIBB)), (VS 2 (a2.map e_II)), (.int .i64 a3)])], false⟩⟩) (Recast.mv 4 6 (nl rfl) (nl rfl) (.cons (.mv rfl (nl rfl) rfl (oneL_map fun _ => rfl) .cl) (.cons (.rw (nn rfl) (nn rfl) (nl rfl) rfl rfl (.of (.cons (.slice (nn rfl) (nl rfl)) (.cons (.slicem (nl rfl)) .nil)))) (.cons (.rw (nn rfl) (nn rfl) (nl rfl) rfl (oneL_map fun _ => rfl) .cl) (.cons (.rw (nn rfl) (nn rfl) (nl rfl) rfl rfl (.of (.cons .cl (.cons .cl .nil)))) (.cons (.rw (nn rfl) (nn rfl) (nl rfl) rfl rfl (.of (.cons .cl (.cons .cl (.cons .cl (.cons .cl .nil)))))) .nil))))) (.cons rfl .cl (.cons rfl (.ptr (nn rfl) (nl rfl)) (.cons rfl (.ptr (nn rfl) (nl rfl)) (.cons rfl (.ptr (nn rfl) (nl rfl)) .nil))))) ?_
        refine Recast.trans (s' := ⟨[(1, (.int .i64 a4)), (2, (.pointer (some ⟨0, 0, none⟩))), (4, (.pointer (some ⟨1, 0, none⟩))), (5, (.pointer (some ⟨4, 0, none⟩)))], ⟨7, [(6, .rw ((List.replicate ((a0.map e_SBII).length : Int).toNat (0 : Int)).map eI)), (4, .rw [(.slice (some ⟨2, 0, none⟩) ((a1.map e_SIIIBB).length : Int).toNat 1), (.slice (some ⟨6, 0, none⟩) ((a0.map e_SBII).length : Int).toNat 1)]), (2, .rw ((List.replicate ((a1.map e_SIIIBB).length : Int).toNat (0 : Int)).map eI)), (1, .rw [(.slice none 0 0), (.slice none 0 0)]), (0, .rw [(VS 4 (a0.map e_SBII)), (VS 6 (a1.map e_SIIIBB)), (VS 2 (a2.map e_II)), (.int .i64 a3)])], false⟩⟩) (Recast.mv 5 4 (nl rfl) (nl rfl) (.cons (.rw (nn rfl) (nn rfl) (nl rfl) rfl (oneL_map fun _ => rfl) .cl) (.cons (.mv rfl (nl rfl) rfl rfl (.of (.cons (.slice (nn rfl) (nl rfl)) (.cons (.slice (nn rfl) (nl rfl)) .nil)))) (.cons (.rw (nn rfl) (nn rfl) (nl rfl) rfl (oneL_map fun _ => rfl) .cl) (.cons (.rw (nn rfl) (nn rfl) (nl rfl) rfl rfl (.of (.cons .cl (.cons .cl .nil)))) (.cons (.rw (nn rfl) (nn rfl) (nl rfl) rfl rfl (.of (.cons .cl (.cons .cl (.cons .cl (.cons .cl .nil)))))) .nil))))) (.cons rfl .cl (.cons rfl (.ptr (nn rfl) (nl rfl)) (.cons rfl (.ptr (nn rfl) (nl rfl)) (.cons rfl (.ptrm (nl rfl)) .nil))))) ?_
        exact (Recast.mv 6 3 (nl rfl) (nl rfl) (.cons (.rw (nn rfl) (nn rfl) (nl rfl) rfl rfl (.of (.cons (.slice (nn rfl) (nl rfl)) (.cons (.slicem (nl rfl)) .nil)))) (.cons (.mv rfl (nl rfl) rfl (oneL_map fun _ => rfl) .cl) (.cons (.rw (nn rfl) (nn rfl) (nl rfl) rfl (oneL_map fun _ => rfl) .cl) (.cons (.rw (nn rfl) (nn rfl) (nl rfl) rfl rfl (.of (.cons .cl (.cons .cl .nil)))) (.cons (.rw (nn rfl) (nn rfl) (nl rfl) rfl rfl (.of (.cons .cl (.cons .cl (.cons .cl (.cons .cl .nil)))))) .nil))))) (.cons rfl .cl (.cons rfl (.ptr (nn rfl) (nl rfl)) (.cons rfl (.ptr (nn rfl) (nl rfl)) (.cons rfl (.ptr (nn rfl) (nl rfl)) .nil)))))
    · obtain ⟨g5, h2⟩ := ogrd_some h2;obtain ⟨g6, h2⟩ := ogrd_some h2;(conv=>whnf);refine ⟨?_, ?_⟩
      · (conv=>whnf);refine mk_o (f := eI) (x := (0 : Int)) rfl g6 ?_;(conv=>whnf);refine ⟨by trivial,?_⟩;(conv=>whnf);refine ⟨?_, ?_⟩
        · (conv=>whnf);refine mk_o (f := eI) (x := (0 : Int)) rfl g5 ?_;(conv=>whnf);refine ⟨by trivial,?_⟩;(conv=>whnf);refine ⟨?_, trivial⟩;(conv=>whnf);refine ⟨by trivial,?_⟩;(conv=>whnf);refine ⟨?_, trivial⟩;(conv=>whnf);refine ⟨by trivial,?_⟩;(conv=>whnf);cases h2;refine Recast.trans (s' := ⟨[(1, (.int .i64 a4)), (2, (.pointer (some ⟨0, 0, none⟩))), (4, (.pointer (some ⟨1, 0, none⟩))), (5, (.pointer (some ⟨4, 0, none⟩)))], ⟨6, [(4, .rw [(.slice (some ⟨3, 0, none⟩) ((a1.map e_SIIIBB).length : Int).toNat 1), (.slice (some ⟨5, 0, none⟩) ((a0.map e_SBII).length : Int).toNat 1)]), (3, .rw ((List.replicate ((a1.map e_SIIIBB).length : Int).toNat (0 : Int)).map eI)), (5, .rw ((List.replicate ((a0.map e_SBII).length : Int).toNat (0 : Int)).map eI)), (1, .rw [(.slice none 0 0), (.slice none 0 0)]), (0, .rw [(VS 4 (a0.map e_SBII)), (VS 6 (a1.map e_SIIIBB)), (VS 2 (a2.map e_II)), (.int .i64 a3)])], false⟩⟩) (Recast.mv 2 5 (nl rfl) (nl rfl) (.cons (.rw (nn rfl) (nn rfl) (nl rfl) rfl rfl (.of (.cons (.slice (nn rfl) (nl rfl)) (.cons (.slicem (nl rfl)) .nil)))) (.cons (.rw (nn rfl) (nn rfl) (nl rfl) rfl (oneL_map fun _ => rfl) .cl) (.cons (.mv rfl (nl rfl) rfl (oneL_map fun _ => rfl) .cl) (.cons (.rw (nn rfl) (nn rfl) (nl rfl) rfl rfl (.of (.cons .cl (.cons .cl .nil)))) (.cons (.rw (nn rfl) (nn rfl) (nl rfl) rfl rfl (.of (.cons .cl (.cons .cl (.cons .cl (.cons .cl .nil)))))) .nil))))) (.cons rfl .cl (.cons rfl (.ptr (nn rfl) (nl rfl)) (.cons rfl (.ptr (nn rfl) (nl rfl)) (.cons rfl (.ptr (nn rfl) (nl rfl)) .nil))))) ?_
          refine Recast.trans (s' := ⟨[(1, (.int .i64 a4)), (2, (.pointer (some ⟨0, 0, none⟩))), (4, (.pointer (some ⟨1, 0, none⟩))), (5, (.pointer (some ⟨4, 0, none⟩)))], ⟨7, [(4, .rw [(.slice (some ⟨6, 0, none⟩) ((a1.map e_SIIIBB).length : Int).toNat 1), (.slice (some ⟨5, 0, none⟩) ((a0.map e_SBII).length : Int).toNat 1)]), (6, .rw ((List.replicate ((a1.map e_SIIIBB).length : Int).toNat (0 : Int)).map eI)), (5, .rw ((List.replicate ((a0.map e_SBII).length : Int).toNat (0 : Int)).map eI)), (1, .rw [(.slice none 0 0), (.slice none 0 0)]), (0, .rw [(VS 4 (a0.map e_SBII)), (VS 6 (a1.map e_SIIIBB)), (VS 2 (a2.map e_II)), (.int .i64 a3)])], false⟩⟩) (Recast.mv 3 6 (nl rfl) (nl rfl) (.cons (.rw (nn rfl) (nn rfl) (nl rfl) rfl rfl (.of (.cons (.slicem (nl rfl)) (.cons (.slice (nn rfl) (nl rfl)) .nil)))) (.cons (.mv rfl (nl rfl) rfl (oneL_map fun _ => rfl) .cl) (.cons (.rw (nn rfl) (nn rfl) (nl rfl) rfl (oneL_map fun _ => rfl) .cl) (.cons (.rw (nn rfl) (nn rfl) (nl rfl) rfl rfl (.of (.cons .cl (.cons .cl .nil)))) (.cons (.rw (nn rfl) (nn rfl) (nl rfl) rfl rfl (.of (.cons .cl (.cons .cl (.cons .cl (.cons .cl .nil)))))) .nil))))) (.cons rfl .cl (.cons rfl (.ptr (nn rfl) (nl rfl)) (.cons rfl (.ptr (nn rfl) (nl rfl)) (.cons rfl (.ptr (nn rfl) (nl rfl)) .nil))))) ?_
          refine Recast.trans (s' := ⟨[(1, (.int .i64 a4)), (2, (.pointer (some ⟨0, 0, none⟩))), (4, (.pointer (some ⟨1, 0, none⟩))), (5, (.pointer (some ⟨4, 0, none⟩)))], ⟨7, [(4, .rw [(.slice (some ⟨6, 0, none⟩) ((a1.map e_SIIIBB).length : Int).toNat 1), (.slice (some ⟨3, 0, none⟩) ((a0.map e_SBII).length : Int).toNat 1)]), (6, .rw ((List.replicate ((a1.map e_SIIIBB).length : Int).toNat (0 : Int)).map eI)), (3, .rw ((List.replicate ((a0.map e_SBII).length : Int).toNat (0 : Int)).map eI)), (1, .rw [(.slice none 0 0), (.slice none 0 0)]), (0, .rw [(VS 4 (a0.map e_SBII)), (VS 6 (a1.map e_SIIIBB)), (VS 2 (a2.map e_II)), (.int .i64 a3)])], false⟩⟩) (Recast.mv 5 3 (nl rfl) (nl rfl) (.cons (.rw (nn rfl) (nn rfl) (nl rfl) rfl rfl (.of (.cons (.slice (nn rfl) (nl rfl)) (.cons (.slicem (nl rfl)) .nil)))) (.cons (.rw (nn rfl) (nn rfl) (nl rfl) rfl (oneL_map fun _ => rfl) .cl) (.cons (.mv rfl (nl rfl) rfl (oneL_map fun _ => rfl) .cl) (.cons (.rw (nn rfl) (nn rfl) (nl rfl) rfl rfl (.of (.cons .cl (.cons .cl .nil)))) (.cons (.rw (nn rfl) (nn rfl) (nl rfl) rfl rfl (.of (.cons .cl (.cons .cl (.cons .cl (.cons .cl .nil)))))) .nil))))) (.cons rfl .cl (.cons rfl (.ptr (nn rfl) (nl rfl)) (.cons rfl (.ptr (nn rfl) (nl rfl)) (.cons rfl (.ptr (nn rfl) (nl rfl)) .nil))))) ?_
          exact (Recast.mv 6 2 (nl rfl) (nl rfl) (.cons (.rw (nn rfl) (nn rfl) (nl rfl) rfl rfl (.of (.cons (.slicem (nl rfl)) (.cons (.slice (nn rfl) (nl rfl)) .nil)))) (.cons (.rw (nn rfl) (nn rfl) (nl rfl) rfl (oneL_map fun _ => rfl) .cl) (.cons (.mv rfl (nl rfl) rfl (oneL_map fun _ => rfl) .cl) (.cons (.rw (nn rfl) (nn rfl) (nl rfl) rfl rfl (.of (.cons .cl (.cons .cl .nil)))) (.cons (.rw (nn rfl) (nn rfl) (nl rfl) rfl rfl (.of (.cons .cl (.cons .cl (.cons .cl (.cons .cl .nil)))))) .nil))))) (.cons rfl .cl (.cons rfl (.ptr (nn rfl) (nl rfl)) (.cons rfl (.ptr (nn rfl) (nl rfl)) (.cons rfl (.ptr (nn rfl) (nl rfl)) .nil)))))
        · (conv=>whnf);refine ⟨?_, trivial⟩;(conv=>whnf);refine ⟨by trivial,?_⟩;(conv=>whnf);refine ⟨?_, trivial⟩;(conv=>whnf);refine mk_o (f := eI) (x := (0 : Int)) rfl g5 ?_;(conv=>whnf);refine ⟨by trivial,?_⟩;(conv=>whnf);refine ⟨?_, trivial⟩;(conv=>whnf);refine ⟨by trivial,?_⟩;(conv=>whnf);cases h2;refine Recast.trans (s' := ⟨[(1, (.int .i64 a4)), (2, (.pointer (some ⟨0, 0, none⟩))), (4, (.pointer (some ⟨1, 0, none⟩))), (5, (.pointer (some ⟨3, 0, none⟩)))], ⟨6, [(4, .rw ((List.replicate ((a1.map e_SIIIBB).length : Int).toNat (0 : Int)).map eI)), (3, .rw [(.slice (some ⟨4, 0, none⟩) ((a1.map e_SIIIBB).length : Int).toNat 1), (.slice (some ⟨5, 0, none⟩) ((a0.map e_SBII).length : Int).toNat 1)]), (5, .rw ((List.replicate ((a0.map e_SBII).length : Int).toNat (0 : Int)).map eI)), (1, .rw [(.slice none 0 0), (.slice none 0 0)]), (0, .rw [(VS 4 (a0.map e_SBII)), (VS 6 (a1.map e_SIIIBB)), (VS 2 (a2.map e_II)), (.int .i64 a3)])], false⟩⟩) (Recast.mv 2 5 (nl rfl) (nl rfl) (.cons (.rw (nn rfl) (nn rfl) (nl rfl) rfl (oneL_map fun _ => rfl) .cl) (.cons (.rw (nn rfl) (nn rfl) (nl rfl) rfl rfl (.of (.cons (.slice (nn rfl) (nl rfl)) (.cons (.slicem (nl rfl)) .nil)))) (.cons (.mv rfl (nl rfl) rfl (oneL_map fun _ => rfl) .cl) (.cons (.rw (nn rfl) (nn rfl) (nl rfl) rfl rfl (.of (.cons .cl (.cons .cl .nil)))) (.cons (.rw (nn rfl) (nn rfl) (nl rfl) rfl rfl (.of (.cons .cl (.cons .cl (.cons .cl (.cons .cl .nil)))))) .nil))))) (.cons rfl .cl (.cons rfl (.ptr (nn rfl) (nl rfl)) (.cons rfl (.ptr (nn rfl) (nl rfl)) (.cons rfl (.ptr (nn rfl) (nl rfl)) .nil))))) ?_
          refine Recast.trans (s' := ⟨[(1, (.int .i64 a4)), (2, (.pointer (some ⟨0, 0, none⟩))), (4, (.pointer (some ⟨1, 0, none⟩))), (5, (.pointer (some ⟨6, 0, none⟩)))], ⟨7, [(4, .rw ((List.replicate ((a1.map e_SIIIBB).length : Int).toNat (0 : Int)).map eI)), (6, .rw [(.slice (some ⟨4, 0, none⟩) ((a1.map e_SIIIBB).length : Int).toNat 1), (.slice (some ⟨5, 0, none⟩) ((a0.map e_SBII).length : Int).toNat 1)]), (5, .rw ((List.replicate ((a0.map e_SBII).length : Int).toNat (0 : Int)).map eI)), (1, .rw [(.slice none 0 0), (.slice none 0 0)]), (0, .rw [(VS 4 (a0.map e_SBII)), (VS 6 (a1.map e_SIIIBB)), (VS 2 (a2.map e_II)), (.int .i64 a3)])], false⟩⟩) (Recast.mv 3 6 (nl rfl) (nl rfl) (.cons (.rw (nn rfl) (nn rfl) (nl rfl) rfl (oneL_map fun _ => rfl) .cl) (.cons (.mv rfl (nl rfl) rfl rfl (.of (.cons (.slice (nn rfl) (nl rfl)) (.cons (.slice (nn rfl) (nl rfl)) .nil)))) (.cons (.rw (nn rfl) (nn rfl) (nl rfl) rfl (oneL_map fun _ => rfl) .cl) (.cons (.rw (nn rfl) (nn rfl) (nl rfl) rfl rfl (.of (.cons .cl (.cons .cl .nil)))) (.cons (.rw (nn rfl) (nn rfl) (nl rfl) rfl rfl (.of (.cons .cl (.cons .cl (.cons .cl (.cons .cl .nil)))))) .nil))))) (.cons rfl .cl (.cons rfl (.ptr (nn rfl) (nl rfl)) (.cons rfl (.ptr (nn rfl) (nl rfl)) (.cons rfl (.ptrm (nl rfl)) .nil))))) ?_
          refine Recast.trans (s' := ⟨[(1, (.int .i64 a4)), (2, (.pointer (some ⟨0, 0, none⟩))), (4, (.pointer (some ⟨1, 0, none⟩))), (5, (.pointer (some ⟨6, 0, none⟩)))], ⟨8, [(7, .rw ((List.replicate ((a1.map e_SIIIBB).length : Int).toNat (0 : Int)).map eI)), (6, .rw [(.slice (some ⟨7, 0, none⟩) ((a1.map e_SIIIBB).length : Int).toNat 1), (.slice (some ⟨5, 0, none⟩) ((a0.map e_SBII).length : Int).toNat 1)]), (5, .rw ((List.replicate ((a0.map e_SBII).length : Int).toNat (0 : Int)).map eI)), (1, .rw [(.slice none 0 0), (.slice none 0 0)]), (0, .rw [(VS 4 (a0.map e_SBII)), (VS 6 (a1.map e_SIIIBB)), (VS 2 (a2.map e_II)), (.int .i64 a3)])], false⟩⟩) (Recast.mv 4 7 (nl rfl) (nl rfl) (.cons (.mv rfl (nl rfl) rfl (oneL_map fun _ => rfl) .cl) (.cons (.rw (nn rfl) (nn rfl) (nl rfl) rfl rfl (.of (.cons (.slicem (nl rfl)) (.cons (.slice (nn rfl) (nl rfl)) .nil)))) (.cons (.rw (nn rfl) (nn rfl) (nl rfl) rfl (oneL_map fun _ => rfl) .cl) (.cons (.rw (nn rfl) (nn rfl) (nl rfl) rfl rfl (.of (.cons .cl (.cons .cl .nil)))) (.cons (.rw (nn rfl) (nn rfl) (nl rfl) rfl rfl (.of (.cons .cl (.cons .cl (.cons .cl (.cons .cl .nil)))))) .nil))))) (.cons rfl .cl (.cons rfl (.ptr (nn rfl) (nl rfl)) (.cons rfl (.ptr (nn rfl) (nl rfl)) (.cons rfl (.ptr (nn rfl) (nl rfl)) .nil))))) ?_
          refine Recast.trans (s' := ⟨[(1, (.int .i64 a4)), (2, (.pointer (some ⟨0, 0, none⟩))), (4, (.pointer (some ⟨1, 0, none⟩))), (5, (.pointer (some ⟨6, 0, none⟩)))], ⟨8, [(7, .rw ((List.replicate ((a1.map e_SIIIBB).length : Int).toNat (0 : Int)).map eI)), (6, .rw [(.slice (some ⟨7, 0, none⟩) ((a1.map e_SIIIBB).length : Int).toNat 1), (.slice (some ⟨3, 0, none⟩) ((a0.map e_SBII).length : Int).toNat 1)]), (3, .rw ((List.replicate ((a0.map e_SBII).length : Int).toNat (0 : Int)).map eI)), (1, .rw [(.slice none 0 0), (.slice none 0 0)]), (0, .rw [(VS 4 (a0.map e_SBII)), (VS 6 (a1.map e_SIIIBB)), (VS 2 (a2.map e_II)), (.int .i64 a3)])], false⟩⟩) (Recast.mv 5 3 (nl rfl) (nl rfl) (.cons (.rw (nn rfl) (nn rfl) (nl rfl) rfl (oneL_map fun _ => rfl) .cl) (.cons (.rw (nn rfl) (nn rfl) (nl rfl) rfl rfl (.of (.cons (.slice (nn rfl) (nl rfl)) (.cons (.slicem (nl rfl)) .nil)))) (.cons (.mv rfl (nl rfl) rfl (oneL_map fun _ => rfl) .cl) (.cons (.rw (nn rfl) (nn rfl) (nl rfl) rfl rfl (.of (.cons .cl (.cons .cl .nil)))) (.cons (.rw (nn rfl) (nn rfl) (nl rfl) rfl rfl (.of (.cons .cl (.cons .cl (.cons .cl (.cons .cl .nil)))))) .nil))))) (.cons rfl .cl (.cons rfl (.ptr (nn rfl) (nl rfl)) (.cons rfl (.ptr (nn rfl) (nl rfl)) (.cons rfl (.ptr (nn rfl) (nl rfl)) .nil))))) ?_
          refine Recast.trans (s' := ⟨[(1, (.int .i64 a4)), (2, (.pointer (some ⟨0, 0, none⟩))), (4, (.pointer (some ⟨1, 0, none⟩))), (5, (.pointer (some ⟨4, 0, none⟩)))], ⟨8, [(7, .rw ((List.replicate ((a1.map e_SIIIBB).length : Int).toNat (0 : Int)).map eI)), (4, .rw [(.slice (some ⟨7, 0, none⟩) ((a1.map e_SIIIBB).length : Int).toNat 1), (.slice (some ⟨3, 0, none⟩) ((a0.map e_SBII).length : Int).toNat 1)]), (3, .rw ((List.replicate ((a0.map e_SBII).length : Int).toNat (0 : Int)).map eI)), (1, .rw [(.slice none 0 0), (.slice none 0 0)]), (0, .rw [(VS 4 (a0.map e_SBII)), (VS 6 (a1.map e_SIIIBB)), (VS 2 (a2.map e_II)), (.int .i64 a3)])], false⟩⟩) (Recast.mv 6 4 (nl rfl) (nl rfl) (.cons (.rw (nn rfl) (nn rfl) (nl rfl) rfl (oneL_map fun _ => rfl) .cl) (.cons (.mv rfl (nl rfl) rfl rfl (.of (.cons (.slice (nn rfl) (nl rfl)) (.cons (.slice (nn rfl) (nl rfl)) .nil)))) (.cons (.rw (nn rfl) (nn rfl) (nl rfl) rfl (oneL_map fun _ => rfl) .cl) (.cons (.rw (nn rfl) (nn rfl) (nl rfl) rfl rfl (.of (.cons .cl (.cons .cl .nil)))) (.cons (.rw (nn rfl) (nn rfl) (nl rfl) rfl rfl (.of (.cons .cl (.cons .cl (.cons .cl (.cons .cl .nil)))))) .nil))))) (.cons rfl .cl (.cons rfl (.ptr (nn rfl) (nl rfl)) (.cons rfl (.ptr (nn rfl) (nl rfl)) (.cons rfl (.ptrm (nl rfl)) .nil))))) ?_
          exact (Recast.mv 7 2 (nl rfl) (nl rfl) (.cons (.rw (nn rfl) (nn rfl) (nl rfl) rfl rfl (.of (.cons (.slicem (nl rfl)) (.cons (.slice (nn rfl) (nl rfl)) .nil)))) (.cons (.rw (nn rfl) (nn rfl) (nl rfl) rfl (oneL_map fun _ => rfl) .cl) (.cons (.mv rfl (nl rfl) rfl (oneL_map fun _ => rfl) .cl) (.cons (.rw (nn rfl) (nn rfl) (nl rfl) rfl rfl (.of (.cons .cl (.cons .cl .nil)))) (.cons (.rw (nn rfl) (nn rfl) (nl rfl) rfl rfl (.of (.cons .cl (.cons .cl (.cons .cl (.cons .cl .nil)))))) .nil))))) (.cons rfl .cl (.cons rfl (.ptr (nn rfl) (nl rfl)) (.cons rfl (.ptr (nn rfl) (nl rfl)) (.cons rfl (.ptr (nn rfl) (nl rfl)) .nil)))))
      · (conv=>whnf);refine ⟨?_, trivial⟩;(conv=>whnf);refine ⟨by trivial,?_⟩;(conv=>whnf);refine ⟨?_, ?_⟩
        · (conv=>whnf);refine mk_o (f := eI) (x := (0 : Int)) rfl g5 ?_;(conv=>whnf);refine ⟨by trivial,?_⟩;(conv=>whnf);refine ⟨?_, trivial⟩;(conv=>whnf);refine mk_o (f := eI) (x := (0 : Int)) rfl g6 ?_;(conv=>whnf);refine ⟨by trivial,?_⟩;(conv=>whnf);refine ⟨?_, trivial⟩;(conv=>whnf);refine ⟨by trivial,?_⟩;(conv=>whnf);cases h2;refine Recast.trans (s' := ⟨[(1, (.int .i64 a4)), (2, (.pointer (some ⟨0, 0, none⟩))), (4, (.pointer (some ⟨1, 0, none⟩))), (5, (.pointer (some ⟨5, 0, none⟩)))], ⟨6, [(4, .rw ((List.replicate ((a0.map e_SBII).length : Int).toNat (0 : Int)).map eI)), (3, .rw ((List.replicate ((a1.map e_SIIIBB).length : Int).toNat (0 : Int)).map eI)), (5, .rw [(.slice (some ⟨3, 0, none⟩) ((a1.map e_SIIIBB).length : Int).toNat 1), (.slice (some ⟨4, 0, none⟩) ((a0.map e_SBII).length : Int).toNat 1)]), (1, .rw [(.slice none 0 0), (.slice none 0 0)]), (0, .rw [(VS 4 (a0.map e_SBII)), (VS 6 (a1.map e_SIIIBB)), (VS 2 (a2.map e_II)), (.int .i64 a3)])], false⟩⟩) (Recast.mv 2 5 (nl rfl) (nl rfl) (.cons (.rw (nn rfl) (nn rfl) (nl rfl) rfl (oneL_map fun _ => rfl) .cl) (.cons (.rw (nn rfl) (nn rfl) (nl rfl) rfl (oneL_map fun _ => rfl) .cl) (.cons (.mv rfl (nl rfl) rfl rfl (.of (.cons (.slice (nn rfl) (nl rfl)) (.cons (.slice (nn rfl) (nl rfl)) .nil)))) (.cons (.rw (nn rfl) (nn rfl) (nl rfl) rfl rfl (.of (.cons .cl (.cons .cl .nil)))) (.cons (.rw (nn rfl) (nn rfl) (nl rfl) rfl rfl (.of (.cons .cl (.cons .cl (.cons .cl (.cons .cl .nil)))))) .nil))))) (.cons rfl .cl (.cons rfl (.ptr (nn rfl) (nl rfl)) (.cons rfl (.ptr (nn rfl) (nl rfl)) (.cons rfl (.ptrm (nl rfl)) .nil))))) ?_
          refine Recast.trans (s' := ⟨[(1, (.int .i64 a4)), (2, (.pointer (some ⟨0, 0, none⟩))), (4, (.pointer (some ⟨1, 0, none⟩))), (5, (.pointer (some ⟨5, 0, none⟩)))], ⟨7, [(4, .rw ((List.replicate ((a0.map e_SBII).length : Int).toNat (0 : Int)).map eI)), (6, .rw ((List.replicate ((a1.map e_SIIIBB).length : Int).toNat (0 : Int)).map eI)), (5, .rw [(.slice (some ⟨6, 0, none⟩) ((a1.map e_SIIIBB).length : Int).toNat 1), (.slice (some ⟨4, 0, none⟩) ((a0.map e_SBII).length : Int).toNat 1)]), (1, .rw [(.slice none 0 0), (.slice none 0 0)]), (0, .rw [(VS 4 (a0.map e_SBII)), (VS 6 (a1.map e_SIIIBB)), (VS 2 (a2.map e_II)), (.int .i64 a3)])], false⟩⟩) (Recast.mv 3 6 (nl rfl) (nl rfl) (.cons (.rw (nn rfl) (nn rfl) (nl rfl) rfl (oneL_map fun _ => rfl) .cl) (.cons (.mv rfl (nl rfl) rfl (oneL_map fun _ => rfl) .cl) (.cons (.rw (nn rfl) (nn rfl) (nl rfl) rfl rfl (.of (.cons (.slicem (nl rfl)) (.cons (.slice (nn rfl) (nl rfl)) .nil)))) (.cons (.rw (nn rfl) (nn rfl) (nl rfl) rfl rfl (.of (.cons .cl (.cons .cl .nil)))) (.cons (.rw (nn rfl) (nn rfl) (nl rfl) rfl rfl (.of (.cons .cl (.cons .cl (.cons .cl (.cons .cl .nil)))))) .nil))))) (.cons rfl .cl (.cons rfl (.ptr (nn rfl) (nl rfl)) (.cons rfl (.ptr (nn rfl) (nl rfl)) (.cons rfl (.ptr (nn rfl) (nl rfl)) .nil))))) ?_
          refine Recast.trans (s' := ⟨[(1, (.int .i64 a4)), (2, (.pointer (some ⟨0, 0, none⟩))), (4, (.pointer (some ⟨1, 0, none⟩))), (5, (.pointer (some ⟨5, 0, none⟩)))], ⟨8, [(7, .rw ((List.replicate ((a0.map e_SBII).length : Int).toNat (0 : Int)).map eI)), (6, .rw ((List.replicate ((a1.map e_SIIIBB).length : Int).toNat (0 : Int)).map eI)), (5, .rw [(.slice (some ⟨6, 0, none⟩) ((a1.map e_SIIIBB).length : Int).toNat 1), (.slice (some ⟨7, 0, none⟩) ((a0.map e_SBII).length : Int).toNat 1)]), (1, .rw [(.slice none 0 0), (.slice none 0 0)]), (0, .rw [(VS 4 (a0.map e_SBII)), (VS 6 (a1.map e_SIIIBB)), (VS 2 (a2.map e_II)), (.int .i64 a3)])], false⟩⟩) (Recast.mv 4 7 (nl rfl) (nl rfl) (.cons (.mv rfl (nl rfl) rfl (oneL_map fun _ => rfl) .cl) (.cons (.rw (nn rfl) (nn rfl) (nl rfl) rfl (oneL_map fun _ => rfl) .cl) (.cons (.rw (nn rfl) (nn rfl) (nl rfl) rfl rfl (.of (.cons (.slice (nn rfl) (nl rfl)) (.cons (.slicem (nl rfl)) .nil)))) (.cons (.rw (nn rfl) (nn rfl) (nl rfl) rfl rfl (.of (.cons .cl (.cons .cl .nil)))) (.cons (.rw (nn rfl) (nn rfl) (nl rfl) rfl rfl (.of (.cons .cl (.cons .cl (.cons .cl (.cons .cl .nil)))))) .nil))))) (.cons rfl .cl (.cons rfl (.ptr (nn rfl) (nl rfl)) (.cons rfl (.ptr (nn rfl) (nl rfl)) (.cons rfl (.ptr (nn rfl) (nl rfl)) .nil))))) ?_
          refine Recast.trans (s' := ⟨[(1, (.int .i64 a4)), (2, (.pointer (some ⟨0, 0, none⟩))), (4, (.pointer (some ⟨1, 0, none⟩))), (5, (.pointer (some ⟨4, 0, none⟩)))], ⟨8, [(7, .rw ((List.replicate ((a0.map e_SBII).length : Int).toNat (0 : Int)).map eI)), (6, .rw ((List.replicate ((a1.map e_SIIIBB).length : Int).toNat (0 : Int)).map eI)), (4, .rw [(.slice (some ⟨6, 0, none⟩) ((a1.map e_SIIIBB).length : Int).toNat 1), (.slice (some ⟨7, 0, none⟩) ((a0.map e_SBII).length : Int).toNat 1)]), (1, .rw [(.slice none 0 0), (.slice none 0 0)]), (0, .rw [(VS 4 (a0.map e_SBII)), (VS 6 (a1.map e_SIIIBB)), (VS 2 (a2.map e_II)), (.int .i64 a3)])], false⟩⟩) (Recast.mv 5 4 (nl rfl) (nl rfl) (.cons (.rw (nn rfl) (nn rfl) (nl rfl) rfl (oneL_map fun _ => rfl) .cl) (.cons (.rw (nn rfl) (nn rfl) (nl rfl) rfl (oneL_map fun _ => rfl) .cl) (.cons (.mv rfl (nl rfl) rfl rfl (.of (.cons (.slice (nn rfl) (nl rfl)) (.cons (.slice (nn rfl) (nl rfl)) .nil)))) (.cons (.rw (nn rfl) (nn rfl) (nl rfl) rfl rfl (.of (.cons .cl (.cons .cl .nil)))) (.cons (.rw (nn rfl) (nn rfl) (nl rfl) rfl rfl (.of (.cons .cl (.cons .cl (.cons .cl (.cons .cl .nil)))))) .nil))))) (.cons rfl .cl (.cons rfl (.ptr (nn rfl) (nl rfl)) (.cons rfl (.ptr (nn rfl) (nl rfl)) (.cons rfl (.ptrm (nl rfl)) .nil))))) ?_
          refine Recast.trans (s' := ⟨[(1, (.int .i64 a4)), (2, (.pointer (some ⟨0, 0, none⟩))), (4, (.pointer (some ⟨1, 0, none⟩))), (5, (.pointer (some ⟨4, 0, none⟩)))], ⟨8, [(7, .rw ((List.replicate ((a0.map e_SBII).length : Int).toNat (0 : Int)).map eI)), (2, .rw ((List.replicate ((a1.map e_SIIIBB).length : Int).toNat (0 : Int)).map eI)), (4, .rw [(.slice (some ⟨2, 0, none⟩) ((a1.map e_SIIIBB).length : Int).toNat 1), (.slice (some ⟨7, 0, none⟩) ((a0.map e_SBII).length : Int).toNat 1)]), (1, .rw [(.slice none 0 0), (.slice none 0 0)]), (0, .rw [(VS 4 (a0.map e_SBII)), (VS 6 (a1.map e_SIIIBB)), (VS 2 (a2.map e_II)), (.int .i64 a3)])], false⟩⟩) (Recast.mv 6 2 (nl rfl) (nl rfl) (.cons (.rw (nn rfl) (nn rfl) (nl rfl) rfl (oneL_map fun _ => rfl) .cl) (.cons (.mv rfl (nl rfl) rfl (oneL_map fun _ => rfl) .cl) (.cons (.rw (nn rfl) (nn rfl) (nl rfl) rfl rfl (.of (.cons (.slicem (nl rfl)) (.cons (.slice (nn rfl) (nl rfl)) .nil)))) (.cons (.rw (nn rfl) (nn rfl) (nl rfl) rfl rfl (.of (.cons .cl (.cons .cl .nil)))) (.cons (.rw (nn rfl) (nn rfl) (nl rfl) rfl rfl (.of (.cons .cl (.cons .cl (.cons .cl (.cons .cl .nil)))))) .nil))))) (.cons rfl .cl (.cons rfl (.ptr (nn rfl) (nl rfl)) (.cons rfl (.ptr (nn rfl) (nl rfl)) (.cons rfl (.ptr (nn rfl) (nl rfl)) .nil))))) ?_
          exact (Recast.mv 7 3 (nl rfl) (nl rfl) (.cons (.rw (nn rfl) (nn rfl) (nl rfl) rfl rfl (.of (.cons (.slice (nn rfl) (nl rfl)) (.cons (.slicem (nl rfl)) .nil)))) (.cons (.mv rfl (nl rfl) rfl (oneL_map fun _ => rfl) .cl) (.cons (.rw (nn rfl) (nn rfl) (nl rfl) rfl (oneL_map fun _ => rfl) .cl) (.cons (.rw (nn rfl) (nn rfl) (nl rfl) rfl rfl (.of (.cons .cl (.cons .cl .nil)))) (.cons (.rw (nn rfl) (nn rfl) (nl rfl) rfl rfl (.of (.cons .cl (.cons .cl (.cons .cl (.cons .cl .nil)))))) .nil))))) (.cons rfl .cl (.cons rfl (.ptr (nn rfl) (nl rfl)) (.cons rfl (.ptr (nn rfl) (nl rfl)) (.cons rfl (.ptr (nn rfl) (nl rfl)) .nil)))))
        · (conv=>whnf);refine ⟨?_, trivial⟩;(conv=>whnf);refine mk_o (f := eI) (x := (0 : Int)) rfl g6 ?_;(conv=>whnf);refine ⟨by trivial,?_⟩;(conv=>whnf);refine ⟨?_, trivial⟩;(conv=>whnf);refine mk_o (f := eI) (x := (0 : Int)) rfl g5 ?_;(conv=>whnf);refine ⟨by trivial,?_⟩;(conv=>whnf);refine ⟨?_, trivial⟩;(conv=>whnf);refine ⟨by trivial,?_⟩;(conv=>whnf);cases h2;refine Recast.trans (s' := ⟨[(1, (.int .i64 a4)), (2, (.pointer (some ⟨0, 0, none⟩))), (4, (.pointer (some ⟨1, 0, none⟩))), (5, (.pointer (some ⟨5, 0, none⟩)))], ⟨6, [(4, .rw ((List.replicate ((a1.map e_SIIIBB).length : Int).toNat (0 : Int)).map eI)), (3, .rw ((List.replicate ((a0.map e_SBII).length : Int).toNat (0 : Int)).map eI)), (5, .rw [(.slice (some ⟨4, 0, none⟩) ((a1.map e_SIIIBB).length : Int).toNat 1), (.slice (some ⟨3, 0, none⟩) ((a0.map e_SBII).length : Int).toNat 1)]), (1, .rw [(.slice none 0 0), (.slice none 0 0)]), (0, .rw [(VS 4 (a0.map e_SBII)), (VS 6 (a1.map e_SIIIBB)), (VS 2 (a2.map e_II)), (.int .i64 a3)])], false⟩⟩) (Recast.mv 2 5 (nl rfl) (nl rfl) (.cons (.rw (nn rfl) (nn rfl) (nl rfl) rfl (oneL_map fun _ => rfl) .cl) (.cons (.rw (nn rfl) (nn rfl) (nl rfl) rfl (oneL_map fun _ => rfl) .cl) (.cons (.mv rfl (nl rfl) rfl rfl (.of (.cons (.slice (nn rfl) (nl rfl)) (.cons (.slice (nn rfl) (nl rfl)) .nil)))) (.cons (.rw (nn rfl) (nn rfl) (nl rfl) rfl rfl (.of (.cons .cl (.cons .cl .nil)))) (.cons (.rw (nn rfl) (nn rfl) (nl rfl) rfl rfl (.of (.cons .cl (.cons .cl (.cons .cl (.cons .cl .nil)))))) .nil))))) (.cons rfl .cl (.cons rfl (.ptr (nn rfl) (nl rfl)) (.cons rfl (.ptr (nn rfl) (nl rfl)) (.cons rfl (.ptrm (nl rfl)) .nil))))) ?_
          refine Recast.trans (s' := ⟨[(1, (.int .i64 a4)), (2, (.pointer (some ⟨0, 0, none⟩))), (4, (.pointer (some ⟨1, 0, none⟩))), (5, (.pointer (some ⟨5, 0, none⟩)))], ⟨7, [(6, .rw ((List.replicate ((a1.map e_SIIIBB).length : Int).toNat (0 : Int)).map eI)), (3, .rw ((List.replicate ((a0.map e_SBII).length : Int).toNat (0 : Int)).map eI)), (5, .rw [(.slice (some ⟨6, 0, none⟩) ((a1.map e_SIIIBB).length : Int).toNat 1), (.slice (some ⟨3, 0, none⟩) ((a0.map e_SBII).length : Int).toNat 1)]), (1, .rw [(.slice none 0 0), (.slice none 0 0)]), (0, .rw [(VS 4 (a0.map e_SBII)), (VS 6 (a1.map e_SIIIBB)), (VS 2 (a2.map e_II)), (.int .i64 a3)])], false⟩⟩) (Recast.mv 4 6 (nl rfl) (nl rfl) (.cons (.mv rfl (nl rfl) rfl (oneL_map fun _ => rfl) .cl) (.cons (.rw (nn rfl) (nn rfl) (nl rfl) rfl (oneL_map fun _ => rfl) .cl) (.cons (.rw (nn rfl) (nn rfl) (nl rfl) rfl rfl (.of (.cons (.slicem (nl rfl)) (.cons (.slice (nn rfl) (nl rfl)) .nil)))) (.cons (.rw (nn rfl) (nn rfl) (nl rfl) rfl rfl (.of (.cons .cl (.cons .cl .nil)))) (.cons (.rw (nn rfl) (nn rfl) (nl rfl) rfl rfl (.of (.cons .cl (.cons .cl (.cons .cl (.cons .cl .nil)))))) .nil))))) (.cons rfl .cl (.cons rfl (.ptr (nn rfl) (nl rfl)) (.cons rfl (.ptr (nn rfl) (nl rfl)) (.cons rfl (.ptr (nn rfl) (nl rfl)) .nil))))) ?_
          refine Recast.trans (s' := ⟨[(1, (.int .i64 a4)), (2, (.pointer (some ⟨0, 0, none⟩))), (4, (.pointer (some ⟨1, 0, none⟩))), (5, (.pointer (some ⟨4, 0, none⟩)))], ⟨7, [(6, .rw ((List.replicate ((a1.map e_SIIIBB).length : Int).toNat (0 : Int)).map eI)), (3, .rw ((List.replicate ((a0.map e_SBII).length : Int).toNat (0 : Int)).map eI)), (4, .rw [(.slice (some ⟨6, 0, none⟩) ((a1.map e_SIIIBB).length : Int).toNat 1), (.slice (some ⟨3, 0, none⟩) ((a0.map e_SBII).length : Int).toNat 1)]), (1, .rw [(.slice none 0 0), (.slice none 0 0)]), (0, .rw [(VS 4 (a0.map e_SBII)), (VS 6 (a1.map e_SIIIBB)), (VS 2 (a2.map e_II)), (.int .i64 a3)])], false⟩⟩) (Recast.mv 5 4 (nl rfl) (nl rfl) (.cons (.rw (nn rfl) (nn rfl) (nl rfl) rfl (oneL_map fun _ => rfl) .cl) (.cons (.rw (nn rfl) (nn rfl) (nl rfl) rfl (oneL_map fun _ => rfl) .cl) (.cons (.mv rfl (nl rfl) rfl rfl (.of (.cons (.slice (nn rfl) (nl rfl)) (.cons (.slice (nn rfl) (nl rfl)) .nil)))) (.cons (.rw (nn rfl) (nn rfl) (nl rfl) rfl rfl (.of (.cons .cl (.cons .cl .nil)))) (.cons (.rw (nn rfl) (nn rfl) (nl rfl) rfl rfl (.of (.cons .cl (.cons .cl (.cons .cl (.cons .cl .nil)))))) .nil))))) (.cons rfl .cl (.cons rfl (.ptr (nn rfl) (nl rfl)) (.cons rfl (.ptr (nn rfl) (nl rfl)) (.cons rfl (.ptrm (nl rfl)) .nil))))) ?_
          exact (Recast.mv 6 2 (nl rfl) (nl rfl) (.cons (.rw (nn rfl) (nn rfl) (nl rfl) rfl rfl (.of (.cons (.slicem (nl rfl)) (.cons (.slice (nn rfl) (nl rfl)) .nil)))) (.cons (.rw (nn rfl) (nn rfl) (nl rfl) rfl (oneL_map fun _ => rfl) .cl) (.cons (.mv rfl (nl rfl) rfl (oneL_map fun _ => rfl) .cl) (.cons (.rw (nn rfl) (nn rfl) (nl rfl) rfl rfl (.of (.cons .cl (.cons .cl .nil)))) (.cons (.rw (nn rfl) (nn rfl) (nl rfl) rfl rfl (.of (.cons .cl (.cons .cl (.cons .cl (.cons .cl .nil)))))) .nil))))) (.cons rfl .cl (.cons rfl (.ptr (nn rfl) (nl rfl)) (.cons rfl (.ptr (nn rfl) (nl rfl)) (.cons rfl (.ptr (nn rfl) (nl rfl)) .nil)))))
  · refine pwa ?_;(conv=>whnf);obtain ⟨g7, H⟩ := ogrd_some H;refine mk_o (f := eI) (x := (0 : Int)) rfl g7 ?_;(conv=>whnf);obtain ⟨r8, h9, H⟩ := obnd_some H;refine pw_join (ρ := (List Int) × (List Int)) (fun e => ⟨[(1, (.int .i64 a4)), (2, (.pointer (some ⟨0, 0, none⟩))), (4, (.pointer (some ⟨1, 0, none⟩))), (5, (.pointer (some ⟨4, 0, none⟩))), (6, (.pointer (some ⟨6, 0, none⟩)))], ⟨7, [(6, .rw [(.slice (some ⟨5, 0, none⟩) ((a0.map e_SBII).length : Int).toNat 1)]), (5, .rw (e.2.map eI)), (4, .rw [(.slice (some ⟨2, 0, none⟩) ((a1.map e_SIIIBB).length : Int).toNat 1), (.slice (some ⟨3, 0, none⟩) ((a0.map e_SBII).length : Int).toNat 1)]), (3, .rw (e.1.map eI)), (2, .rw ((List.replicate ((a1.map e_SIIIBB).length : Int).toNat (0 : Int)).map eI)), (1, .rw [(.slice none 0 0), (.slice none 0 0)]), (0, .rw [(VS 4 (a0.map e_SBII)), (VS 6 (a1.map e_SIIIBB)), (VS 2 (a2.map e_II)), (.int .i64 a3)])], false⟩⟩) r8 ?_ ?_
    · refine pwa ?_;(conv=>whnf);refine pw_block ?_;refine pw_loop (τ := Int × (List Int) × (List Int)) (fun e => ⟨[(1, (.int .i64 a4)), (2, (.pointer (some ⟨0, 0, none⟩))), (4, (.pointer (some ⟨1, 0, none⟩))), (5, (.pointer (some ⟨4, 0, none⟩))), (6, (.pointer (some ⟨6, 0, none⟩))), (40, (VS 4 (a0.map e_SBII))), (41, (.int .i64 ((a0.map e_SBII).length : Int))), (42, (.int .i64 e.1))], ⟨7, [(6, .rw [(.slice (some ⟨5, 0, none⟩) ((a0.map e_SBII).length : Int).toNat 1)]), (5, .rw (e.2.2.map eI)), (4, .rw [(.slice (some ⟨2, 0, none⟩) ((a1.map e_SIIIBB).length : Int).toNat 1), (.slice (some ⟨3, 0, none⟩) ((a0.map e_SBII).length : Int).toNat 1)]), (3, .rw (e.2.1.map eI)), (2, .rw ((List.replicate ((a1.map e_SIIIBB).length : Int).toNat (0 : Int)).map eI)), (1, .rw [(.slice none 0 0), (.slice none 0 0)]), (0, .rw [(VS 4 (a0.map e_SBII)), (VS 6 (a1.map e_SIIIBB)), (VS 2 (a2.map e_II)), (.int .i64 a3)])], false⟩⟩) h9 ?_ (fun _ => nl rfl) ?_
      · exact .sub' (nl rfl) (.cons rfl (.cons rfl (.cons rfl (.cons rfl (.cons rfl (.cons rfl (.cons rfl (.cons rfl .nil))))))))
      · intro e12 x13 h14;refine pwa ?_;(conv=>whnf);refine pw_seq ?_;refine pw_cond ?_;(conv=>whnf);refine pbr_oite h14 (fun g15 h14 => ?_) (fun g15 h14 => ?_)
        · (conv=>whnf);refine pw_skip ?_;(conv=>whnf);refine pw_seq ?_;refine pw_block ?_;refine pwa ?_;(conv=>whnf);refine pbr_ogrd h14 (fun g16 h14 => ?_);(conv=>whnf);refine nth_o (l := a0) h14 (fun x17 _ h14 => ?_);(conv=>whnf);refine pwa ?_;(conv=>whnf);refine pbr_t g16 ?_;(conv=>whnf);refine pbr_ogrd h14 (fun g18 h14 => ?_);(conv=>whnf);obtain ⟨g19, h14⟩ := ogrd_some h14;refine set_a (l := e12.2.2) (f := eI) (x := x17.2.2.2) g19 rfl ?_;(conv=>whnf);refine pw_ops ?_;refine po_all ?_;(conv=>whnf);refine pbr_t g16 ?_;(conv=>whnf);refine pbr_t g18 ?_;(conv=>whnf);obtain ⟨g20, h14⟩ := ogrd_some h14
          refine set_a (l := e12.2.1) (f := eI) (x := (IntKind.i64.wrap ((1000 : Int) * x17.2.2.1))) g20 rfl ?_;(conv=>whnf);refine pw_ops ?_;refine po_all ?_;(conv=>whnf);cases h14;refine ⟨_, rfl, ?_⟩;exact Recast.fz (fun _ => false) (nl rfl) (.cons (.same rfl rfl (OBnd.rwl (nl rfl) rfl (.cons (.slice (nl rfl)) .nil))) (.cons (.same rfl rfl (OBnd.rwc (nl rfl) (oneL_map fun _ => rfl))) (.cons (.same rfl rfl (OBnd.rwl (nl rfl) rfl (.cons (.slice (nl rfl)) (.cons (.slice (nl rfl)) .nil)))) (.cons (.same rfl rfl (OBnd.rwc (nl rfl) (oneL_map fun _ => rfl))) (.cons (.same rfl rfl (OBnd.rwc (nl rfl) (oneL_map fun _ => rfl))) (.cons (.same rfl rfl (OBnd.rwl (nl rfl) rfl (.cons .cl (.cons .cl .nil)))) (.cons (.same rfl rfl (OBnd.rwl (nl rfl) rfl (.cons .cl (.cons .cl (.cons .cl (.cons .cl .nil)))))) .nil))))))) (.cons rfl (.same _ .cl) (.cons rfl (.same _ (.ptr (nl rfl))) (.cons rfl (.same _ (.ptr (nl rfl))) (.cons rfl (.same _ (.ptr (nl rfl))) (.cons rfl (.same _ (.ptr (nl rfl))) (.cons rfl (.same _ .cl) (.cons rfl (.same _ .cl) (.cons rfl (.same _ .cl) .nil))))))))
        · (conv=>whnf);refine pw_exit ?_;(conv=>whnf);cases h14;refine ⟨_, rfl, ?_⟩; rintro rfl;(conv=>whnf);exact ⟨by (repeat refine .cons rfl ?_);exact .nil,rfl⟩
    · obtain ⟨r22, h23, H⟩ := obnd_some H;refine pw_joinR (ρ := (List Int) × (List Int)) (fun e => ⟨[(2, (.pointer (some ⟨0, 0, none⟩))), (4, (.pointer (some ⟨1, 0, none⟩))), (5, (.pointer (some ⟨4, 0, none⟩))), (6, (.pointer (some ⟨6, 0, none⟩)))], ⟨7, [(6, .rw [(.slice (some ⟨5, 0, none⟩) ((a0.map e_SBII).length : Int).toNat 1)]), (5, .rw (e.2.map eI)), (4, .rw [(.slice (some ⟨2, 0, none⟩) ((a1.map e_SIIIBB).length : Int).toNat 1), (.slice (some ⟨3, 0, none⟩) ((a0.map e_SBII).length : Int).toNat 1)]), (3, .rw (r8.1.map eI)), (2, .rw (e.1.map eI)), (1, .rw [(.slice none 0 0), (.slice none 0 0)]), (0, .rw [(VS 4 (a0.map e_SBII)), (VS 6 (a1.map e_SIIIBB)), (VS 2 (a2.map e_II)), (.int .i64 a3)])], false⟩⟩) r22 ?_ ?_
      · refine pwa ?_;(conv=>whnf);refine pw_cond ?_;(conv=>whnf);refine pbr_oite h23 (fun g26 h23 => ?_) (fun g26 h23 => ?_)
        · (conv=>whnf);refine pwa ?_;(conv=>whnf);refine pbr_ogrd h23 (fun g27 h23 => ?_);(conv=>whnf);refine nth_o (l := a1) h23 (fun x28 _ h23 => ?_);(conv=>whnf);refine pwa ?_;(conv=>whnf);refine pbr_t g27 ?_;(conv=>whnf);refine pbr_ogrd h23 (fun g29 h23 => ?_);(conv=>whnf);obtain ⟨g30, h23⟩ := ogrd_some h23;refine set_a (l := (List.replicate ((a1.map e_SIIIBB).length : Int).toNat (0 : Int))) (f := eI) (x := a4) g30 rfl ?_;(conv=>whnf);refine pwa ?_;(conv=>whnf);refine pbr_ogrd h23 (fun g31 h23 => ?_);(conv=>whnf);refine pbr_ogrd h23 (fun g32 h23 => ?_)
          (conv=>whnf);refine nth_a (l := r8.2) (f := eI) h23 (fun x33 h34 h23 => ?_);(conv=>whnf);refine pbr_t g31 ?_;(conv=>whnf);refine pbr_t g32 ?_;(conv=>whnf);obtain ⟨g36, h23⟩ := ogrd_some h23;refine set_a (l := r8.2) (f := eI) (x := (IntKind.i64.wrap (x33 + a4))) g36 rfl ?_;(conv=>whnf);refine pw_ops ?_;refine po_all ?_;(conv=>whnf);refine pbr_ogrd h23 (fun g37 h23 => ?_);(conv=>whnf);refine pbr_ogrd h23 (fun g38 h23 => ?_);(conv=>whnf);refine nth_a (l := (r8.2.set x28.2.1.toNat (IntKind.i64.wrap (x33 + a4)))) (f := eI) h23 (fun x39 h40 h23 => ?_);(conv=>whnf);refine pbr_t g37 ?_;(conv=>whnf);refine pbr_t g38 ?_
          (conv=>whnf);obtain ⟨g42, h23⟩ := ogrd_some h23;refine set_a (l := (r8.2.set x28.2.1.toNat (IntKind.i64.wrap (x33 + a4)))) (f := eI) (x := (IntKind.i64.wrap (x39 - a4))) g42 rfl ?_;(conv=>whnf);cases h23;exact Recast.fz (fun _ => false) (nl rfl) (.cons (.same rfl rfl (OBnd.rwl (nl rfl) rfl (.cons (.slice (nl rfl)) .nil))) (.cons (.same rfl rfl (OBnd.rwc (nl rfl) (oneL_map fun _ => rfl))) (.cons (.same rfl rfl (OBnd.rwl (nl rfl) rfl (.cons (.slice (nl rfl)) (.cons (.slice (nl rfl)) .nil)))) (.cons (.same rfl rfl (OBnd.rwc (nl rfl) (oneL_map fun _ => rfl))) (.cons (.same rfl rfl (OBnd.rwc (nl rfl) (oneL_map fun _ => rfl))) (.cons (.same rfl rfl (OBnd.rwl (nl rfl) rfl (.cons .cl (.cons .cl .nil)))) (.cons (.same rfl rfl (OBnd.rwl (nl rfl) rfl (.cons .cl (.cons .cl (.cons .cl (.cons .cl .nil)))))) .nil))))))) (.cons rfl (.same _ (.ptr (nl rfl))) (.cons rfl (.same _ (.ptr (nl rfl))) (.cons rfl (.same _ (.ptr (nl rfl))) (.cons rfl (.same _ (.ptr (nl rfl))) .nil))))
        · (conv=>whnf);refine pw_skip ?_;(conv=>whnf);cases h23;exact Recast.fz (fun _ => false) (nl rfl) (.cons (.same rfl rfl (OBnd.rwl (nl rfl) rfl (.cons (.slice (nl rfl)) .nil))) (.cons (.same rfl rfl (OBnd.rwc (nl rfl) (oneL_map fun _ => rfl))) (.cons (.same rfl rfl (OBnd.rwl (nl rfl) rfl (.cons (.slice (nl rfl)) (.cons (.slice (nl rfl)) .nil)))) (.cons (.same rfl rfl (OBnd.rwc (nl rfl) (oneL_map fun _ => rfl))) (.cons (.same rfl rfl (OBnd.rwc (nl rfl) (oneL_map fun _ => rfl))) (.cons (.same rfl rfl (OBnd.rwl (nl rfl) rfl (.cons .cl (.cons .cl .nil)))) (.cons (.same rfl rfl (OBnd.rwl (nl rfl) rfl (.cons .cl (.cons .cl (.cons .cl (.cons .cl .nil)))))) .nil))))))) (.cons rfl (.same _ (.ptr (nl rfl))) (.cons rfl (.same _ (.ptr (nl rfl))) (.cons rfl (.same _ (.ptr (nl rfl))) (.cons rfl (.same _ (.ptr (nl rfl))) .nil))))
      · obtain ⟨r43, h44, H⟩ := obnd_some H;refine pw_join (ρ := (List Int) × (List Int)) (fun e => ⟨[(2, (.pointer (some ⟨0, 0, none⟩))), (4, (.pointer (some ⟨1, 0, none⟩))), (5, (.pointer (some ⟨4, 0, none⟩)))], ⟨9, [(8, .dead), (7, .rw [(VS 2 (a2.map e_II))]), (6, .rw [(.slice (some ⟨5, 0, none⟩) ((a0.map e_SBII).length : Int).toNat 1)]), (5, .rw (e.2.map eI)), (4, .rw [(.slice (some ⟨2, 0, none⟩) ((a1.map e_SIIIBB).length : Int).toNat 1), (.slice (some ⟨3, 0, none⟩) ((a0.map e_SBII).length : Int).toNat 1)]), (3, .rw (r8.1.map eI)), (2, .rw (e.1.map eI)), (1, .rw [(.slice none 0 0), (.slice none 0 0)]), (0, .rw [(VS 4 (a0.map e_SBII)), (VS 6 (a1.map e_SIIIBB)), (VS 2 (a2.map e_II)), (.int .i64 a3)])], false⟩⟩) r43 ?_ ?_
        · refine pwa ?_;(conv=>whnf);refine pcalls_in ?_;(conv=>whnf);refine pwa ?_;(conv=>whnf);refine pwa ?_;(conv=>whnf);refine pw_ret ?_;(conv=>whnf);refine pw_block ?_;refine pw_range [2, 4, 5, 6, 95] ?_;(conv=>whnf);refine pcallv_in ?_;(conv=>whnf);refine pwa ?_;(conv=>whnf);refine pw_block ?_;refine pw_loop (τ := Int × (List Int) × (List Int)) (fun e => ⟨[(0, (.func (.yield 8) #[] #[])), (1, (.pointer (some ⟨7, 0, none⟩))), (3, (.int .i64 e.1))], ⟨9, [(8, .loop ⟨.ready, none, [(2, (.pointer (some ⟨0, 0, none⟩))), (4, (.pointer (some ⟨1, 0, none⟩))), (5, (.pointer (some ⟨4, 0, none⟩))), (6, (.pointer (some ⟨6, 0, none⟩))), (95, (.func (.func (E.id 530)) ⟨[]⟩ ⟨[(.pointer (some ⟨7, 0, none⟩))]⟩))], 171, #[96, 97], (rng 57 0).1, (rng 57 0).2⟩), (7, .rw [(VS 2 (a2.map e_II))]), (6, .rw [(.slice (some ⟨5, 0, none⟩) ((a0.map e_SBII).length : Int).toNat 1)]), (5, .rw (e.2.2.map eI)), (4, .rw [(.slice (some ⟨2, 0, none⟩) ((a1.map e_SIIIBB).length : Int).toNat 1), (.slice (some ⟨3, 0, none⟩) ((a0.map e_SBII).length : Int).toNat 1)]), (3, .rw (r8.1.map eI)), (2, .rw (e.2.1.map eI)), (1, .rw [(.slice none 0 0), (.slice none 0 0)]), (0, .rw [(VS 4 (a0.map e_SBII)), (VS 6 (a1.map e_SIIIBB)), (VS 2 (a2.map e_II)), (.int .i64 a3)])], false⟩⟩) h44 ?_ (fun _ => nl rfl) ?_
          · exact .sub' (nl rfl) (.cons rfl (.cons rfl (.cons rfl .nil)))
          · intro e47 x48 h49;refine pw_seq ?_;refine pwa ?_;(conv=>whnf);refine pw_cond ?_;(conv=>whnf);refine pbr_oite h49 (fun g50 h49 => ?_) (fun g50 h49 => ?_)
            · (conv=>whnf);refine pw_skip ?_;(conv=>whnf);refine pw_seq ?_;refine pw_block ?_;refine pwa ?_;(conv=>whnf);refine pbr_ogrd h49 (fun g51 h49 => ?_);(conv=>whnf);refine nth_o (l := a2) h49 (fun x52 _ h49 => ?_);(conv=>whnf);refine pcallv_yield ir519a0 ir519b0 rfl rfl ra519_0 rb519_0 ⟨_, _, _, _, rfl⟩ ?_;(conv=>whnf);refine pw_ops ?_;refine po_all ?_;(conv=>whnf);refine pw_block ?_;refine pwa ?_;(conv=>whnf);obtain ⟨y53, h54, h49⟩ := obnd_some h49;refine (c525 h54).go ?_;(conv=>whnf);refine pw_sd ?_;(conv=>whnf);refine pbr_ogrd h49 (fun g55 h49 => ?_);(conv=>whnf);refine pbr_ogrd h49 (fun g56 h49 => ?_)
              (conv=>whnf);refine nth_a (l := e47.2.2) (f := eI) h49 (fun x57 h58 h49 => ?_);(conv=>whnf);refine pbr_ogrd h49 (fun g60 h49 => ?_);(conv=>whnf);refine pbr_ogrd h49 (fun g61 h49 => ?_);(conv=>whnf);refine ⟨?_, trivial⟩;(conv=>whnf);obtain ⟨g62, h49⟩ := ogrd_some h49;refine set_a (l := e47.2.1) (f := eI) (x := (IntKind.i64.wrap (y53.2 * x57))) g62 rfl ?_;(conv=>whnf);refine ⟨by repeat (first | exact trivial | refine And.intro rfl ?_ | refine And.intro (lev_a (l := e47.2.2) (f := eI) rfl h58) ?_), ?_⟩;(conv=>whnf);refine pw_draw ?_;(conv=>whnf);refine pbr_ogrd h49 (fun g63 h49 => ?_);(conv=>whnf)
              refine pbr_ogrd h49 (fun g64 h49 => ?_);(conv=>whnf);refine nth_a (l := e47.2.2) (f := eI) h49 (fun x65 h66 h49 => ?_);(conv=>whnf);refine pbr_t g55 ?_;(conv=>whnf);refine pbr_t g56 ?_;(conv=>whnf);refine nth_a (l := e47.2.2) (f := eI) h49 (fun x68 h69 h49 => ?_);(conv=>whnf);refine pbr_t g63 ?_;(conv=>whnf);refine pbr_t g64 ?_;(conv=>whnf);refine ⟨?_, trivial⟩;(conv=>whnf);obtain ⟨g71, h49⟩ := ogrd_some h49;refine set_a (l := e47.2.2) (f := eI) (x := (IntKind.i64.wrap (x65 + x68))) g71 rfl ?_;(conv=>whnf);refine ⟨by repeat (first | exact trivial | refine And.intro rfl ?_ | refine And.intro (lev_a (l := e47.2.2) (f := eI) rfl h66) ?_ | refine And.intro (lev_a (l := e47.2.2) (f := eI) rfl h69) ?_), ?_⟩
              (conv=>whnf);refine pw_cond ?_;(conv=>whnf);refine pw_skip ?_;(conv=>whnf);refine pw_ops ?_;refine po_all ?_;(conv=>whnf);cases h49;refine ⟨_, rfl, ?_⟩;exact Recast.fz (fun _ => false) (nl rfl) (.cons (.same rfl rfl (OBnd.loop (nl rfl) (.cons (.ptr (nl rfl)) (.cons (.ptr (nl rfl)) (.cons (.ptr (nl rfl)) (.cons (.ptr (nl rfl)) (.cons (.funcl .nil (.cons (.ptr (nl rfl)) .nil)) .nil))))))) (.cons (.same rfl rfl (OBnd.rwl (nl rfl) rfl (.cons .cl .nil))) (.cons (.same rfl rfl (OBnd.rwl (nl rfl) rfl (.cons (.slice (nl rfl)) .nil))) (.cons (.same rfl rfl (OBnd.rwc (nl rfl) (oneL_map fun _ => rfl))) (.cons (.same rfl rfl (OBnd.rwl (nl rfl) rfl (.cons (.slice (nl rfl)) (.cons (.slice (nl rfl)) .nil)))) (.cons (.same rfl rfl (OBnd.rwc (nl rfl) (oneL_map fun _ => rfl))) (.cons (.same rfl rfl (OBnd.rwc (nl rfl) (oneL_map fun _ => rfl))) (.cons (.same rfl rfl (OBnd.rwl (nl rfl) rfl (.cons .cl (.cons .cl .nil)))) (.cons (.same rfl rfl (OBnd.rwl (nl rfl) rfl (.cons .cl (.cons .cl (.cons .cl (.cons .cl .nil)))))) .nil))))))))) (.cons rfl (.same _ (.yield (nl rfl))) (.cons rfl (.same _ (.ptr (nl rfl))) (.cons rfl (.same _ .cl) .nil)))
            · (conv=>whnf);refine pw_exit ?_;(conv=>whnf);cases h49;refine ⟨_, rfl, ?_⟩; rintro rfl;(conv=>whnf);exact ⟨(.cons rfl (.cons rfl (.cons rfl .nil))), rfl⟩
        · obtain ⟨r73, h74, H⟩ := obnd_some H;refine pw_join (ρ := (List Int)) (fun e => ⟨[(4, (.pointer (some ⟨1, 0, none⟩))), (5, (.pointer (some ⟨4, 0, none⟩)))], ⟨9, [(8, .dead), (7, .rw [(VS 2 (a2.map e_II))]), (6, .rw [(.slice (some ⟨5, 0, none⟩) ((a0.map e_SBII).length : Int).toNat 1)]), (5, .rw (r43.2.map eI)), (4, .rw [(.slice (some ⟨2, 0, none⟩) ((a1.map e_SIIIBB).length : Int).toNat 1), (.slice (some ⟨3, 0, none⟩) ((a0.map e_SBII).length : Int).toNat 1)]), (3, .rw (e.map eI)), (2, .rw (r43.1.map eI)), (1, .rw [(.slice none 0 0), (.slice none 0 0)]), (0, .rw [(VS 4 (a0.map e_SBII)), (VS 6 (a1.map e_SIIIBB)), (VS 2 (a2.map e_II)), (.int .i64 a3)])], false⟩⟩) r73 ?_ ?_
          · refine pwa ?_;(conv=>whnf);refine pw_block ?_;refine pw_loop (τ := Int × (List Int)) (fun e => ⟨[(2, (.pointer (some ⟨0, 0, none⟩))), (4, (.pointer (some ⟨1, 0, none⟩))), (5, (.pointer (some ⟨4, 0, none⟩))), (128, (VS 2 (a2.map e_II))), (129, (.int .i64 ((a2.map e_II).length : Int))), (130, (.int .i64 e.1))], ⟨9, [(8, .dead), (7, .rw [(VS 2 (a2.map e_II))]), (6, .rw [(.slice (some ⟨5, 0, none⟩) ((a0.map e_SBII).length : Int).toNat 1)]), (5, .rw (r43.2.map eI)), (4, .rw [(.slice (some ⟨2, 0, none⟩) ((a1.map e_SIIIBB).length : Int).toNat 1), (.slice (some ⟨3, 0, none⟩) ((a0.map e_SBII).length : Int).toNat 1)]), (3, .rw (e.2.map eI)), (2, .rw (r43.1.map eI)), (1, .rw [(.slice none 0 0), (.slice none 0 0)]), (0, .rw [(VS 4 (a0.map e_SBII)), (VS 6 (a1.map e_SIIIBB)), (VS 2 (a2.map e_II)), (.int .i64 a3)])], false⟩⟩) h74 ?_ (fun _ => nl rfl) ?_
            · exact .sub' (nl rfl) (.cons rfl (.cons rfl (.cons rfl (.cons rfl (.cons rfl (.cons rfl .nil))))))
            · intro e77 x78 h79;refine pwa ?_;(conv=>whnf);refine pw_seq ?_;refine pw_cond ?_;(conv=>whnf);refine pbr_oite h79 (fun g80 h79 => ?_) (fun g80 h79 => ?_)
              · (conv=>whnf);refine pw_skip ?_;(conv=>whnf);refine pw_seq ?_;refine pw_block ?_;refine pwa ?_;(conv=>whnf);refine pbr_ogrd h79 (fun g81 h79 => ?_);(conv=>whnf);refine nth_o (l := a2) h79 (fun x82 _ h79 => ?_);(conv=>whnf);refine pwa ?_;(conv=>whnf);obtain ⟨y83, h84, h79⟩ := obnd_some h79;refine (c525 h84).go ?_;(conv=>whnf);refine pw_draw ?_;(conv=>whnf);refine pbr_ogrd h79 (fun g85 h79 => ?_);(conv=>whnf);refine pbr_ogrd h79 (fun g86 h79 => ?_);(conv=>whnf);refine nth_a (l := e77.2) (f := eI) h79 (fun x87 h88 h79 => ?_);(conv=>whnf);refine pbr_ogrd h79 (fun g90 h79 => ?_)
                (conv=>whnf);refine nth_o (l := a1) h79 (fun x91 _ h79 => ?_);(conv=>whnf);refine pbr_t g90 ?_;(conv=>whnf);refine pbr_ogrd h79 (fun g92 h79 => ?_);(conv=>whnf);refine nth_a (l := r43.1) (f := eI) h79 (fun x93 h94 h79 => ?_);(conv=>whnf);refine ⟨?_, trivial⟩;(conv=>whnf);obtain ⟨y96, h97, h79⟩ := obnd_some h79;refine (c520 h97).go ?_;(conv=>whnf);refine ⟨by repeat (first | exact trivial | refine And.intro rfl ?_ | refine And.intro (lev_a (l := e77.2) (f := eI) rfl h88) ?_ | refine And.intro (lev_a (l := r43.1) (f := eI) rfl h94) ?_), ?_⟩;(conv=>whnf);refine pbr_ogrd h79 (fun g98 h79 => ?_);(conv=>whnf)
                refine pbr_ogrd h79 (fun g99 h79 => ?_);(conv=>whnf);refine ⟨?_, trivial⟩;(conv=>whnf);obtain ⟨g100, h79⟩ := ogrd_some h79;refine set_a (l := e77.2) (f := eI) (x := (IntKind.i64.wrap (x87 - y96))) g100 rfl ?_;(conv=>whnf);refine ⟨by repeat (first | exact trivial | refine And.intro rfl ?_ | refine And.intro (lev_a (l := e77.2) (f := eI) rfl h88) ?_ | refine And.intro (lev_a (l := r43.1) (f := eI) rfl h94) ?_), ?_⟩;(conv=>whnf);refine pw_ops ?_;refine po_all ?_;(conv=>whnf);cases h79;refine ⟨_, rfl, ?_⟩;exact Recast.fz (fun _ => false) (nl rfl) (.cons (.same rfl rfl trivial) (.cons (.same rfl rfl (OBnd.rwl (nl rfl) rfl (.cons .cl .nil))) (.cons (.same rfl rfl (OBnd.rwl (nl rfl) rfl (.cons (.slice (nl rfl)) .nil))) (.cons (.same rfl rfl (OBnd.rwc (nl rfl) (oneL_map fun _ => rfl))) (.cons (.same rfl rfl (OBnd.rwl (nl rfl) rfl (.cons (.slice (nl rfl)) (.cons (.slice (nl rfl)) .nil)))) (.cons (.same rfl rfl (OBnd.rwc (nl rfl) (oneL_map fun _ => rfl))) (.cons (.same rfl rfl (OBnd.rwc (nl rfl) (oneL_map fun _ => rfl))) (.cons (.same rfl rfl (OBnd.rwl (nl rfl) rfl (.cons .cl (.cons .cl .nil)))) (.cons (.same rfl rfl (OBnd.rwl (nl rfl) rfl (.cons .cl (.cons .cl (.cons .cl (.cons .cl .nil)))))) .nil))))))))) (.cons rfl (.same _ (.ptr (nl rfl))) (.cons rfl (.same _ (.ptr (nl rfl))) (.cons rfl (.same _ (.ptr (nl rfl))) (.cons rfl (.same _ .cl) (.cons rfl (.same _ .cl) (.cons rfl (.same _ .cl) .nil))))))
              · (conv=>whnf);refine pw_exit ?_;(conv=>whnf);cases h79;refine ⟨_, rfl, ?_⟩; rintro rfl;(conv=>whnf);exact ⟨(.cons rfl (.cons rfl .nil)), rfl⟩
          · refine pwa ?_;(conv=>whnf);refine pw_ret ?_;(conv=>whnf);obtain ⟨g102, H⟩ := ogrd_some H;obtain ⟨g103, H⟩ := ogrd_some H;cases H; show ∃ D, Fz _ D 0 (.agg ⟨[(.slice (some ⟨2, 0, none⟩) ((a1.map e_SIIIBB).length : Int).toNat 1), (.slice (some ⟨3, 0, none⟩) ((a0.map e_SBII).length : Int).toNat 1)]⟩) _;exact ⟨fun b => Nat.beq b 2 || Nat.beq b 3, .aggl (.cons (.slm rfl rfl g102 (fun _ => rfl)) (.cons (.slm rfl rfl g103 (fun _ => rfl)) (.nil)))⟩
noncomputable def f513 [LO]  (a0 : List (ByteArray × Bool × Int × Int)) (a1 : List (ByteArray × Int × Int × Int × Bool × Bool)) (a2 : List (Int × Int)) (a3 : Int) (a4 : Int) : Option Int :=
 ogrd ((ile 0 a3)) (
 obnd (a1[a3.toNat]?) fun (x2 : ByteArray × Int × Int × Int × Bool × Bool) =>
 obnd (f519 a0 a1 a2 a3 a4) fun (y3 : (List Int) × (List Int)) =>
 ogrd ((ile 0 x2.2.1)) (
 obnd (y3.2[x2.2.1.toNat]?) fun (x6 : Int) =>
 ogrd ((ile 0 x2.2.2.1)) (
 obnd (y3.2[x2.2.2.1.toNat]?) fun (x8 : Int) =>
 obnd (f520 x2.2.2.2.1 a4) fun (y9 : Int) =>
 some (IntKind.i64.wrap (y9 - (IntKind.i64.wrap (x6 - x8)))))))
theorem c513 [LO]  {a0 : List (ByteArray × Bool × Int × Int)} {a1 : List (ByteArray × Int × Int × Int × Bool × Bool)} {a2 : List (Int × Int)} {a3 : Int} {a4 : Int} {x : Int} (H : f513 a0 a1 a2 a3 a4 = some x) : ICalls E 513 [(.agg ⟨[(VS 4 (a0.map e_SBII)), (VS 6 (a1.map e_SIIIBB)), (VS 2 (a2.map e_II)), (.int .i64 a3)]⟩), (.int .i64 a4)] AHeap.none fun v _ => v = (.int .i64 x) := by
 refine icalls_fn (pfnw ?_); unfold f513 at H;(conv=>whnf);refine pwa ?_;(conv=>whnf);refine pwa ?_;(conv=>whnf);refine pbr_ogrd H (fun g1 H => ?_);(conv=>whnf);refine nth_o (l := a1) H (fun x2 _ H => ?_);(conv=>whnf);refine pwa ?_;(conv=>whnf);obtain ⟨y3, h4, H⟩ := obnd_some H;refine (c519 h4).go ?_;(conv=>whnf);refine pw_sd ?_;(conv=>whnf);refine pbr_ogrd H (fun g5 H => ?_);(conv=>whnf);refine nth_o (l := y3.2) H (fun x6 _ H => ?_);(conv=>whnf);refine pbr_ogrd H (fun g7 H => ?_);(conv=>whnf);refine nth_o (l := y3.2) H (fun x8 _ H => ?_);(conv=>whnf)
 refine ⟨?_, trivial⟩;(conv=>whnf);obtain ⟨y9, h10, H⟩ := obnd_some H;refine (c520 h10).go ?_;(conv=>whnf);refine ⟨by trivial,?_⟩;(conv=>whnf);refine pw_ret ?_;(conv=>whnf);cases H; rfl
noncomputable def f510 [LO]  (a0 : List (ByteArray × Bool × Int × Int)) (a1 : List (ByteArray × Int × Int × Int × Bool × Bool)) (a2 : List (Int × Int)) (a3 : Int) : Option Bool :=
 oite ((ile (0 : Int) a3)) (
 obnd (f513 a0 a1 a2 a3 (-200000 : Int)) fun (y2 : Int) =>
 obnd (f513 a0 a1 a2 a3 (200000 : Int)) fun (y4 : Int) =>
 some (ieq y2 y4)
 ) (
 some false)
theorem c510 [LO]  {a0 : List (ByteArray × Bool × Int × Int)} {a1 : List (ByteArray × Int × Int × Int × Bool × Bool)} {a2 : List (Int × Int)} {a3 : Int} {x : Bool} (H : f510 a0 a1 a2 a3 = some x) : ICalls E 510 [(.agg ⟨[(VS 4 (a0.map e_SBII)), (VS 6 (a1.map e_SIIIBB)), (VS 2 (a2.map e_II)), (.int .i64 a3)]⟩)] AHeap.none fun v _ => v = (.bool x) := by
 refine icalls_fn (pfnw ?_); unfold f510 at H;(conv=>whnf);refine pwa ?_;(conv=>whnf);refine pw_sd ?_;(conv=>whnf);refine pbr_oite H (fun g1 H => ?_) (fun g1 H => ?_)
 · (conv=>whnf);refine pbr_t g1 ?_;(conv=>whnf);refine ⟨?_, trivial⟩;(conv=>whnf);refine pbr_t g1 ?_;(conv=>whnf);obtain ⟨y2, h3, H⟩ := obnd_some H;refine (c513 h3).go ?_;(conv=>whnf);refine ⟨by trivial,?_⟩;(conv=>whnf);refine ⟨?_, trivial⟩;(conv=>whnf);refine pbr_t g1 ?_;(conv=>whnf);obtain ⟨y4, h5, H⟩ := obnd_some H;refine (c513 h5).go ?_;(conv=>whnf);refine ⟨by trivial,?_⟩;(conv=>whnf);refine pbr_t g1 ?_;(conv=>whnf);refine pbr_t g1 ?_;(conv=>whnf);refine pw_ret ?_;(conv=>whnf);cases H; rfl
 · (conv=>whnf);refine pbr_f g1 ?_;(conv=>whnf);refine ⟨?_, trivial⟩;(conv=>whnf);refine pbr_f g1 ?_;(conv=>whnf);refine ⟨?_, trivial⟩;(conv=>whnf);(iterate 3 refine pbr_f g1 ?_;(conv=>whnf));refine pw_ret ?_;(conv=>whnf);cases H; rfl
noncomputable def f495 [LO]  (a0 : List (ByteArray × Bool × Int × Int)) (a1 : List (ByteArray × Int × Int × Int × Bool × Bool)) : Option ((List (ByteArray × Bool × Int × Int)) × (List (ByteArray × Int × Int × Int × Bool × Bool)) × (List (Int × Int)) × Int × Int) :=
 obnd (f509 a0 a1) fun (y1 : (List (ByteArray × Bool × Int × Int)) × (List (ByteArray × Int × Int × Int × Bool × Bool)) × (List (Int × Int)) × Int × Int) =>
 oite ((!(ieq y1.2.2.2.2 (0 : Int)))) (
 some (y1.1, y1.2.1, y1.2.2.1, y1.2.2.2.1, y1.2.2.2.2)
 ) (
 obnd (f510 y1.1 y1.2.1 y1.2.2.1 y1.2.2.2.1) fun (y4 : Bool) =>
 obnd (f492 (!y4) (11 : Int)) fun (y6 : Int) =>
 some (y1.1, y1.2.1, y1.2.2.1, y1.2.2.2.1, y6))
theorem c495 [LO]  {a0 : List (ByteArray × Bool × Int × Int)} {a1 : List (ByteArray × Int × Int × Int × Bool × Bool)} {x : (List (ByteArray × Bool × Int × Int)) × (List (ByteArray × Int × Int × Int × Bool × Bool)) × (List (Int × Int)) × Int × Int} (H : f495 a0 a1 = some x) : ICalls E 495 [(.agg ⟨[(VS 4 (a0.map e_SBII)), (VS 6 (a1.map e_SIIIBB))]⟩)] AHeap.none fun v _ => v = (.tuple ⟨[(.agg ⟨[(VS 4 (x.1.map e_SBII)), (VS 6 (x.2.1.map e_SIIIBB)), (VS 2 (x.2.2.1.map e_II)), (.int .i64 x.2.2.2.1)]⟩), (.int .i64 x.2.2.2.2)]⟩) := by
 refine ICalls.frz ?_;refine icalls_fn (pfnw ?_); unfold f495 at H;(conv=>whnf);refine pwa ?_;(conv=>whnf);refine pwa ?_;(conv=>whnf);obtain ⟨y1, h2, H⟩ := obnd_some H;refine (c509 h2).go ?_;(conv=>whnf);refine pw_seq ?_;refine pwa ?_;(conv=>whnf);refine pw_cond ?_;(conv=>whnf);refine pbr_oite H (fun g3 H => ?_) (fun g3 H => ?_)
 · (conv=>whnf);refine pwa ?_;(conv=>whnf);refine pw_ret ?_;(conv=>whnf);cases H; show ∃ D, Fz _ D 0 (.tuple ⟨[(.agg ⟨[(VS 4 _), (VS 6 _), (VS 2 _), (.int .i64 y1.2.2.2.1)]⟩), (.int .i64 y1.2.2.2.2)]⟩) _;exact ⟨fun _ => false, .tuplel (.cons .cl (.cons .cl (.nil)))⟩
 · (conv=>whnf);refine pw_skip ?_;(conv=>whnf);refine pw_sd ?_;(conv=>whnf);refine ⟨?_, trivial⟩;(conv=>whnf);obtain ⟨y4, h5, H⟩ := obnd_some H;refine (c510 h5).go ?_;(conv=>whnf);refine ⟨by trivial,?_⟩;(conv=>whnf);refine ⟨?_, trivial⟩;(conv=>whnf);obtain ⟨y6, h7, H⟩ := obnd_some H;refine (c492 h7).go ?_;(conv=>whnf);refine ⟨by trivial,?_⟩;(conv=>whnf);refine ⟨?_, trivial⟩;(conv=>whnf);refine ⟨by trivial,?_⟩;(conv=>whnf);refine pw_ret ?_;(conv=>whnf)
   cases H; show ∃ D, Fz _ D 0 (.tuple ⟨[(.agg ⟨[(VS 4 _), (VS 6 _), (VS 2 _), (.int .i64 y1.2.2.2.1)]⟩), (.int .i64 y6)]⟩) _;exact ⟨fun _ => false, .tuplel (.cons .cl (.cons .cl (.nil)))⟩
noncomputable def f511 [LO] (p0 : Int → Option Bool) (a0 : Int) (a1 : Int) : Option Int :=
 obnd (
 oloop (τ := Int × Int) (ρ := Int) (fun e5 =>
 oite ((ilt e5.1 e5.2)) (
 obnd (p0 ((IntKind.i64.wrap (e5.1 + (IntKind.i64.wrap ((IntKind.i64.wrap (e5.2 - e5.1)).tdiv (2 : Int))))))) fun (y9 : Bool) =>
 oite y9 (
 some (.inl ((e5.1, (IntKind.i64.wrap (e5.1 + (IntKind.i64.wrap ((IntKind.i64.wrap (e5.2 - e5.1)).tdiv (2 : Int))))))))
 ) (
 some (.inl (((IntKind.i64.wrap ((IntKind.i64.wrap (e5.1 + (IntKind.i64.wrap ((IntKind.i64.wrap (e5.2 - e5.1)).tdiv (2 : Int))))) + (1 : Int))), e5.2))))
 ) (
 some (.inr (e5.1)))
 ) (a0, a1)
 ) fun (r1 : Int) =>
 some r1
theorem c511 [LO] {p0 : Int → Option Bool} {a0 : Int} {a1 : Int} {g0 : Value} [Cl g0] (hp0 : ∀ y0 y, p0 y0 = some y → ICallV E g0 [(.int .i64 y0)] AHeap.none fun v _ => v = (.bool y)) {x : Int} (H : f511 p0 a0 a1 = some x) : ICalls E 511 [(.int .i64 a0), (.int .i64 a1), g0] AHeap.none fun v _ => v = (.int .i64 x) := by
 refine icalls_fn (pfnw ?_); unfold f511 at H;(conv=>whnf);refine pwa ?_;(conv=>whnf);obtain ⟨r1, h2, H⟩ := obnd_some H;refine pw_join (ρ := Int) (fun e => ⟨[(0, (.int .i64 e))], ⟨0, [], false⟩⟩) r1 ?_ ?_
 · refine pw_block ?_;refine pw_loop (τ := Int × Int) (fun e => ⟨[(0, (.int .i64 e.1)), (1, (.int .i64 e.2)), (2, g0)], ⟨0, [], false⟩⟩) h2 ?_ (fun _ => nl rfl) ?_
   · exact .sub' (nl rfl) (.cons rfl (.cons rfl (.cons rfl .nil)))
   · intro e5 x6 h7;refine pw_seq ?_;refine pwa ?_;(conv=>whnf);refine pw_cond ?_;(conv=>whnf);refine pbr_oite h7 (fun g8 h7 => ?_) (fun g8 h7 => ?_)
     · (conv=>whnf);refine pw_skip ?_;(conv=>whnf);refine pw_block ?_;refine pwa ?_;(conv=>whnf);refine pwa ?_;(conv=>whnf);obtain ⟨y9, h10, h7⟩ := obnd_some h7;refine ICallV.go (hp0 _ _ h10) ?_;(conv=>whnf);refine pw_cond ?_;(conv=>whnf);refine pbr_oite h7 (fun g11 h7 => ?_) (fun g11 h7 => ?_)
       · (conv=>whnf);refine pw_ops ?_;refine po_all ?_;(conv=>whnf);cases h7;refine ⟨_, rfl, ?_⟩;exact .sub' (nl rfl) (.cons rfl (.cons rfl (.cons rfl .nil)))
       · (conv=>whnf);refine pw_ops ?_;refine po_all ?_;(conv=>whnf);cases h7;refine ⟨_, rfl, ?_⟩;exact .sub' (nl rfl) (.cons rfl (.cons rfl (.cons rfl .nil)))
     · (conv=>whnf);refine pw_exit ?_;(conv=>whnf);cases h7;refine ⟨_, rfl, ?_⟩; rintro rfl;(conv=>whnf);exact ⟨(.cons rfl .nil), rfl⟩
 · refine pwa ?_;(conv=>whnf);refine pw_ret ?_;(conv=>whnf);cases H; rfl
noncomputable def f512 [LO]  (a0 : Int) (a1 : List (ByteArray × Bool × Int × Int)) (a2 : List (ByteArray × Int × Int × Int × Bool × Bool)) (a3 : List (Int × Int)) (a4 : Int) : Option Bool :=
 obnd (f513 a1 a2 a3 a4 a0) fun (y1 : Int) =>
 some (ile (0 : Int) y1)
theorem c512 [LO]  {a0 : Int} {a1 : List (ByteArray × Bool × Int × Int)} {a2 : List (ByteArray × Int × Int × Int × Bool × Bool)} {a3 : List (Int × Int)} {a4 : Int} {x : Bool} (H : f512 a0 a1 a2 a3 a4 = some x) : ICallV E (.func (.func (E.id 512)) ⟨[]⟩ ⟨[(VP (.agg ⟨[(VS 4 (a1.map e_SBII)), (VS 6 (a2.map e_SIIIBB)), (VS 2 (a3.map e_II)), (.int .i64 a4)]⟩) 0)]⟩) [(.int .i64 a0)] AHeap.none fun v _ => v = (.bool x) := by
 refine icallv_fn (pfnw ?_); unfold f512 at H;(conv=>whnf);refine pwa ?_;(conv=>whnf);refine pwa ?_;(conv=>whnf);obtain ⟨y1, h2, H⟩ := obnd_some H;refine (c513 h2).go ?_;(conv=>whnf);refine pw_ret ?_;(conv=>whnf);cases H; rfl
noncomputable def f496 [LO]  (a0 : List (ByteArray × Bool × Int × Int)) (a1 : List (ByteArray × Int × Int × Int × Bool × Bool)) (a2 : List (Int × Int)) (a3 : Int) : Option (Int × Int) :=
 oite ((ilt a3 (0 : Int))) (
 some ((0 : Int), (0 : Int))
 ) (
 obnd (f511 (fun (z0 : Int) => f512 z0 a0 a1 a2 a3) (-200000 : Int) (200000 : Int)) fun (y2 : Int) =>
 obnd (f513 a0 a1 a2 a3 y2) fun (y4 : Int) =>
 oite ((ieq y4 (0 : Int))) (
 some (y2, y2)
 ) (
 some ((IntKind.i64.wrap (y2 - (1 : Int))), y2)))
theorem c496 [LO]  {a0 : List (ByteArray × Bool × Int × Int)} {a1 : List (ByteArray × Int × Int × Int × Bool × Bool)} {a2 : List (Int × Int)} {a3 : Int} {x : Int × Int} (H : f496 a0 a1 a2 a3 = some x) : ICalls E 496 [(.agg ⟨[(VS 4 (a0.map e_SBII)), (VS 6 (a1.map e_SIIIBB)), (VS 2 (a2.map e_II)), (.int .i64 a3)]⟩)] AHeap.none fun v _ => v = (.agg ⟨[(.int .i64 x.1), (.int .i64 x.2)]⟩) := by
 refine icalls_fn (pfnw ?_); unfold f496 at H;(conv=>whnf);refine pwa ?_;(conv=>whnf);refine pw_seq ?_;refine pwa ?_;(conv=>whnf);refine pw_cond ?_;(conv=>whnf);refine pbr_oite H (fun g1 H => ?_) (fun g1 H => ?_)
 · (conv=>whnf);refine pwa ?_;(conv=>whnf);refine pw_ret ?_;(conv=>whnf);cases H; rfl
 · (conv=>whnf);refine pw_skip ?_;(conv=>whnf);refine pwa ?_;(conv=>whnf);obtain ⟨y2, h3, H⟩ := obnd_some H;refine ICalls.goD (c511 (fun _ _ h => (c512 h)) h3) (.cons .cl (.cons .cl (.cons (.func .nil (.cons (.ptr rfl (by intro v hv; simp only [List.mem_cons, List.not_mem_nil, or_false] at hv; rcases hv with rfl | rfl | rfl | rfl <;> rfl)) .nil)) .nil))) rfl ?_;(conv=>whnf);refine pw_seq ?_;refine pwa ?_;(conv=>whnf);obtain ⟨y4, h5, H⟩ := obnd_some H;refine (c513 h5).go ?_;(conv=>whnf);refine pw_cond ?_;(conv=>whnf);refine pbr_oite H (fun g6 H => ?_) (fun g6 H => ?_)
   · (conv=>whnf);refine pwa ?_;(conv=>whnf);refine pw_ret ?_;(conv=>whnf);cases H; rfl
   · (conv=>whnf);refine pw_skip ?_;(conv=>whnf);refine pwa ?_;(conv=>whnf);refine pw_ret ?_;(conv=>whnf);cases H; rfl
noncomputable def f482 [LO]  (a0 : List (ByteArray × Bool × Int × Int)) (a1 : List (ByteArray × Int × Int × Int × Bool × Bool)) : Option (Int × Int × Int) :=
 obnd (f495 a0 a1) fun (y1 : (List (ByteArray × Bool × Int × Int)) × (List (ByteArray × Int × Int × Int × Bool × Bool)) × (List (Int × Int)) × Int × Int) =>
 oite ((!(ieq y1.2.2.2.2 (0 : Int)))) (
 some ((0 : Int), (0 : Int), y1.2.2.2.2)
 ) (
 obnd (f496 y1.1 y1.2.1 y1.2.2.1 y1.2.2.2.1) fun (y4 : Int × Int) =>
 some (y4.1, y4.2, (0 : Int)))
theorem c482 [LO]  {a0 : List (ByteArray × Bool × Int × Int)} {a1 : List (ByteArray × Int × Int × Int × Bool × Bool)} {x : Int × Int × Int} (H : f482 a0 a1 = some x) : ICalls E 482 [(.agg ⟨[(VS 4 (a0.map e_SBII)), (VS 6 (a1.map e_SIIIBB))]⟩)] AHeap.none fun v _ => v = (.tuple ⟨[(.agg ⟨[(.int .i64 x.1), (.int .i64 x.2.1)]⟩), (.int .i64 x.2.2)]⟩) := by
 refine icalls_fn (pfnw ?_); unfold f482 at H;(conv=>whnf);refine pwa ?_;(conv=>whnf);refine pwa ?_;(conv=>whnf);obtain ⟨y1, h2, H⟩ := obnd_some H;refine (c495 h2).go ?_;(conv=>whnf);refine pw_seq ?_;refine pwa ?_;(conv=>whnf);refine pw_cond ?_;(conv=>whnf);refine pbr_oite H (fun g3 H => ?_) (fun g3 H => ?_)
 · (conv=>whnf);refine pwa ?_;(conv=>whnf);refine pw_ret ?_;(conv=>whnf);cases H; rfl
 · (conv=>whnf);refine pw_skip ?_;(conv=>whnf);refine pwa ?_;(conv=>whnf);obtain ⟨y4, h5, H⟩ := obnd_some H;refine (c496 h5).go ?_;(conv=>whnf);refine pw_ret ?_;(conv=>whnf);cases H; rfl
noncomputable def f484   : Option ((List (ByteArray × Bool × Int × Int)) × (List (ByteArray × Int × Int × Int × Bool × Bool))) :=
 some (([((⟨#[115]⟩ : ByteArray), true, (0 : Int), (0 : Int)), ((⟨#[116]⟩ : ByteArray), false, (0 : Int), (0 : Int)), ((⟨#[117]⟩ : ByteArray), false, (0 : Int), (0 : Int))] : List (ByteArray × Bool × Int × Int)), ([((⟨#[112]⟩ : ByteArray), (0 : Int), (1 : Int), (0 : Int), true, false), ((⟨#[113]⟩ : ByteArray), (1 : Int), (2 : Int), (0 : Int), false, true)] : List (ByteArray × Int × Int × Int × Bool × Bool)))
theorem c484   {x : (List (ByteArray × Bool × Int × Int)) × (List (ByteArray × Int × Int × Int × Bool × Bool))} (H : f484 = some x) : ICalls E 484 [] AHeap.none fun v _ => v = (.agg ⟨[(VS 4 (x.1.map e_SBII)), (VS 6 (x.2.map e_SIIIBB))]⟩) := by
 refine ICalls.frz ?_;refine icalls_fn (pfnw ?_); unfold f484 at H;(conv=>whnf);refine pwa ?_;(conv=>whnf);refine pwa ?_;(conv=>whnf);refine pw_ret ?_;(conv=>whnf);cases H; show ∃ D, Fz _ D 0 (.agg ⟨[(VT 4 (([((⟨#[115]⟩ : ByteArray), true, (0 : Int), (0 : Int)), ((⟨#[116]⟩ : ByteArray), false, (0 : Int), (0 : Int)), ((⟨#[117]⟩ : ByteArray), false, (0 : Int), (0 : Int))] : List (ByteArray × Bool × Int × Int)).map e_SBII) 1), (VT 6 (([((⟨#[112]⟩ : ByteArray), (0 : Int), (1 : Int), (0 : Int), true, false), ((⟨#[113]⟩ : ByteArray), (1 : Int), (2 : Int), (0 : Int), false, true)] : List (ByteArray × Int × Int × Int × Bool × Bool)).map e_SIIIBB) 2)]⟩) _
 exact ⟨fun _ => false, .aggl (.cons .vtc (.cons .vtc (.nil)))⟩
noncomputable def f508  (a0 : List (ByteArray × Int × Int × Int × Bool × Bool)) : Option ((List (ByteArray × Int × Int × Int × Bool × Bool))) :=
 ogrd (!a0.isEmpty) (
 ogrd (fits 48 (([] : List (ByteArray × Int × Int × Int × Bool × Bool)).length + a0.length)) (
 some (([] : List (ByteArray × Int × Int × Int × Bool × Bool)) ++ a0)))
theorem c508  {a0 : List (ByteArray × Int × Int × Int × Bool × Bool)} {x : (List (ByteArray × Int × Int × Int × Bool × Bool))} (H : f508 a0 = some x) : ICalls E 508 [(VS 6 (a0.map e_SIIIBB))] AHeap.none fun v h' => ∃ b n, v = VT 6 (x.map e_SIIIBB) b ∧ n = (x.map e_SIIIBB).length ∧ h'.get b = some (.tail n 6) := by
 refine icalls_fn (pfnw ?_); unfold f508 at H;(conv=>whnf);refine pwa ?_;(conv=>whnf);refine pw_seq ?_;refine pwa ?_;(conv=>whnf);obtain ⟨g1, H⟩ := ogrd_some H;refine xnil_o rfl g1 ?_;(conv=>whnf);refine pw_cond ?_;(conv=>whnf);refine pw_skip ?_;(conv=>whnf);refine pwa ?_;(conv=>whnf);refine app_o (l := ([] : List (ByteArray × Int × Int × Int × Bool × Bool))) (m := a0) (f := e_SIIIBB) H (by rfl) (by rfl) (by rfl) (fun H => ?_);(conv=>whnf);refine pw_ret ?_;(conv=>whnf);cases H;exact ⟨0, _, rfl, rfl, rfl⟩
noncomputable def f494  (a0 : List (ByteArray × Bool × Int × Int)) (a1 : List (ByteArray × Int × Int × Int × Bool × Bool)) (a2 : Int) (a3 : Bool) : Option ((List (ByteArray × Bool × Int × Int)) × (List (ByteArray × Int × Int × Int × Bool × Bool))) :=
 obnd (
 obnd (f508 a1) fun (y5 : (List (ByteArray × Int × Int × Int × Bool × Bool))) =>
 ogrd (!y5.isEmpty) (
 some (y5.length, y5))
 ) fun (r1 : Nat × (List (ByteArray × Int × Int × Int × Bool × Bool))) =>
 ogrd ((ile 0 a2)) (
 ogrd ((ilt a2 (r1.1 : Int))) (
 obnd (r1.2[a2.toNat]?) fun (x10 : ByteArray × Int × Int × Int × Bool × Bool) =>
 ogrd (Nat.beq r1.1 (r1.2.set a2.toNat (x10.1, x10.2.1, x10.2.2.1, x10.2.2.2.1, x10.2.2.2.2.1, a3)).length) (
 some (a0, (r1.2.set a2.toNat (x10.1, x10.2.1, x10.2.2.1, x10.2.2.2.1, x10.2.2.2.2.1, a3))))))
theorem c494  {a0 : List (ByteArray × Bool × Int × Int)} {a1 : List (ByteArray × Int × Int × Int × Bool × Bool)} {a2 : Int} {a3 : Bool} {x : (List (ByteArray × Bool × Int × Int)) × (List (ByteArray × Int × Int × Int × Bool × Bool))} (H : f494 a0 a1 a2 a3 = some x) : ICalls E 494 [(.agg ⟨[(VS 4 (a0.map e_SBII)), (VS 6 (a1.map e_SIIIBB))]⟩), (.int .i64 a2), (.bool a3)] AHeap.none fun v _ => v = (.agg ⟨[(VS 4 (x.1.map e_SBII)), (VS 6 (x.2.map e_SIIIBB))]⟩) := by
 refine ICalls.frz ?_;refine icalls_fn (pfnw ?_); unfold f494 at H;(conv=>whnf);refine pwa ?_;(conv=>whnf);obtain ⟨r1, h2, H⟩ := obnd_some H;refine pw_joinR (ρ := Nat × (List (ByteArray × Int × Int × Int × Bool × Bool))) (fun e => ⟨[(1, (.int .i64 a2)), (2, (.bool a3)), (6, (.pointer (some ⟨1, 0, none⟩))), (7, (.pointer (some ⟨3, 0, none⟩)))], ⟨4, [(3, .rw [(VS 4 (a0.map e_SBII)), (.slice (some ⟨2, 0, none⟩) e.1 1)]), (2, .rw (flat (e.2.map e_SIIIBB))), (1, .rw [(.slice none 0 0), (.slice none 0 0)]), (0, .rw [(VS 4 (a0.map e_SBII)), (VS 6 (a1.map e_SIIIBB))])], false⟩⟩) r1 ?_ ?_
 · refine pw_draw ?_;(conv=>whnf);refine ⟨?_, ?_⟩
   · (conv=>whnf);obtain ⟨y5, h6, h2⟩ := obnd_some h2;obtain ⟨g7, h2⟩ := ogrd_some h2;refine ICalls.goS (f := e_SIIIBB) (ICalls.unS rfl v_e_SIIIBB g7 (c508 h6)) (.cons (.refl _) .nil) ?_;(conv=>whnf);refine ⟨by trivial,?_⟩;(conv=>whnf);refine ⟨?_, trivial⟩;(conv=>whnf);refine ⟨by trivial,?_⟩;(conv=>whnf);refine ⟨?_, trivial⟩;(conv=>whnf);refine ⟨by trivial,?_⟩;(conv=>whnf);cases h2;exact Recast.fz (fun _ => false) (nl rfl) (.cons (.same rfl rfl (OBnd.rwl (nl rfl) rfl (.cons .cl (.cons (.slice (nl rfl)) .nil)))) (.cons (.same rfl rfl (OBnd.rwc (nl rfl) oneL_flat)) (.cons (.same rfl rfl (OBnd.rwl (nl rfl) rfl (.cons .cl (.cons .cl .nil)))) (.cons (.same rfl rfl (OBnd.rwl (nl rfl) rfl (.cons .cl (.cons .cl .nil)))) .nil)))) (.cons rfl (.same _ .cl) (.cons rfl (.same _ .cl) (.cons rfl (.same _ (.ptr (nl rfl))) (.cons rfl (.same _ (.ptr (nl rfl))) .nil))))
   · obtain ⟨y5, h6, h2⟩ := obnd_some h2;obtain ⟨g7, h2⟩ := ogrd_some h2;(conv=>whnf);refine ⟨?_, trivial⟩;(conv=>whnf);refine ⟨by trivial,?_⟩;(conv=>whnf);refine ⟨?_, trivial⟩;(conv=>whnf);refine ICalls.goS (f := e_SIIIBB) (ICalls.unS rfl v_e_SIIIBB g7 (c508 h6)) (.cons (.refl _) .nil) ?_;(conv=>whnf);refine ⟨by trivial,?_⟩;(conv=>whnf);refine ⟨?_, trivial⟩;(conv=>whnf);refine ⟨by trivial,?_⟩;(conv=>whnf);cases h2;refine Recast.trans (s' := ⟨[(1, (.int .i64 a2)), (2, (.bool a3)), (6, (.pointer (some ⟨1, 0, none⟩))), (7, (.pointer (some ⟨4, 0, none⟩)))], ⟨5, [(3, .rw (flat (y5.map e_SIIIBB))), (4, .rw [(VS 4 (a0.map e_SBII)), (.slice (some ⟨3, 0, none⟩) y5.length 1)]), (1, .rw [(.slice none 0 0), (.slice none 0 0)]), (0, .rw [(VS 4 (a0.map e_SBII)), (VS 6 (a1.map e_SIIIBB))])], false⟩⟩) (Recast.mv 2 4 (nl rfl) (nl rfl) (.cons (.rw (nn rfl) (nn rfl) (nl rfl) rfl oneL_flat .cl) (.cons (.mv rfl (nl rfl) rfl rfl (.of (.cons .cl (.cons (.slice (nn rfl) (nl rfl)) .nil)))) (.cons (.rw (nn rfl) (nn rfl) (nl rfl) rfl rfl (.of (.cons .cl (.cons .cl .nil)))) (.cons (.rw (nn rfl) (nn rfl) (nl rfl) rfl rfl (.of (.cons .cl (.cons .cl .nil)))) .nil)))) (.cons rfl .cl (.cons rfl .cl (.cons rfl (.ptr (nn rfl) (nl rfl)) (.cons rfl (.ptrm (nl rfl)) .nil))))) ?_
     refine Recast.trans (s' := ⟨[(1, (.int .i64 a2)), (2, (.bool a3)), (6, (.pointer (some ⟨1, 0, none⟩))), (7, (.pointer (some ⟨4, 0, none⟩)))], ⟨6, [(5, .rw (flat (y5.map e_SIIIBB))), (4, .rw [(VS 4 (a0.map e_SBII)), (.slice (some ⟨5, 0, none⟩) y5.length 1)]), (1, .rw [(.slice none 0 0), (.slice none 0 0)]), (0, .rw [(VS 4 (a0.map e_SBII)), (VS 6 (a1.map e_SIIIBB))])], false⟩⟩) (Recast.mv 3 5 (nl rfl) (nl rfl) (.cons (.mv rfl (nl rfl) rfl oneL_flat .cl) (.cons (.rw (nn rfl) (nn rfl) (nl rfl) rfl rfl (.of (.cons .cl (.cons (.slicem (nl rfl)) .nil)))) (.cons (.rw (nn rfl) (nn rfl) (nl rfl) rfl rfl (.of (.cons .cl (.cons .cl .nil)))) (.cons (.rw (nn rfl) (nn rfl) (nl rfl) rfl rfl (.of (.cons .cl (.cons .cl .nil)))) .nil)))) (.cons rfl .cl (.cons rfl .cl (.cons rfl (.ptr (nn rfl) (nl rfl)) (.cons rfl (.ptr (nn rfl) (nl rfl)) .nil))))) ?_
     refine Recast.trans (s' := ⟨[(1, (.int .i64 a2)), (2, (.bool a3)), (6, (.pointer (some ⟨1, 0, none⟩))), (7, (.pointer (some ⟨3, 0, none⟩)))], ⟨6, [(5, .rw (flat (y5.map e_SIIIBB))), (3, .rw [(VS 4 (a0.map e_SBII)), (.slice (some ⟨5, 0, none⟩) y5.length 1)]), (1, .rw [(.slice none 0 0), (.slice none 0 0)]), (0, .rw [(VS 4 (a0.map e_SBII)), (VS 6 (a1.map e_SIIIBB))])], false⟩⟩) (Recast.mv 4 3 (nl rfl) (nl rfl) (.cons (.rw (nn rfl) (nn rfl) (nl rfl) rfl oneL_flat .cl) (.cons (.mv rfl (nl rfl) rfl rfl (.of (.cons .cl (.cons (.slice (nn rfl) (nl rfl)) .nil)))) (.cons (.rw (nn rfl) (nn rfl) (nl rfl) rfl rfl (.of (.cons .cl (.cons .cl .nil)))) (.cons (.rw (nn rfl) (nn rfl) (nl rfl) rfl rfl (.of (.cons .cl (.cons .cl .nil)))) .nil)))) (.cons rfl .cl (.cons rfl .cl (.cons rfl (.ptr (nn rfl) (nl rfl)) (.cons rfl (.ptrm (nl rfl)) .nil))))) ?_
     exact (Recast.mv 5 2 (nl rfl) (nl rfl) (.cons (.rw (nn rfl) (nn rfl) (nl rfl) rfl rfl (.of (.cons .cl (.cons (.slicem (nl rfl)) .nil)))) (.cons (.mv rfl (nl rfl) rfl oneL_flat .cl) (.cons (.rw (nn rfl) (nn rfl) (nl rfl) rfl rfl (.of (.cons .cl (.cons .cl .nil)))) (.cons (.rw (nn rfl) (nn rfl) (nl rfl) rfl rfl (.of (.cons .cl (.cons .cl .nil)))) .nil)))) (.cons rfl .cl (.cons rfl .cl (.cons rfl (.ptr (nn rfl) (nl rfl)) (.cons rfl (.ptr (nn rfl) (nl rfl)) .nil)))))
 · refine pwa ?_;(conv=>whnf);refine pbr_ogrd H (fun g8 H => ?_);(conv=>whnf);refine pbr_ogrd H (fun g9 H => ?_);(conv=>whnf);obtain ⟨x10, h11, H⟩ := obnd_some H;refine set_st (f := e_SIIIBB) (l := r1.2) (n := a2.toNat) (j := 5) (x := x10) (y := (x10.1, x10.2.1, x10.2.2.1, x10.2.2.2.1, x10.2.2.2.2.1, a3)) h11 rfl rfl rfl ?_;(conv=>whnf);refine pwa ?_;(conv=>whnf);refine pw_ret ?_;(conv=>whnf);obtain ⟨g12, H⟩ := ogrd_some H;cases H; show ∃ D, Fz _ D 0 (.agg ⟨[(VS 4 _), (.slice (some ⟨2, 0, none⟩) r1.1 1)]⟩) _;exact ⟨fun b => Nat.beq b 2, .aggl (.cons .cl (.cons (.sls rfl rfl rfl g12) (.nil)))⟩
noncomputable def f506 [LO] (p0 : Int → Option Bool) (a0 : List (ByteArray × Bool × Int × Int)) (a1 : List (ByteArray × Int × Int × Int × Bool × Bool)) (a2 : List Int) : Option ((List Bool)) :=
 ogrd (mfits 1 ((a0.map e_SBII).length : Int) ((a0.map e_SBII).length : Int)) (
 obnd (
 oloop (τ := Int × (List Bool)) (ρ := (List Bool)) (fun e6 =>
 oite ((ilt e6.1 ((a2.map eI).length : Int))) (
 ogrd ((ile 0 e6.1)) (
 obnd (a2[e6.1.toNat]?) fun (x11 : Int) =>
 ogrd ((ile 0 x11)) (
 ogrd ((ilt x11 (((a0.map e_SBII).length : Int).toNat : Int))) (
 ogrd (Nat.blt x11.toNat e6.2.length) (
 some (.inl (((IntKind.i64.wrap (e6.1 + (1 : Int))), (e6.2.set x11.toNat true))))))))
 ) (
 some (.inr (e6.2)))
 ) (((0 : Int), (List.replicate ((a0.map e_SBII).length : Int).toNat false)))
 ) fun (r2 : (List Bool)) =>
 obnd (
 oloop (τ := Bool × (List Bool)) (ρ := (List Bool)) (fun e20 =>
 oite e20.1 (
 oloop (τ := Bool × Int × (List Bool)) (ρ := (Bool × (List Bool)) ⊕ ((List Bool))) (fun e24 =>
 oite ((ilt e24.2.1 ((a1.map e_SIIIBB).length : Int))) (
 ogrd ((ile 0 e24.2.1)) (
 obnd (a1[e24.2.1.toNat]?) fun (x29 : ByteArray × Int × Int × Int × Bool × Bool) =>
 obnd (
 obnd (p0 e24.2.1) fun (y34 : Bool) =>
 oite y34 (
 ogrd ((ile 0 x29.2.1)) (
 ogrd ((ilt x29.2.1 (((a0.map e_SBII).length : Int).toNat : Int))) (
 obnd (e24.2.2[x29.2.1.toNat]?) fun (x39 : Bool) =>
 ogrd ((ile 0 x29.2.2.1)) (
 ogrd ((ilt x29.2.2.1 (((a0.map e_SBII).length : Int).toNat : Int))) (
 obnd (e24.2.2[x29.2.2.1.toNat]?) fun (x44 : Bool) =>
 some (!(x39 == x44))))))
 ) (
 some false)
 ) fun (r30 : Bool) =>
 oite r30 (
 ogrd ((ile 0 x29.2.1)) (
 ogrd ((ilt x29.2.1 (((a0.map e_SBII).length : Int).toNat : Int))) (
 ogrd (Nat.blt x29.2.1.toNat e24.2.2.length) (
 ogrd ((ile 0 x29.2.2.1)) (
 ogrd ((ilt x29.2.2.1 (((a0.map e_SBII).length : Int).toNat : Int))) (
 ogrd (Nat.blt x29.2.2.1.toNat (e24.2.2.set x29.2.1.toNat true).length) (
 some (.inl ((true, (IntKind.i64.wrap (e24.2.1 + (1 : Int))), ((e24.2.2.set x29.2.1.toNat true).set x29.2.2.1.toNat true))))))))))
 ) (
 some (.inl (e24.1, (IntKind.i64.wrap (e24.2.1 + (1 : Int))), e24.2.2))))
 ) (
 some (.inr (.inl (e24.1, e24.2.2))))
 ) (false, (0 : Int), e20.2)
 ) (
 some (.inr (e20.2)))
 ) (true, r2)
 ) fun (r16 : (List Bool)) =>
 ogrd (Nat.beq ((a0.map e_SBII).length : Int).toNat r16.length) (
 some r16))
theorem c506 [LO] {p0 : Int → Option Bool} {a0 : List (ByteArray × Bool × Int × Int)} {a1 : List (ByteArray × Int × Int × Int × Bool × Bool)} {a2 : List Int} {g0 : Value} [Cl g0] (hp0 : ∀ y0 y, p0 y0 = some y → ICallV E g0 [(.int .i64 y0)] AHeap.none fun v _ => v = (.bool y)) {x : (List Bool)} (H : f506 p0 a0 a1 a2 = some x) : ICalls E 506 [(.agg ⟨[(VS 4 (a0.map e_SBII)), (VS 6 (a1.map e_SIIIBB))]⟩), (VS 1 (a2.map eI)), g0] AHeap.none fun v _ => v = (VS 1 (x.map eB)) := by
  refine ICalls.frz ?_;refine icalls_fn (pfnw ?_); unfold f506 at H;(conv=>whnf);refine pwa ?_;(conv=>whnf);refine pwa ?_;(conv=>whnf);obtain ⟨g1, H⟩ := ogrd_some H;refine mk_o (f := eB) (x := false) rfl g1 ?_;(conv=>whnf);obtain ⟨r2, h3, H⟩ := obnd_some H;refine pw_join (ρ := (List Bool)) (fun e => ⟨[(2, g0), (3, (.pointer (some ⟨0, 0, none⟩))), (7, (.slice (some ⟨1, 0, none⟩) ((a0.map e_SBII).length : Int).toNat 1))], ⟨2, [(1, .rw (e.map eB)), (0, .rw [(VS 4 (a0.map e_SBII)), (VS 6 (a1.map e_SIIIBB))])], false⟩⟩) r2 ?_ ?_
  · refine pwa ?_;(conv=>whnf);refine pw_block ?_;refine pw_loop (τ := Int × (List Bool)) (fun e => ⟨[(2, g0), (3, (.pointer (some ⟨0, 0, none⟩))), (7, (.slice (some ⟨1, 0, none⟩) ((a0.map e_SBII).length : Int).toNat 1)), (18, (VS 1 (a2.map eI))), (19, (.int .i64 ((a2.map eI).length : Int))), (20, (.int .i64 e.1))], ⟨2, [(1, .rw (e.2.map eB)), (0, .rw [(VS 4 (a0.map e_SBII)), (VS 6 (a1.map e_SIIIBB))])], false⟩⟩) h3 ?_ (fun _ => nl rfl) ?_
    · exact .sub' (nl rfl) (.cons rfl (.cons rfl (.cons rfl (.cons rfl (.cons rfl (.cons rfl .nil))))))
    · intro e6 x7 h8;refine pwa ?_;(conv=>whnf);refine pw_seq ?_;refine pw_cond ?_;(conv=>whnf);refine pbr_oite h8 (fun g9 h8 => ?_) (fun g9 h8 => ?_)
      · (conv=>whnf);refine pw_skip ?_;(conv=>whnf);refine pw_seq ?_;refine pw_block ?_;refine pwa ?_;(conv=>whnf);refine pbr_ogrd h8 (fun g10 h8 => ?_);(conv=>whnf);refine nth_o (l := a2) h8 (fun x11 _ h8 => ?_);(conv=>whnf);refine pw_ops ?_;refine po_all ?_;(conv=>whnf);refine pbr_ogrd h8 (fun g12 h8 => ?_);(conv=>whnf);refine pbr_ogrd h8 (fun g13 h8 => ?_);(conv=>whnf);obtain ⟨g14, h8⟩ := ogrd_some h8;refine set_a (l := e6.2) (f := eB) (x := true) g14 rfl ?_;(conv=>whnf);refine pw_ops ?_;refine po_all ?_;(conv=>whnf);cases h8;refine ⟨_, rfl, ?_⟩;exact .sub' (nl rfl) (.cons rfl (.cons rfl (.cons rfl (.cons rfl (.cons rfl (.cons rfl .nil))))))
      · (conv=>whnf);refine pw_exit ?_;(conv=>whnf);cases h8;refine ⟨_, rfl, ?_⟩; rintro rfl;(conv=>whnf);exact ⟨(.cons rfl (.cons rfl (.cons rfl .nil))), rfl⟩
  · obtain ⟨r16, h17, H⟩ := obnd_some H;refine pw_join (ρ := (List Bool)) (fun e => ⟨[(7, (.slice (some ⟨1, 0, none⟩) ((a0.map e_SBII).length : Int).toNat 1))], ⟨2, [(1, .rw (e.map eB)), (0, .rw [(VS 4 (a0.map e_SBII)), (VS 6 (a1.map e_SIIIBB))])], false⟩⟩) r16 ?_ ?_
    · refine pwa ?_;(conv=>whnf);refine pw_block ?_;refine pw_loop (τ := Bool × (List Bool)) (fun e => ⟨[(2, g0), (3, (.pointer (some ⟨0, 0, none⟩))), (7, (.slice (some ⟨1, 0, none⟩) ((a0.map e_SBII).length : Int).toNat 1)), (10, (.bool e.1))], ⟨2, [(1, .rw (e.2.map eB)), (0, .rw [(VS 4 (a0.map e_SBII)), (VS 6 (a1.map e_SIIIBB))])], false⟩⟩) h17 ?_ (fun _ => nl rfl) ?_
      · exact .sub' (nl rfl) (.cons rfl (.cons rfl (.cons rfl (.cons rfl .nil))))
      · intro e20 x21 h22;refine pw_seq ?_;refine pwa ?_;(conv=>whnf);refine pw_cond ?_;(conv=>whnf);refine pbr_oite h22 (fun g23 h22 => ?_) (fun g23 h22 => ?_)
        · (conv=>whnf);refine pw_skip ?_;(conv=>whnf);refine pw_block ?_;refine pwa ?_;(conv=>whnf);refine pwa ?_;(conv=>whnf);refine pw_block ?_;refine pw_loop (τ := Bool × Int × (List Bool)) (fun e => ⟨[(2, g0), (3, (.pointer (some ⟨0, 0, none⟩))), (7, (.slice (some ⟨1, 0, none⟩) ((a0.map e_SBII).length : Int).toNat 1)), (10, (.bool e.1)), (31, (VS 6 (a1.map e_SIIIBB))), (32, (.int .i64 ((a1.map e_SIIIBB).length : Int))), (33, (.int .i64 e.2.1))], ⟨2, [(1, .rw (e.2.2.map eB)), (0, .rw [(VS 4 (a0.map e_SBII)), (VS 6 (a1.map e_SIIIBB))])], false⟩⟩) h22 ?_ (fun _ => nl rfl) ?_
          · exact .sub' (nl rfl) (.cons rfl (.cons rfl (.cons rfl (.cons rfl (.cons rfl (.cons rfl (.cons rfl .nil)))))))
          · intro e24 x25 h26;refine pwa ?_;(conv=>whnf);refine pw_seq ?_;refine pw_cond ?_;(conv=>whnf);refine pbr_oite h26 (fun g27 h26 => ?_) (fun g27 h26 => ?_)
            · (conv=>whnf);refine pw_skip ?_;(conv=>whnf);refine pw_seq ?_;refine pw_block ?_;refine pwa ?_;(conv=>whnf);refine pbr_ogrd h26 (fun g28 h26 => ?_);(conv=>whnf);refine nth_o (l := a1) h26 (fun x29 _ h26 => ?_);(conv=>whnf);obtain ⟨r30, h31, h26⟩ := obnd_some h26;refine pw_join (ρ := Bool) (fun e => ⟨[(2, g0), (3, (.pointer (some ⟨0, 0, none⟩))), (7, (.slice (some ⟨1, 0, none⟩) ((a0.map e_SBII).length : Int).toNat 1)), (10, (.bool e24.1)), (12, (.pointer (some ⟨2, 0, none⟩))), (31, (VS 6 (a1.map e_SIIIBB))), (32, (.int .i64 ((a1.map e_SIIIBB).length : Int))), (33, (.int .i64 e24.2.1)), (53, (.bool e))], ⟨3, [(2, .rw [(.string x29.1), (.int .i64 x29.2.1), (.int .i64 x29.2.2.1), (.int .i64 x29.2.2.2.1), (.bool x29.2.2.2.2.1), (.bool x29.2.2.2.2.2)]), (1, .rw (e24.2.2.map eB)), (0, .rw [(VS 4 (a0.map e_SBII)), (VS 6 (a1.map e_SIIIBB))])], false⟩⟩) r30 ?_ ?_
              · refine pw_draw ?_;(conv=>whnf);refine ⟨?_, trivial⟩;(conv=>whnf);obtain ⟨y34, h35, h31⟩ := obnd_some h31;refine ICallV.go (hp0 _ _ h35) ?_;(conv=>whnf);refine ⟨by trivial,?_⟩;(conv=>whnf);refine pbr_oite h31 (fun g36 h31 => ?_) (fun g36 h31 => ?_)
                · (conv=>whnf);(iterate 3 refine pbr_t g36 ?_;(conv=>whnf));refine pbr_ogrd h31 (fun g37 h31 => ?_);(conv=>whnf);refine pbr_ogrd h31 (fun g38 h31 => ?_);(conv=>whnf);refine pbr_t g36 ?_;(conv=>whnf);refine nth_a (l := e24.2.2) (f := eB) h31 (fun x39 h40 h31 => ?_);(conv=>whnf);(iterate 4 refine pbr_t g36 ?_;(conv=>whnf));refine pbr_ogrd h31 (fun g42 h31 => ?_);(conv=>whnf);refine pbr_ogrd h31 (fun g43 h31 => ?_);(conv=>whnf);refine pbr_t g36 ?_;(conv=>whnf)
                  refine nth_a (l := e24.2.2) (f := eB) h31 (fun x44 h45 h31 => ?_);(conv=>whnf);refine pbr_t g36 ?_;(conv=>whnf);refine pbr_t g36 ?_;(conv=>whnf);cases h31;exact ⟨by (repeat refine .cons rfl ?_);exact .nil,rfl⟩
                · (conv=>whnf);(iterate 11 refine pbr_f g36 ?_;(conv=>whnf));cases h31;exact ⟨by (repeat refine .cons rfl ?_);exact .nil,rfl⟩
              · refine pw_cond ?_;(conv=>whnf);refine pbr_oite h26 (fun g47 h26 => ?_) (fun g47 h26 => ?_)
                · (conv=>whnf);refine pw_sd ?_;(conv=>whnf);refine pbr_ogrd h26 (fun g48 h26 => ?_);(conv=>whnf);refine pbr_ogrd h26 (fun g49 h26 => ?_);(conv=>whnf);refine ⟨?_, trivial⟩;(conv=>whnf);obtain ⟨g50, h26⟩ := ogrd_some h26;refine set_a (l := e24.2.2) (f := eB) (x := true) g50 rfl ?_;(conv=>whnf);refine ⟨by trivial,?_⟩;(conv=>whnf);refine pbr_ogrd h26 (fun g51 h26 => ?_);(conv=>whnf);refine pbr_ogrd h26 (fun g52 h26 => ?_);(conv=>whnf);refine ⟨?_, trivial⟩;(conv=>whnf);obtain ⟨g53, h26⟩ := ogrd_some h26;refine set_a (l := (e24.2.2.set x29.2.1.toNat true)) (f := eB) (x := true) g53 rfl ?_
                  (conv=>whnf);refine ⟨by trivial,?_⟩;(conv=>whnf);refine pw_ops ?_;refine po_all ?_;(conv=>whnf);refine pw_ops ?_;refine po_all ?_;(conv=>whnf);cases h26;refine ⟨_, rfl, ?_⟩;exact Recast.fz (fun _ => false) (nl rfl) (.cons (.same rfl rfl (OBnd.rwc (nl rfl) (oneL_map fun _ => rfl))) (.cons (.same rfl rfl (OBnd.rwl (nl rfl) rfl (.cons .cl (.cons .cl .nil)))) .nil)) (.cons rfl (.same _ .cl) (.cons rfl (.same _ (.ptr (nl rfl))) (.cons rfl (.same _ (.slice (nl rfl))) (.cons rfl (.same _ .cl) (.cons rfl (.same _ .cl) (.cons rfl (.same _ .cl) (.cons rfl (.same _ .cl) .nil)))))))
                · (conv=>whnf);refine pw_skip ?_;(conv=>whnf);refine pw_ops ?_;refine po_all ?_;(conv=>whnf);cases h26;refine ⟨_, rfl, ?_⟩;exact Recast.fz (fun _ => false) (nl rfl) (.cons (.same rfl rfl (OBnd.rwc (nl rfl) (oneL_map fun _ => rfl))) (.cons (.same rfl rfl (OBnd.rwl (nl rfl) rfl (.cons .cl (.cons .cl .nil)))) .nil)) (.cons rfl (.same _ .cl) (.cons rfl (.same _ (.ptr (nl rfl))) (.cons rfl (.same _ (.slice (nl rfl))) (.cons rfl (.same _ .cl) (.cons rfl (.same _ .cl) (.cons rfl (.same _ .cl) (.cons rfl (.same _ .cl) .nil)))))))
            · (conv=>whnf);refine pw_exit ?_;(conv=>whnf);cases h26;refine ⟨_, rfl, ?_⟩; rintro rfl;(conv=>whnf);refine ⟨_, rfl, ?_⟩;exact .sub' (nl rfl) (.cons rfl (.cons rfl (.cons rfl (.cons rfl .nil))))
        · (conv=>whnf);refine pw_exit ?_;(conv=>whnf);cases h22;refine ⟨_, rfl, ?_⟩; rintro rfl;(conv=>whnf);exact ⟨(.cons rfl .nil), rfl⟩
    · refine pwa ?_;(conv=>whnf);refine pw_ret ?_;(conv=>whnf);obtain ⟨g56, H⟩ := ogrd_some H;cases H;exact ⟨fun b => Nat.beq b 1, .slm rfl rfl g56 (fun _ => rfl)⟩
noncomputable def f503  (_ : List (ByteArray × Bool × Int × Int)) (a1 : List (ByteArray × Int × Int × Int × Bool × Bool)) (a2 : Int) : Option Bool :=
 ogrd ((ile 0 a2)) (
 obnd (a1[a2.toNat]?) fun (x2 : ByteArray × Int × Int × Int × Bool × Bool) =>
 some x2.2.2.2.2.2)
theorem c503  {a0 : List (ByteArray × Bool × Int × Int)} {a1 : List (ByteArray × Int × Int × Int × Bool × Bool)} {a2 : Int} {x : Bool} (H : f503 a0 a1 a2 = some x) : ICalls E 503 [(.agg ⟨[(VS 4 (a0.map e_SBII)), (VS 6 (a1.map e_SIIIBB))]⟩), (.int .i64 a2)] AHeap.none fun v _ => v = (.bool x) := by
 refine icalls_fn (pfnw ?_); unfold f503 at H;(conv=>whnf);refine pwa ?_;(conv=>whnf);refine pwa ?_;(conv=>whnf);refine pbr_ogrd H (fun g1 H => ?_);(conv=>whnf);refine nth_o (l := a1) H (fun x2 _ H => ?_);(conv=>whnf);refine pw_ret ?_;(conv=>whnf);cases H; rfl
noncomputable def f490 [LO]  (a0 : List (ByteArray × Bool × Int × Int)) (a1 : List (ByteArray × Int × Int × Int × Bool × Bool)) : Option ((List Bool)) :=
 obnd (f507 a0 a1) fun (y1 : (List Int)) =>
 obnd (f506 (fun (z0 : Int) => f503 a0 a1 z0) a0 a1 y1) fun (y3 : (List Bool)) =>
 obnd (
 oloop (τ := (List Bool) × Int) (ρ := (List Bool)) (fun e9 =>
 oite ((ilt e9.2 ((a1.map e_SIIIBB).length : Int))) (
 ogrd ((ile 0 e9.2)) (
 obnd (a1[e9.2.toNat]?) fun (x14 : ByteArray × Int × Int × Int × Bool × Bool) =>
 ogrd ((ile 0 x14.2.2.1)) (
 obnd (y3[x14.2.2.1.toNat]?) fun (x16 : Bool) =>
 obnd (
 oite x16 (
 some true
 ) (
 oite x14.2.2.2.2.2 (
 ogrd ((ile 0 x14.2.1)) (
 obnd (y3[x14.2.1.toNat]?) fun (x22 : Bool) =>
 some x22)
 ) (
 some false))
 ) fun (r17 : Bool) =>
 ogrd (fits 1 (e9.1.length + ([r17] : List Bool).length)) (
 some (.inl (((e9.1 ++ ([r17] : List Bool)), (IntKind.i64.wrap (e9.2 + (1 : Int)))))))))
 ) (
 some (.inr (e9.1)))
 ) ((([] : List Bool), (0 : Int)))
 ) fun (r5 : (List Bool)) =>
 some r5
theorem c490 [LO]  {a0 : List (ByteArray × Bool × Int × Int)} {a1 : List (ByteArray × Int × Int × Int × Bool × Bool)} {x : (List Bool)} (H : f490 a0 a1 = some x) : ICalls E 490 [(.agg ⟨[(VS 4 (a0.map e_SBII)), (VS 6 (a1.map e_SIIIBB))]⟩)] AHeap.none fun v h' => ∃ b n, v = VT 1 (x.map eB) b ∧ n = (x.map eB).length ∧ h'.get b = some (.tail n 1) := by
 refine icalls_fn (pfnw ?_); unfold f490 at H;(conv=>whnf);refine pwa ?_;(conv=>whnf);refine pw_sd ?_;(conv=>whnf);refine ⟨?_, trivial⟩;(conv=>whnf);obtain ⟨y1, h2, H⟩ := obnd_some H;refine (c507 h2).go ?_;(conv=>whnf);refine ⟨by trivial,?_⟩;(conv=>whnf);refine ⟨?_, trivial⟩;(conv=>whnf);obtain ⟨y3, h4, H⟩ := obnd_some H;refine (c506 (fun _ _ h => ICalls.bound (xs := [(.agg ⟨[(VS 4 (a0.map e_SBII)), (VS 6 (a1.map e_SIIIBB))]⟩)]) (c503 h)) h4).go ?_;(conv=>whnf);refine ⟨by trivial,?_⟩
 (conv=>whnf);refine pwa ?_;(conv=>whnf);obtain ⟨r5, h6, H⟩ := obnd_some H;refine pw_join (ρ := (List Bool)) (fun e => ⟨[(4, (VT 1 (e.map eB) 1))], ⟨2, [(1, .tail (e.map eB).length 1), (0, .rw [(VS 4 (a0.map e_SBII)), (VS 6 (a1.map e_SIIIBB))])], false⟩⟩) r5 ?_ ?_
 · refine pwa ?_;(conv=>whnf);refine pw_block ?_;refine pw_loop (τ := (List Bool) × Int) (fun e => ⟨[(3, (VS 1 (y3.map eB))), (4, (VT 1 (e.1.map eB) 1)), (15, (VS 6 (a1.map e_SIIIBB))), (16, (.int .i64 ((a1.map e_SIIIBB).length : Int))), (17, (.int .i64 e.2))], ⟨2, [(1, .tail (e.1.map eB).length 1), (0, .rw [(VS 4 (a0.map e_SBII)), (VS 6 (a1.map e_SIIIBB))])], false⟩⟩) h6 ?_ (fun _ => nl rfl) ?_
   · exact (Recast.nilTs 1 (nl rfl) (.same rfl (.turn rfl (.same rfl (.same rfl (.same rfl .nil))))))
   · intro e9 x10 h11;refine pwa ?_;(conv=>whnf);refine pw_seq ?_;refine pw_cond ?_;(conv=>whnf);refine pbr_oite h11 (fun g12 h11 => ?_) (fun g12 h11 => ?_)
     · (conv=>whnf);refine pw_skip ?_;(conv=>whnf);refine pw_seq ?_;refine pw_block ?_;refine pwa ?_;(conv=>whnf);refine pbr_ogrd h11 (fun g13 h11 => ?_);(conv=>whnf);refine nth_o (l := a1) h11 (fun x14 _ h11 => ?_);(conv=>whnf);refine pw_ops ?_;refine po_ops 7 ?_;(conv=>whnf);refine pbr_ogrd h11 (fun g15 h11 => ?_);(conv=>whnf);refine nth_o (l := y3) h11 (fun x16 _ h11 => ?_);(conv=>whnf);obtain ⟨r17, h18, h11⟩ := obnd_some h11;refine po_seg (τ := Bool) 10 (fun e => ⟨[(3, (VS 1 (y3.map eB))), (15, (VS 6 (a1.map e_SIIIBB))), (16, (.int .i64 ((a1.map e_SIIIBB).length : Int))), (17, (.int .i64 e9.2)), (21, (VT 1 (e9.1.map eB) 1)), (37, (.bool e))], ⟨3, [(2, .rw [(.string x14.1), (.int .i64 x14.2.1), (.int .i64 x14.2.2.1), (.int .i64 x14.2.2.2.1), (.bool x14.2.2.2.2.1), (.bool x14.2.2.2.2.2)]), (1, .tail (e9.1.map eB).length 1), (0, .rw [(VS 4 (a0.map e_SBII)), (VS 6 (a1.map e_SIIIBB))])], false⟩⟩) r17 ?_ ?_
       · refine po_all ?_;(conv=>whnf);refine pbr_oite h18 (fun g19 h18 => ?_) (fun g19 h18 => ?_)
         · (conv=>whnf);(iterate 4 refine pbr_t g19 ?_;(conv=>whnf));cases h18;exact ⟨by (repeat refine .cons rfl ?_);exact .nil,rfl⟩
         · (conv=>whnf);refine pbr_f g19 ?_;(conv=>whnf);refine pbr_f g19 ?_;(conv=>whnf);refine pbr_oite h18 (fun g20 h18 => ?_) (fun g20 h18 => ?_)
           · (conv=>whnf);(iterate 3 refine pbr_t g20 ?_;(conv=>whnf));refine pbr_ogrd h18 (fun g21 h18 => ?_);(conv=>whnf);refine nth_o (l := y3) h18 (fun x22 _ h18 => ?_);(conv=>whnf);refine pbr_t g20 ?_;(conv=>whnf);refine pbr_f g19 ?_;(conv=>whnf);refine pbr_t g20 ?_;(conv=>whnf);refine pbr_f g19 ?_;(conv=>whnf);cases h18;exact ⟨by (repeat refine .cons rfl ?_);exact .nil,rfl⟩
           · (conv=>whnf);(iterate 4 refine pbr_f g20 ?_;(conv=>whnf));refine pbr_f g19 ?_;(conv=>whnf);refine pbr_f g20 ?_;(conv=>whnf);refine pbr_f g19 ?_;(conv=>whnf);cases h18;exact ⟨by (repeat refine .cons rfl ?_);exact .nil,rfl⟩
       · refine po_all ?_;(conv=>whnf);refine app_o (l := e9.1) (m := ([r17] : List Bool)) (f := eB) h11 (by rfl) (by rfl) (by rfl) (fun h11 => ?_);(conv=>whnf);refine pw_ops ?_;refine po_all ?_;(conv=>whnf);cases h11;refine ⟨_, rfl, ?_⟩;refine Recast.trunc (nl rfl) ?_ ?_
         · repeat (first | exact .nil | refine .cons rfl (by first | exact OBnd.rwc (nl rfl) rfl | exact OBnd.tail (nl rfl) | trivial | exact OBnd.loop (nl rfl) .nil) ?_)
         · repeat (first | exact .nil | refine .cons rfl (by first | exact Bnd.ptr (nl rfl) | exact Bnd.vt (nl rfl) | exact Bnd.cl | exact Bnd.map (nl rfl)) ?_)
     · (conv=>whnf);refine pw_exit ?_;(conv=>whnf);cases h11;refine ⟨_, rfl, ?_⟩; rintro rfl;(conv=>whnf);exact ⟨(.cons rfl .nil), rfl⟩
 · refine pwa ?_;(conv=>whnf);refine pw_ret ?_;(conv=>whnf);cases H;exact ⟨1, _, rfl, rfl, rfl⟩
noncomputable def f489 [LO]  (a0 : List Bool) : Option ((List Int)) :=
 obnd (
 oloop (τ := (List Int) × Int) (ρ := (List Int)) (fun e5 =>
 oite ((ilt e5.2 ((a0.map eB).length : Int))) (
 ogrd ((ile 0 e5.2)) (
 obnd (a0[e5.2.toNat]?) fun (x10 : Bool) =>
 oite x10 (
 ogrd (fits 8 (e5.1.length + ([e5.2] : List Int).length)) (
 some (.inl (((e5.1 ++ ([e5.2] : List Int)), (IntKind.i64.wrap (e5.2 + (1 : Int)))))))
 ) (
 some (.inl (e5.1, (IntKind.i64.wrap (e5.2 + (1 : Int)))))))
 ) (
 some (.inr (e5.1)))
 ) ((([] : List Int), (0 : Int)))
 ) fun (r1 : (List Int)) =>
 some r1
theorem c489 [LO]  {a0 : List Bool} {x : (List Int)} (H : f489 a0 = some x) : ICalls E 489 [(VS 1 (a0.map eB))] AHeap.none fun v _ => v = (VS 1 (x.map eI)) := by
 refine ICalls.frz ?_;refine icalls_fn (pfnw ?_); unfold f489 at H;(conv=>whnf);refine pwa ?_;(conv=>whnf);refine pwa ?_;(conv=>whnf);obtain ⟨r1, h2, H⟩ := obnd_some H;refine pw_join (ρ := (List Int)) (fun e => ⟨[(3, (VT 1 (e.map eI) 0))], ⟨1, [(0, .tail (e.map eI).length 1)], false⟩⟩) r1 ?_ ?_
 · refine pwa ?_;(conv=>whnf);refine pw_block ?_;refine pw_loop (τ := (List Int) × Int) (fun e => ⟨[(3, (VT 1 (e.1.map eI) 0)), (6, (VS 1 (a0.map eB))), (7, (.int .i64 ((a0.map eB).length : Int))), (8, (.int .i64 e.2))], ⟨1, [(0, .tail (e.1.map eI).length 1)], false⟩⟩) h2 ?_ (fun _ => nl rfl) ?_
   · exact (Recast.nilTs 1 (nl rfl) (.turn rfl (.same rfl (.same rfl (.same rfl .nil)))))
   · intro e5 x6 h7;refine pwa ?_;(conv=>whnf);refine pw_seq ?_;refine pw_cond ?_;(conv=>whnf);refine pbr_oite h7 (fun g8 h7 => ?_) (fun g8 h7 => ?_)
     · (conv=>whnf);refine pw_skip ?_;(conv=>whnf);refine pw_seq ?_;refine pw_block ?_;refine pwa ?_;(conv=>whnf);refine pbr_ogrd h7 (fun g9 h7 => ?_);(conv=>whnf);refine nth_o (l := a0) h7 (fun x10 _ h7 => ?_);(conv=>whnf);refine pwa ?_;(conv=>whnf);refine pw_cond ?_;(conv=>whnf);refine pbr_oite h7 (fun g11 h7 => ?_) (fun g11 h7 => ?_)
       · (conv=>whnf);refine pw_ops ?_;refine po_all ?_;(conv=>whnf);refine app_o (l := e5.1) (m := ([e5.2] : List Int)) (f := eI) h7 (by rfl) (by rfl) (by rfl) (fun h7 => ?_);(conv=>whnf);refine pw_ops ?_;refine po_all ?_;(conv=>whnf);cases h7;refine ⟨_, rfl, ?_⟩;refine Recast.trunc (nl rfl) ?_ ?_
         · repeat (first | exact .nil | refine .cons rfl (by first | exact OBnd.rwc (nl rfl) rfl | exact OBnd.tail (nl rfl) | trivial | exact OBnd.loop (nl rfl) .nil) ?_)
         · repeat (first | exact .nil | refine .cons rfl (by first | exact Bnd.ptr (nl rfl) | exact Bnd.vt (nl rfl) | exact Bnd.cl | exact Bnd.map (nl rfl)) ?_)
       · (conv=>whnf);refine pw_skip ?_;(conv=>whnf);refine pw_ops ?_;refine po_all ?_;(conv=>whnf);cases h7;refine ⟨_, rfl, ?_⟩;exact .sub' (nl rfl) (.cons rfl (.cons rfl (.cons rfl (.cons rfl .nil))))
     · (conv=>whnf);refine pw_exit ?_;(conv=>whnf);cases h7;refine ⟨_, rfl, ?_⟩; rintro rfl;(conv=>whnf);exact ⟨(.cons rfl .nil), rfl⟩
 · refine pwa ?_;(conv=>whnf);refine pw_ret ?_;(conv=>whnf);cases H; show ∃ D, Fz _ D 0 (VT 1 _ 0) _;exact ⟨fun _ => false, .vtc⟩
noncomputable def f481 [LO]  (a0 : List (ByteArray × Bool × Int × Int)) (a1 : List (ByteArray × Int × Int × Int × Bool × Bool)) (a2 : Int) : Option ((List Int) × Int) :=
 obnd (f488 a0 a1) fun (y1 : (List (ByteArray × Bool × Int × Int)) × (List (ByteArray × Int × Int × Int × Bool × Bool)) × Int) =>
 obnd (f493 a2 (0 : Int) ((IntKind.i64.wrap (((a1.map e_SIIIBB).length : Int) - (1 : Int))))) fun (y3 : Bool) =>
 obnd (f492 y3 (6 : Int)) fun (y5 : Int) =>
 obnd (f491 ([y1.2.2, y5] : List Int)) fun (y7 : Int) =>
 oite ((!(ieq y7 (0 : Int)))) (
 some (([] : List Int), y7)
 ) (
 ogrd ((ile 0 a2)) (
 obnd (y1.2.1[a2.toNat]?) fun (x11 : ByteArray × Int × Int × Int × Bool × Bool) =>
 oite (!x11.2.2.2.2.1) (
 some (([] : List Int), (12 : Int))
 ) (
 obnd (f494 y1.1 y1.2.1 a2 false) fun (y13 : (List (ByteArray × Bool × Int × Int)) × (List (ByteArray × Int × Int × Int × Bool × Bool))) =>
 obnd (f490 y13.1 y13.2) fun (y15 : (List Bool)) =>
 obnd (f494 y1.1 y1.2.1 a2 true) fun (y17 : (List (ByteArray × Bool × Int × Int)) × (List (ByteArray × Int × Int × Int × Bool × Bool))) =>
 obnd (f490 y17.1 y17.2) fun (y19 : (List Bool)) =>
 ogrd (!y19.isEmpty) (
 obnd (
 oloop (τ := Int × (List Bool)) (ρ := (List Bool)) (fun e26 =>
 oite ((ilt e26.1 (y19.length : Int))) (
 ogrd ((ile 0 e26.1)) (
 obnd (e26.2[e26.1.toNat]?) fun (x31 : Bool) =>
 obnd (
 oite x31 (
 obnd (y15[e26.1.toNat]?) fun (x37 : Bool) =>
 some (!x37)
 ) (
 some false)
 ) fun (r34 : Bool) =>
 ogrd (Nat.blt e26.1.toNat e26.2.length) (
 some (.inl (((IntKind.i64.wrap (e26.1 + (1 : Int))), (e26.2.set e26.1.toNat r34))))))
 ) (
 oinr (
 ogrd (Nat.beq y19.length e26.2.length) (
 some e26.2)))
 ) ((0 : Int), y19)
 ) fun (r22 : (List Bool)) =>
 obnd (f489 r22) fun (y42 : (List Int)) =>
 some (y42, (0 : Int))))))
theorem c481 [LO]  {a0 : List (ByteArray × Bool × Int × Int)} {a1 : List (ByteArray × Int × Int × Int × Bool × Bool)} {a2 : Int} {x : (List Int) × Int} (H : f481 a0 a1 a2 = some x) : ICalls E 481 [(.agg ⟨[(VS 4 (a0.map e_SBII)), (VS 6 (a1.map e_SIIIBB))]⟩), (.int .i64 a2)] AHeap.none fun v _ => v = (.tuple ⟨[(VS 1 (x.1.map eI)), (.int .i64 x.2)]⟩) := by
 refine ICalls.frz ?_;refine icalls_fn (pfnw ?_); unfold f481 at H;(conv=>whnf);refine pwa ?_;(conv=>whnf);refine pwa ?_;(conv=>whnf);obtain ⟨y1, h2, H⟩ := obnd_some H;refine (c488 h2).go ?_;(conv=>whnf);refine pw_seq ?_;refine pwa ?_;(conv=>whnf);obtain ⟨y3, h4, H⟩ := obnd_some H;refine (c493 h4).go ?_;(conv=>whnf);obtain ⟨y5, h6, H⟩ := obnd_some H;refine (c492 h6).go ?_;(conv=>whnf);obtain ⟨y7, h8, H⟩ := obnd_some H;refine ICalls.goW (c491 h8) (.cons (.vt _ _ _) .nil) ?_;(conv=>whnf);refine pwa ?_;(conv=>whnf);refine pw_cond ?_;(conv=>whnf)
 refine pbr_oite H (fun g9 H => ?_) (fun g9 H => ?_)
 · (conv=>whnf);refine pwa ?_;(conv=>whnf);refine pw_ret ?_;(conv=>whnf);cases H; show ∃ D, Fz _ D 0 (.tuple ⟨[(.slice none 0 0), (.int .i64 y7)]⟩) _;exact ⟨fun _ => false, .tuplel (.cons (.nil _) (.cons .cl (.nil)))⟩
 · (conv=>whnf);refine pw_skip ?_;(conv=>whnf);refine pw_seq ?_;refine pwa ?_;(conv=>whnf);refine pbr_ogrd H (fun g10 H => ?_);(conv=>whnf);refine nth_o (l := y1.2.1) H (fun x11 _ H => ?_);(conv=>whnf);refine pw_cond ?_;(conv=>whnf);refine pbr_oite H (fun g12 H => ?_) (fun g12 H => ?_)
   · (conv=>whnf);refine pwa ?_;(conv=>whnf);refine pw_ret ?_;(conv=>whnf);cases H; show ∃ D, Fz _ D 0 (.tuple ⟨[(.slice none 0 0), (.int .i64 12)]⟩) _;exact ⟨fun _ => false, .tuplel (.cons (.nil _) (.cons .cl (.nil)))⟩
   · (conv=>whnf);refine pw_skip ?_;(conv=>whnf);refine pwa ?_;(conv=>whnf);obtain ⟨y13, h14, H⟩ := obnd_some H;refine (c494 h14).go ?_;(conv=>whnf);obtain ⟨y15, h16, H⟩ := obnd_some H;refine ICalls.goFW (c490 h16) (.cons (.refl _) .nil) ?_;(conv=>whnf);refine pwa ?_;(conv=>whnf);obtain ⟨y17, h18, H⟩ := obnd_some H;refine (c494 h18).go ?_;(conv=>whnf);obtain ⟨y19, h20, H⟩ := obnd_some H;obtain ⟨g21, H⟩ := ogrd_some H;refine ICalls.goN (f := eB) (ICalls.unN (fun _ => rfl) (fun _ => rfl) g21 (c490 h20)) (.cons (.refl _) .nil) ?_;(conv=>whnf);obtain ⟨r22, h23, H⟩ := obnd_some H
     refine pw_joinR (ρ := (List Bool)) (fun e => ⟨[(9, (VS 1 (e.map eB)))], ⟨5, [(3, .tail (y15.map eB).length 1), (2, .tail 2 1), (1, .rw [(VS 4 (y1.1.map e_SBII)), (VS 6 (y1.2.1.map e_SIIIBB))]), (0, .rw [(VS 4 (a0.map e_SBII)), (VS 6 (a1.map e_SIIIBB))])], false⟩⟩) r22 ?_ ?_
     · refine pwa ?_;(conv=>whnf);refine pw_block ?_;refine pw_loop (τ := Int × (List Bool)) (fun e => ⟨[(8, (VT 1 (y15.map eB) 3)), (9, (.slice (some ⟨4, 0, none⟩) y19.length 1)), (46, (.int .i64 (y19.length : Int))), (47, (.int .i64 e.1))], ⟨5, [(4, .rw (e.2.map eB)), (3, .tail (y15.map eB).length 1), (2, .tail 2 1), (1, .rw [(VS 4 (y1.1.map e_SBII)), (VS 6 (y1.2.1.map e_SIIIBB))]), (0, .rw [(VS 4 (a0.map e_SBII)), (VS 6 (a1.map e_SIIIBB))])], false⟩⟩) h23 ?_ (fun _ => nl rfl) ?_
       · exact .sub' (nl rfl) (.cons rfl (.cons rfl (.cons rfl (.cons rfl .nil))))
       · intro e26 x27 h28;refine pwa ?_;(conv=>whnf);refine pw_seq ?_;refine pw_cond ?_;(conv=>whnf);refine pbr_oite h28 (fun g29 h28 => ?_) (fun g29 h28 => ?_)
         · (conv=>whnf);refine pw_skip ?_;(conv=>whnf);refine pw_seq ?_;refine pw_block ?_;refine pwa ?_;(conv=>whnf);refine pw_ops ?_;refine po_ops 7 ?_;(conv=>whnf);refine pbr_ogrd h28 (fun g30 h28 => ?_);(conv=>whnf);refine pbr_t g29 ?_;(conv=>whnf);refine nth_a (l := e26.2) (f := eB) h28 (fun x31 h32 h28 => ?_);(conv=>whnf);obtain ⟨r34, h35, h28⟩ := obnd_some h28;refine po_seg (τ := Bool) 6 (fun e => ⟨[(8, (VT 1 (y15.map eB) 3)), (9, (.slice (some ⟨4, 0, none⟩) y19.length 1)), (46, (.int .i64 (y19.length : Int))), (47, (.int .i64 e26.1)), (50, (.slice (some ⟨4, 0, none⟩) y19.length 1)), (51, (.int .i64 e26.1)), (62, (.bool e))], ⟨5, [(4, .rw (e26.2.map eB)), (3, .tail (y15.map eB).length 1), (2, .tail 2 1), (1, .rw [(VS 4 (y1.1.map e_SBII)), (VS 6 (y1.2.1.map e_SIIIBB))]), (0, .rw [(VS 4 (a0.map e_SBII)), (VS 6 (a1.map e_SIIIBB))])], false⟩⟩) r34 ?_ ?_
           · refine po_all ?_;(conv=>whnf);refine pbr_oite h35 (fun g36 h35 => ?_) (fun g36 h35 => ?_)
             · (conv=>whnf);refine pbr_t g36 ?_;(conv=>whnf);refine pbr_t g36 ?_;(conv=>whnf);refine pbr_t g30 ?_;(conv=>whnf);refine nth_o (l := y15) h35 (fun x37 _ h35 => ?_);(conv=>whnf);(iterate 3 refine pbr_t g36 ?_;(conv=>whnf));cases h35;exact ⟨by (repeat refine .cons rfl ?_);exact .nil,rfl⟩
             · (conv=>whnf);(iterate 5 refine pbr_f g36 ?_;(conv=>whnf));cases h35;exact ⟨by (repeat refine .cons rfl ?_);exact .nil,rfl⟩
           · refine po_all ?_;(conv=>whnf);refine pbr_t g30 ?_;(conv=>whnf);refine pbr_t g29 ?_;(conv=>whnf);obtain ⟨g38, h28⟩ := ogrd_some h28;refine set_a (l := e26.2) (f := eB) (x := r34) g38 rfl ?_;(conv=>whnf);refine pw_ops ?_;refine po_all ?_;(conv=>whnf);cases h28;refine ⟨_, rfl, ?_⟩;exact .sub' (nl rfl) (.cons rfl (.cons rfl (.cons rfl (.cons rfl .nil))))
         · (conv=>whnf);refine pw_exit ?_;(conv=>whnf);obtain ⟨w41, rfl, h39⟩ := oinr_some h28;refine ⟨_, rfl, ?_⟩; rintro rfl;(conv=>whnf);obtain ⟨g40, h39⟩ := ogrd_some h39;cases h39;exact Recast.fz (fun b => Nat.beq b 4) (nl rfl) (.cons (.same rfl rfl (OBnd.tail (nl rfl))) (.cons (.same rfl rfl (OBnd.tail (nl rfl))) (.cons (.same rfl rfl (OBnd.rwl (nl rfl) rfl (.cons .cl (.cons .cl .nil)))) (.cons (.same rfl rfl (OBnd.rwl (nl rfl) rfl (.cons .cl (.cons .cl .nil)))) .nil)))) (.cons rfl (.slm rfl rfl g40 (fun _ => rfl)) .nil)
     · refine pwa ?_;(conv=>whnf);obtain ⟨y42, h43, H⟩ := obnd_some H;refine (c489 h43).go ?_;(conv=>whnf);refine pw_ret ?_;(conv=>whnf);cases H; show ∃ D, Fz _ D 0 (.tuple ⟨[(VS 1 _), (.int .i64 0)]⟩) _;exact ⟨fun _ => false, .tuplel (.cons .cl (.cons .cl (.nil)))⟩
noncomputable def f26 [LO]  (a0 : List Int) (a1 : List Int) : Option Bool :=
 oite ((!(ieq ((a0.map eI).length : Int) ((a1.map eI).length : Int)))) (
 some false
 ) (
 obndS (
 oloop (τ := Int) (ρ := (Unit) ⊕ Bool) (fun e6 =>
 oite ((ilt e6 ((a0.map eI).length : Int))) (
 ogrd ((ile 0 e6)) (
 obnd (a0[e6.toNat]?) fun (x11 : Int) =>
 obnd (a1[e6.toNat]?) fun (x12 : Int) =>
 oite ((!(ieq x11 x12))) (
 some (.inr (.inr (false)))
 ) (
 some (.inl (IntKind.i64.wrap (e6 + (1 : Int))))))
 ) (
 some (.inr (.inl ())))
 ) (0 : Int)
 ) fun (_ : Unit) =>
 some true)
theorem c26 [LO]  {a0 : List Int} {a1 : List Int} {x : Bool} (H : f26 a0 a1 = some x) : ICalls E 26 [(VS 1 (a0.map eI)), (VS 1 (a1.map eI))] AHeap.none fun v _ => v = (.bool x) := by
 refine icalls_fn (pfnw ?_); unfold f26 at H;(conv=>whnf);refine pwa ?_;(conv=>whnf);refine pw_seq ?_;refine pwa ?_;(conv=>whnf);refine pw_cond ?_;(conv=>whnf);refine pbr_oite H (fun g1 H => ?_) (fun g1 H => ?_)
 · (conv=>whnf);refine pwa ?_;(conv=>whnf);refine pw_ret ?_;(conv=>whnf);cases H; rfl
 · (conv=>whnf);refine pw_skip ?_;(conv=>whnf);obtain ⟨r2, h3, h4, h5⟩ := obndS_some H;refine pw_joinS (ρ := Unit) (fun e => ⟨[], ⟨0, [], false⟩⟩) r2 ?_ ?_
   · refine pwa ?_;(conv=>whnf);refine pw_block ?_;refine pw_loop (τ := Int) (fun e => ⟨[(0, (VS 1 (a0.map eI))), (1, (VS 1 (a1.map eI))), (5, (.int .i64 e))], ⟨0, [], false⟩⟩) h3 ?_ (fun _ => nl rfl) ?_
     · exact .sub' (nl rfl) (.cons rfl (.cons rfl (.cons rfl .nil)))
     · intro e6 x7 h8;refine pw_seq ?_;refine pwa ?_;(conv=>whnf);refine pw_cond ?_;(conv=>whnf);refine pbr_oite h8 (fun g9 h8 => ?_) (fun g9 h8 => ?_)
       · (conv=>whnf);refine pw_skip ?_;(conv=>whnf);refine pw_seq ?_;refine pw_block ?_;refine pw_sd ?_;(conv=>whnf);refine pbr_ogrd h8 (fun g10 h8 => ?_);(conv=>whnf);refine nth_o (l := a0) h8 (fun x11 _ h8 => ?_);(conv=>whnf);refine pbr_t g10 ?_;(conv=>whnf);refine nth_o (l := a1) h8 (fun x12 _ h8 => ?_);(conv=>whnf);refine pw_cond ?_;(conv=>whnf);refine pbr_oite h8 (fun g13 h8 => ?_) (fun g13 h8 => ?_)
         · (conv=>whnf);refine pwa ?_;(conv=>whnf);refine pw_ret ?_;(conv=>whnf);cases h8;refine ⟨_, rfl, ?_⟩; rintro rfl;(conv=>whnf);obtain rfl := h5 _ rfl; rfl
         · (conv=>whnf);refine pw_skip ?_;(conv=>whnf);refine pw_ops ?_;refine po_all ?_;(conv=>whnf);cases h8;refine ⟨_, rfl, ?_⟩;exact .sub' (nl rfl) (.cons rfl (.cons rfl (.cons rfl .nil)))
       · (conv=>whnf);refine pw_exit ?_;(conv=>whnf);cases h8;refine ⟨_, rfl, ?_⟩; rintro rfl;(conv=>whnf);exact ⟨_, rfl, ⟨.nil, rfl⟩⟩
   · intro r16 hr; have H := h4 _ hr;refine pwa ?_;(conv=>whnf);refine pw_ret ?_;(conv=>whnf);cases H; rfl
noncomputable def f475 [LO]   : Option Bool :=
 obnd (f483) fun (y1 : (List (ByteArray × Bool × Int × Int)) × (List (ByteArray × Int × Int × Int × Bool × Bool))) =>
 obnd (f482 y1.1 y1.2) fun (y3 : Int × Int × Int) =>
 obnd (f484) fun (y5 : (List (ByteArray × Bool × Int × Int)) × (List (ByteArray × Int × Int × Int × Bool × Bool))) =>
 obnd (f481 y5.1 y5.2 (0 : Int)) fun (y7 : (List Int) × Int) =>
 obnd (
 oite ((ieq y3.2.2 (0 : Int))) (
 some ((ieq y3.1 (17 : Int)) && ((ieq y3.2.1 (18 : Int)) && true))
 ) (
 some false)
 ) fun (r9 : Bool) =>
 obnd (
 oite r9 (
 some (ieq y7.2 (0 : Int))
 ) (
 some false)
 ) fun (r12 : Bool) =>
 oite r12 (
 obnd (f26 y7.1 (([(0 : Int), (1 : Int)] : List Int))) fun (y17 : Bool) =>
 some y17
 ) (
 some false)
theorem c475 [LO]   {x : Bool} (H : f475 = some x) : ICalls E 475 [] AHeap.none fun v _ => v = (.bool x) := by
 refine icalls_fn (pfnw ?_); unfold f475 at H;(conv=>whnf);refine pwa ?_;(conv=>whnf);refine pwa ?_;(conv=>whnf);obtain ⟨y1, h2, H⟩ := obnd_some H;refine (c483 h2).go ?_;(conv=>whnf);obtain ⟨y3, h4, H⟩ := obnd_some H;refine (c482 h4).go ?_;(conv=>whnf);refine pwa ?_;(conv=>whnf);obtain ⟨y5, h6, H⟩ := obnd_some H;refine (c484 h6).go ?_;(conv=>whnf);obtain ⟨y7, h8, H⟩ := obnd_some H;refine (c481 h8).go ?_;(conv=>whnf);refine pw_so ?_;refine po_ops 3 ?_;(conv=>whnf);obtain ⟨r9, h10, H⟩ := obnd_some H;refine po_seg (τ := Bool) 4 (fun e => ⟨[(3, (VS 1 (y7.1.map eI))), (4, (.int .i64 y7.2)), (21, (.bool e))], ⟨1, [(0, .rw [(.int .i64 y3.1), (.int .i64 y3.2.1)])], false⟩⟩) r9 ?_ ?_
 · refine po_all ?_;(conv=>whnf);refine pbr_oite h10 (fun g11 h10 => ?_) (fun g11 h10 => ?_)
   · (conv=>whnf);(iterate 3 refine pbr_t g11 ?_;(conv=>whnf));cases h10;exact ⟨(.cons rfl (.cons rfl (.cons rfl .nil))), rfl⟩
   · (conv=>whnf);(iterate 3 refine pbr_f g11 ?_;(conv=>whnf));cases h10;exact ⟨(.cons rfl (.cons rfl (.cons rfl .nil))), rfl⟩
 · refine po_ops 1 ?_;(conv=>whnf);obtain ⟨r12, h13, H⟩ := obnd_some H;refine po_seg (τ := Bool) 3 (fun e => ⟨[(3, (VS 1 (y7.1.map eI))), (25, (.bool e))], ⟨1, [(0, .rw [(.int .i64 y3.1), (.int .i64 y3.2.1)])], false⟩⟩) r12 ?_ ?_
   · refine po_all ?_;(conv=>whnf);refine pbr_oite h13 (fun g14 h13 => ?_) (fun g14 h13 => ?_)
     · (conv=>whnf);refine pbr_t g14 ?_;(conv=>whnf);refine pbr_t g14 ?_;(conv=>whnf);cases h13;exact ⟨(.cons rfl (.cons rfl .nil)), rfl⟩
     · (conv=>whnf);refine pbr_f g14 ?_;(conv=>whnf);refine pbr_f g14 ?_;(conv=>whnf);cases h13;exact ⟨(.cons rfl (.cons rfl .nil)), rfl⟩
   · refine po_ops 1 ?_;(conv=>whnf);refine po_all ?_;(conv=>whnf);refine pbr_oite H (fun g16 H => ?_) (fun g16 H => ?_)
     · (conv=>whnf);refine pbr_t g16 ?_;(conv=>whnf);refine pbr_t g16 ?_;(conv=>whnf);obtain ⟨y17, h18, H⟩ := obnd_some H;refine ICalls.goW (c26 h18) (.cons (.refl _) (.cons (.vt _ _ _) .nil)) ?_;(conv=>whnf);refine pbr_t g16 ?_;(conv=>whnf);refine pw_ret ?_;(conv=>whnf);cases H; rfl
     · (conv=>whnf);(iterate 3 refine pbr_f g16 ?_;(conv=>whnf));refine pw_ret ?_;(conv=>whnf);cases H; rfl
end Wk
end Go.Proofs.Ytjnpdnlgkepmcaa.AM
