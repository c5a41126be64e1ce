/- Computations of functions, and that the functions do them (printed by tools/lift.py). Conditions: none. -/
import Derived.Test.YtolapannkcdeeaaGreatDoorAmLf0
namespace Go.Proofs.YtolapannkcdeeaaGreatDoor.AM
set_option linter.unusedSimpArgs false
set_option linter.unusedVariables false
set_option maxHeartbeats 1000000
open Go Go.RowKit
attribute [local irreducible] ICallV ICalls Recast rng
noncomputable def f458 [LO]  (a0 : Int) (a1 : Int) (a2 : List (ByteArray × Int × Int × Int)) (a3 : Int) (a4 : Int) (a5 : Int) (a6 : List (Int × Int × Int)) (a7 : ByteArray) : Option Bool :=
 obnd (f198) fun (y1 : Bool) =>
 oite (!y1) (
 some false
 ) (
 obnd (
 obnd (f307 a0 a1 a2) fun (y8 : Bool) =>
 obnd (
 oite (!y8) (
 some true
 ) (
 obnd (f308 a3 a4 a5 a6) fun (y13 : Bool) =>
 some (!y13))
 ) fun (r10 : Bool) =>
 oite r10 (
 some true
 ) (
 some (ilt (300 : Int) (a7.size : Int)))
 ) fun (r4 : Bool) =>
 oite r4 (
 some true
 ) (
 obnd (f309 a0 a1 a2) fun (y17 : Int × Int × (List (ByteArray × Int × Int × Int))) =>
 obnd (f460 y17.1 y17.2.1 y17.2.2) fun (y19 : ByteArray) =>
 obnd (f310 a3 a4 a5 a6) fun (y21 : Int × Int × Int × (List (Int × Int × Int))) =>
 obnd (f461 y21.1 y21.2.1 y21.2.2.1 y21.2.2.2) fun (y23 : ByteArray) =>
 obnd (f462 a7) fun (y25 : Int × Int × (List (ByteArray × Int × Int × Int)) × Int) =>
 obnd (f463 a7) fun (y27 : Int × Int × Int × (List (Int × Int × Int)) × Int) =>
 obnd (f464 a7) fun (y29 : Int × Int × (List (ByteArray × Int × Int × Int)) × Int) =>
 obnd (f465 a7) fun (y31 : Int × Int × Int × (List (Int × Int × Int)) × Int) =>
 obnd (
 obnd (f466 a0 a1 a2) fun (y37 : ByteArray) =>
 obnd (
 oite ((!(y19.toList == y37.toList))) (
 some true
 ) (
 obnd (f467 a3 a4 a5 a6) fun (y42 : ByteArray) =>
 some (!(y23.toList == y42.toList)))
 ) fun (r39 : Bool) =>
 obnd (
 oite r39 (
 some true
 ) (
 some (!(ieq y25.2.2.2 y29.2.2.2)))
 ) fun (r44 : Bool) =>
 obnd (
 oite r44 (
 some true
 ) (
 obnd (f468 y25.1 y25.2.1 y25.2.2.1 y29.1 y29.2.1 y29.2.2.1) fun (y50 : Bool) =>
 some (!y50))
 ) fun (r47 : Bool) =>
 obnd (
 oite r47 (
 some true
 ) (
 some (!(ieq y27.2.2.2.2 y31.2.2.2.2)))
 ) fun (r52 : Bool) =>
 oite r52 (
 some true
 ) (
 obnd (f469 y27.1 y27.2.1 y27.2.2.1 y27.2.2.2.1 y31.1 y31.2.1 y31.2.2.1 y31.2.2.2.1) fun (y56 : Bool) =>
 some (!y56))
 ) fun (r33 : Bool) =>
 oite r33 (
 some false
 ) (
 obndS (
 obnd (f347 a0 a1 a2) fun (y63 : Int) =>
 oite ((ieq y63 (0 : Int))) (
 obnd (f462 y19) fun (y66 : Int × Int × (List (ByteArray × Int × Int × Int)) × Int) =>
 obnd (
 oite ((!(ieq y66.2.2.2 (0 : Int)))) (
 some true
 ) (
 obnd (f468 y66.1 y66.2.1 y66.2.2.1 a0 a1 a2) fun (y73 : Bool) =>
 some (!y73))
 ) fun (r68 : Bool) =>
 oite r68 (
 some (.inr (false))
 ) (
 some (.inl ()))
 ) (
 some (.inl ()))
 ) fun (_ : Unit) =>
 obnd (f311 a0 a1 a2 a3 a4 a5 a6) fun (y77 : Int) =>
 oite ((!(ieq y77 (0 : Int)))) (
 some true
 ) (
 obnd (f463 y23) fun (y80 : Int × Int × Int × (List (Int × Int × Int)) × Int) =>
 obnd (
 oite ((ieq y80.2.2.2.2 (0 : Int))) (
 obnd (f469 y80.1 y80.2.1 y80.2.2.1 y80.2.2.2.1 a3 a4 a5 a6) fun (y85 : Bool) =>
 some y85
 ) (
 some false)
 ) fun (r82 : Bool) =>
 some r82))))
theorem c458 [LO]  {a0 : Int} {a1 : Int} {a2 : List (ByteArray × Int × Int × Int)} {a3 : Int} {a4 : Int} {a5 : Int} {a6 : List (Int × Int × Int)} {a7 : ByteArray} {x : Bool} (H : f458 a0 a1 a2 a3 a4 a5 a6 a7 = some x) : ICalls E 458 [(.agg ⟨[(.int .i64 a0), (.int .i64 a1), (VS 4 (a2.map e_SIII))]⟩), (.agg ⟨[(.int .i64 a3), (.int .i64 a4), (.int .i64 a5), (VS 3 (a6.map e_III))]⟩), (.string a7)] AHeap.none fun v _ => v = (.bool x) := by
 refine icalls_fn (pfnw ?_); unfold f458 at H;(conv=>whnf);refine pwa ?_;(conv=>whnf);refine pw_seq ?_;refine pwa ?_;(conv=>whnf);obtain ⟨y1, h2, H⟩ := obnd_some H;refine (c198 h2).go ?_;(conv=>whnf);refine pw_cond ?_;(conv=>whnf);refine pbr_oite H (fun g3 H => ?_) (fun g3 H => ?_)
 · (conv=>whnf);refine pwa ?_;(conv=>whnf);refine pw_ret ?_;(conv=>whnf);cases H; rfl
 · (conv=>whnf);refine pw_skip ?_;(conv=>whnf);refine pw_seq ?_;obtain ⟨r4, h5, H⟩ := obnd_some H;refine pw_join (ρ := Bool) (fun e => ⟨[(2, (.string a7)), (3, (.pointer (some ⟨0, 0, none⟩))), (4, (.pointer (some ⟨1, 0, none⟩))), (35, (.bool e))], ⟨2, [(1, .rw [(.int .i64 a3), (.int .i64 a4), (.int .i64 a5), (VS 3 (a6.map e_III))]), (0, .rw [(.int .i64 a0), (.int .i64 a1), (VS 4 (a2.map e_SIII))])], false⟩⟩) r4 ?_ ?_
   · refine pw_ops ?_;refine po_ops 4 ?_;(conv=>whnf);obtain ⟨y8, h9, h5⟩ := obnd_some h5;refine (c307 h9).go ?_;(conv=>whnf);obtain ⟨r10, h11, h5⟩ := obnd_some h5;refine po_seg (τ := Bool) 4 (fun e => ⟨[(2, (.string a7)), (3, (.pointer (some ⟨0, 0, none⟩))), (4, (.pointer (some ⟨1, 0, none⟩))), (30, (.bool e))], ⟨2, [(1, .rw [(.int .i64 a3), (.int .i64 a4), (.int .i64 a5), (VS 3 (a6.map e_III))]), (0, .rw [(.int .i64 a0), (.int .i64 a1), (VS 4 (a2.map e_SIII))])], false⟩⟩) r10 ?_ ?_
     · refine po_all ?_;(conv=>whnf);refine pbr_oite h11 (fun g12 h11 => ?_) (fun g12 h11 => ?_)
       · (conv=>whnf);(iterate 3 refine pbr_t g12 ?_;(conv=>whnf));cases h11;exact ⟨by (repeat refine .cons rfl ?_);exact .nil,rfl⟩
       · (conv=>whnf);refine pbr_f g12 ?_;(conv=>whnf);obtain ⟨y13, h14, h11⟩ := obnd_some h11;refine (c308 h14).go ?_;(conv=>whnf);refine pbr_f g12 ?_;(conv=>whnf);refine pbr_f g12 ?_;(conv=>whnf);cases h11;exact ⟨by (repeat refine .cons rfl ?_);exact .nil,rfl⟩
     · refine po_all ?_;(conv=>whnf);refine pbr_oite h5 (fun g15 h5 => ?_) (fun g15 h5 => ?_)
       · (conv=>whnf);(iterate 3 refine pbr_t g15 ?_;(conv=>whnf));cases h5;exact ⟨by (repeat refine .cons rfl ?_);exact .nil,rfl⟩
       · (conv=>whnf);(iterate 3 refine pbr_f g15 ?_;(conv=>whnf));cases h5;exact ⟨by (repeat refine .cons rfl ?_);exact .nil,rfl⟩
   · refine pw_cond ?_;(conv=>whnf);refine pbr_oite H (fun g16 H => ?_) (fun g16 H => ?_)
     · (conv=>whnf);refine pwa ?_;(conv=>whnf);refine pw_ret ?_;(conv=>whnf);cases H; rfl
     · (conv=>whnf);refine pw_skip ?_;(conv=>whnf);refine pw_sd ?_;(conv=>whnf);refine ⟨?_, trivial⟩;(conv=>whnf);obtain ⟨y17, h18, H⟩ := obnd_some H;refine (c309 h18).go ?_;(conv=>whnf);refine ⟨by trivial,?_⟩;(conv=>whnf);refine ⟨?_, trivial⟩;(conv=>whnf);obtain ⟨y19, h20, H⟩ := obnd_some H;refine (c460 h20).go ?_;(conv=>whnf);refine ⟨by trivial,?_⟩;(conv=>whnf);refine ⟨?_, trivial⟩;(conv=>whnf);obtain ⟨y21, h22, H⟩ := obnd_some H;refine (c310 h22).go ?_;(conv=>whnf);refine ⟨by trivial,?_⟩
       (conv=>whnf);refine ⟨?_, trivial⟩;(conv=>whnf);obtain ⟨y23, h24, H⟩ := obnd_some H;refine (c461 h24).go ?_;(conv=>whnf);refine ⟨by trivial,?_⟩;(conv=>whnf);refine pwa ?_;(conv=>whnf);obtain ⟨y25, h26, H⟩ := obnd_some H;refine (c462 h26).go ?_;(conv=>whnf);refine pwa ?_;(conv=>whnf);obtain ⟨y27, h28, H⟩ := obnd_some H;refine (c463 h28).go ?_;(conv=>whnf);refine pwa ?_;(conv=>whnf);obtain ⟨y29, h30, H⟩ := obnd_some H;refine (c464 h30).go ?_;(conv=>whnf);refine pwa ?_;(conv=>whnf)
       obtain ⟨y31, h32, H⟩ := obnd_some H;refine (c465 h32).go ?_;(conv=>whnf);refine pw_seq ?_;obtain ⟨r33, h34, H⟩ := obnd_some H;refine pw_join (ρ := Bool) (fun e => ⟨[(3, (.pointer (some ⟨0, 0, none⟩))), (4, (.pointer (some ⟨1, 0, none⟩))), (7, (.string y19)), (8, (.string y23)), (93, (.bool e))], ⟨6, [(5, .rw [(.int .i64 y31.1), (.int .i64 y31.2.1), (.int .i64 y31.2.2.1), (VS 3 (y31.2.2.2.1.map e_III))]), (4, .rw [(.int .i64 y29.1), (.int .i64 y29.2.1), (VS 4 (y29.2.2.1.map e_SIII))]), (3, .rw [(.int .i64 y27.1), (.int .i64 y27.2.1), (.int .i64 y27.2.2.1), (VS 3 (y27.2.2.2.1.map e_III))]), (2, .rw [(.int .i64 y25.1), (.int .i64 y25.2.1), (VS 4 (y25.2.2.1.map e_SIII))]), (1, .rw [(.int .i64 a3), (.int .i64 a4), (.int .i64 a5), (VS 3 (a6.map e_III))]), (0, .rw [(.int .i64 a0), (.int .i64 a1), (VS 4 (a2.map e_SIII))])], false⟩⟩) r33 ?_ ?_
       · refine pw_ops ?_;refine po_ops 5 ?_;(conv=>whnf);obtain ⟨y37, h38, h34⟩ := obnd_some h34;refine (c466 h38).go ?_;(conv=>whnf);obtain ⟨r39, h40, h34⟩ := obnd_some h34;refine po_seg (τ := Bool) 5 (fun e => ⟨[(3, (.pointer (some ⟨0, 0, none⟩))), (4, (.pointer (some ⟨1, 0, none⟩))), (7, (.string y19)), (8, (.string y23)), (9, (.pointer (some ⟨2, 0, none⟩))), (10, (.int .i64 y25.2.2.2)), (11, (.pointer (some ⟨3, 0, none⟩))), (12, (.int .i64 y27.2.2.2.2)), (13, (.pointer (some ⟨4, 0, none⟩))), (14, (.int .i64 y29.2.2.2)), (15, (.pointer (some ⟨5, 0, none⟩))), (16, (.int .i64 y31.2.2.2.2)), (71, (.bool e))], ⟨6, [(5, .rw [(.int .i64 y31.1), (.int .i64 y31.2.1), (.int .i64 y31.2.2.1), (VS 3 (y31.2.2.2.1.map e_III))]), (4, .rw [(.int .i64 y29.1), (.int .i64 y29.2.1), (VS 4 (y29.2.2.1.map e_SIII))]), (3, .rw [(.int .i64 y27.1), (.int .i64 y27.2.1), (.int .i64 y27.2.2.1), (VS 3 (y27.2.2.2.1.map e_III))]), (2, .rw [(.int .i64 y25.1), (.int .i64 y25.2.1), (VS 4 (y25.2.2.1.map e_SIII))]), (1, .rw [(.int .i64 a3), (.int .i64 a4), (.int .i64 a5), (VS 3 (a6.map e_III))]), (0, .rw [(.int .i64 a0), (.int .i64 a1), (VS 4 (a2.map e_SIII))])], false⟩⟩) r39 ?_ ?_
         · refine po_all ?_;(conv=>whnf);refine pbr_oite h40 (fun g41 h40 => ?_) (fun g41 h40 => ?_)
           · (conv=>whnf);(iterate 4 refine pbr_t g41 ?_;(conv=>whnf));cases h40;exact ⟨by (repeat refine .cons rfl ?_);exact .nil,rfl⟩
           · (conv=>whnf);refine pbr_f g41 ?_;(conv=>whnf);refine pbr_f g41 ?_;(conv=>whnf);obtain ⟨y42, h43, h40⟩ := obnd_some h40;refine (c467 h43).go ?_;(conv=>whnf);refine pbr_f g41 ?_;(conv=>whnf);refine pbr_f g41 ?_;(conv=>whnf);cases h40;exact ⟨by (repeat refine .cons rfl ?_);exact .nil,rfl⟩
         · refine po_ops 1 ?_;(conv=>whnf);obtain ⟨r44, h45, h34⟩ := obnd_some h34;refine po_seg (τ := Bool) 4 (fun e => ⟨[(3, (.pointer (some ⟨0, 0, none⟩))), (4, (.pointer (some ⟨1, 0, none⟩))), (7, (.string y19)), (8, (.string y23)), (9, (.pointer (some ⟨2, 0, none⟩))), (11, (.pointer (some ⟨3, 0, none⟩))), (12, (.int .i64 y27.2.2.2.2)), (13, (.pointer (some ⟨4, 0, none⟩))), (15, (.pointer (some ⟨5, 0, none⟩))), (16, (.int .i64 y31.2.2.2.2)), (76, (.bool e))], ⟨6, [(5, .rw [(.int .i64 y31.1), (.int .i64 y31.2.1), (.int .i64 y31.2.2.1), (VS 3 (y31.2.2.2.1.map e_III))]), (4, .rw [(.int .i64 y29.1), (.int .i64 y29.2.1), (VS 4 (y29.2.2.1.map e_SIII))]), (3, .rw [(.int .i64 y27.1), (.int .i64 y27.2.1), (.int .i64 y27.2.2.1), (VS 3 (y27.2.2.2.1.map e_III))]), (2, .rw [(.int .i64 y25.1), (.int .i64 y25.2.1), (VS 4 (y25.2.2.1.map e_SIII))]), (1, .rw [(.int .i64 a3), (.int .i64 a4), (.int .i64 a5), (VS 3 (a6.map e_III))]), (0, .rw [(.int .i64 a0), (.int .i64 a1), (VS 4 (a2.map e_SIII))])], false⟩⟩) r44 ?_ ?_
           · refine po_all ?_;(conv=>whnf);refine pbr_oite h45 (fun g46 h45 => ?_) (fun g46 h45 => ?_)
             · (conv=>whnf);(iterate 3 refine pbr_t g46 ?_;(conv=>whnf));cases h45;exact ⟨by (repeat refine .cons rfl ?_);exact .nil,rfl⟩
             · (conv=>whnf);(iterate 3 refine pbr_f g46 ?_;(conv=>whnf));cases h45;exact ⟨by (repeat refine .cons rfl ?_);exact .nil,rfl⟩
           · refine po_ops 1 ?_;(conv=>whnf);obtain ⟨r47, h48, h34⟩ := obnd_some h34;refine po_seg (τ := Bool) 5 (fun e => ⟨[(3, (.pointer (some ⟨0, 0, none⟩))), (4, (.pointer (some ⟨1, 0, none⟩))), (7, (.string y19)), (8, (.string y23)), (11, (.pointer (some ⟨3, 0, none⟩))), (12, (.int .i64 y27.2.2.2.2)), (15, (.pointer (some ⟨5, 0, none⟩))), (16, (.int .i64 y31.2.2.2.2)), (82, (.bool e))], ⟨6, [(5, .rw [(.int .i64 y31.1), (.int .i64 y31.2.1), (.int .i64 y31.2.2.1), (VS 3 (y31.2.2.2.1.map e_III))]), (4, .rw [(.int .i64 y29.1), (.int .i64 y29.2.1), (VS 4 (y29.2.2.1.map e_SIII))]), (3, .rw [(.int .i64 y27.1), (.int .i64 y27.2.1), (.int .i64 y27.2.2.1), (VS 3 (y27.2.2.2.1.map e_III))]), (2, .rw [(.int .i64 y25.1), (.int .i64 y25.2.1), (VS 4 (y25.2.2.1.map e_SIII))]), (1, .rw [(.int .i64 a3), (.int .i64 a4), (.int .i64 a5), (VS 3 (a6.map e_III))]), (0, .rw [(.int .i64 a0), (.int .i64 a1), (VS 4 (a2.map e_SIII))])], false⟩⟩) r47 ?_ ?_
             · refine po_all ?_;(conv=>whnf);refine pbr_oite h48 (fun g49 h48 => ?_) (fun g49 h48 => ?_)
               · (conv=>whnf);(iterate 4 refine pbr_t g49 ?_;(conv=>whnf));cases h48;exact ⟨by (repeat refine .cons rfl ?_);exact .nil,rfl⟩
               · (conv=>whnf);refine pbr_f g49 ?_;(conv=>whnf);refine pbr_f g49 ?_;(conv=>whnf);obtain ⟨y50, h51, h48⟩ := obnd_some h48;refine (c468 h51).go ?_;(conv=>whnf);refine pbr_f g49 ?_;(conv=>whnf);refine pbr_f g49 ?_;(conv=>whnf);cases h48;exact ⟨by (repeat refine .cons rfl ?_);exact .nil,rfl⟩
             · refine po_ops 1 ?_;(conv=>whnf);obtain ⟨r52, h53, h34⟩ := obnd_some h34;refine po_seg (τ := Bool) 4 (fun e => ⟨[(3, (.pointer (some ⟨0, 0, none⟩))), (4, (.pointer (some ⟨1, 0, none⟩))), (7, (.string y19)), (8, (.string y23)), (11, (.pointer (some ⟨3, 0, none⟩))), (15, (.pointer (some ⟨5, 0, none⟩))), (87, (.bool e))], ⟨6, [(5, .rw [(.int .i64 y31.1), (.int .i64 y31.2.1), (.int .i64 y31.2.2.1), (VS 3 (y31.2.2.2.1.map e_III))]), (4, .rw [(.int .i64 y29.1), (.int .i64 y29.2.1), (VS 4 (y29.2.2.1.map e_SIII))]), (3, .rw [(.int .i64 y27.1), (.int .i64 y27.2.1), (.int .i64 y27.2.2.1), (VS 3 (y27.2.2.2.1.map e_III))]), (2, .rw [(.int .i64 y25.1), (.int .i64 y25.2.1), (VS 4 (y25.2.2.1.map e_SIII))]), (1, .rw [(.int .i64 a3), (.int .i64 a4), (.int .i64 a5), (VS 3 (a6.map e_III))]), (0, .rw [(.int .i64 a0), (.int .i64 a1), (VS 4 (a2.map e_SIII))])], false⟩⟩) r52 ?_ ?_
               · refine po_all ?_;(conv=>whnf);refine pbr_oite h53 (fun g54 h53 => ?_) (fun g54 h53 => ?_)
                 · (conv=>whnf);(iterate 3 refine pbr_t g54 ?_;(conv=>whnf));cases h53;exact ⟨by (repeat refine .cons rfl ?_);exact .nil,rfl⟩
                 · (conv=>whnf);(iterate 3 refine pbr_f g54 ?_;(conv=>whnf));cases h53;exact ⟨by (repeat refine .cons rfl ?_);exact .nil,rfl⟩
               · refine po_all ?_;(conv=>whnf);refine pbr_oite h34 (fun g55 h34 => ?_) (fun g55 h34 => ?_)
                 · (conv=>whnf);(iterate 4 refine pbr_t g55 ?_;(conv=>whnf));cases h34;exact ⟨by (repeat refine .cons rfl ?_);exact .nil,rfl⟩
                 · (conv=>whnf);refine pbr_f g55 ?_;(conv=>whnf);refine pbr_f g55 ?_;(conv=>whnf);obtain ⟨y56, h57, h34⟩ := obnd_some h34;refine (c469 h57).go ?_;(conv=>whnf);refine pbr_f g55 ?_;(conv=>whnf);refine pbr_f g55 ?_;(conv=>whnf);cases h34;exact ⟨by (repeat refine .cons rfl ?_);exact .nil,rfl⟩
       · refine pw_cond ?_;(conv=>whnf);refine pbr_oite H (fun g58 H => ?_) (fun g58 H => ?_)
         · (conv=>whnf);refine pwa ?_;(conv=>whnf);refine pw_ret ?_;(conv=>whnf);cases H; rfl
         · (conv=>whnf);refine pw_skip ?_;(conv=>whnf);obtain ⟨r59, h60, h61, h62⟩ := obndS_some H;refine pw_joinSR (ρ := Unit) (fun e => ⟨[(3, (.pointer (some ⟨0, 0, none⟩))), (4, (.pointer (some ⟨1, 0, none⟩))), (8, (.string y23))], ⟨6, [(5, .rw [(.int .i64 y31.1), (.int .i64 y31.2.1), (.int .i64 y31.2.2.1), (VS 3 (y31.2.2.2.1.map e_III))]), (4, .rw [(.int .i64 y29.1), (.int .i64 y29.2.1), (VS 4 (y29.2.2.1.map e_SIII))]), (3, .rw [(.int .i64 y27.1), (.int .i64 y27.2.1), (.int .i64 y27.2.2.1), (VS 3 (y27.2.2.2.1.map e_III))]), (2, .rw [(.int .i64 y25.1), (.int .i64 y25.2.1), (VS 4 (y25.2.2.1.map e_SIII))]), (1, .rw [(.int .i64 a3), (.int .i64 a4), (.int .i64 a5), (VS 3 (a6.map e_III))]), (0, .rw [(.int .i64 a0), (.int .i64 a1), (VS 4 (a2.map e_SIII))])], false⟩⟩) r59 ?_ ?_
           · refine pwa ?_;(conv=>whnf);obtain ⟨y63, h64, h60⟩ := obnd_some h60;refine (c347 h64).go ?_;(conv=>whnf);refine pw_cond ?_;(conv=>whnf);refine pbr_oite h60 (fun g65 h60 => ?_) (fun g65 h60 => ?_)
             · (conv=>whnf);refine pwa ?_;(conv=>whnf);obtain ⟨y66, h67, h60⟩ := obnd_some h60;refine (c462 h67).go ?_;(conv=>whnf);obtain ⟨r68, h69, h60⟩ := obnd_some h60;refine pw_join (ρ := Bool) (fun e => ⟨[(3, (.pointer (some ⟨0, 0, none⟩))), (4, (.pointer (some ⟨1, 0, none⟩))), (8, (.string y23)), (109, (.bool e))], ⟨7, [(6, .rw [(.int .i64 y66.1), (.int .i64 y66.2.1), (VS 4 (y66.2.2.1.map e_SIII))]), (5, .rw [(.int .i64 y31.1), (.int .i64 y31.2.1), (.int .i64 y31.2.2.1), (VS 3 (y31.2.2.2.1.map e_III))]), (4, .rw [(.int .i64 y29.1), (.int .i64 y29.2.1), (VS 4 (y29.2.2.1.map e_SIII))]), (3, .rw [(.int .i64 y27.1), (.int .i64 y27.2.1), (.int .i64 y27.2.2.1), (VS 3 (y27.2.2.2.1.map e_III))]), (2, .rw [(.int .i64 y25.1), (.int .i64 y25.2.1), (VS 4 (y25.2.2.1.map e_SIII))]), (1, .rw [(.int .i64 a3), (.int .i64 a4), (.int .i64 a5), (VS 3 (a6.map e_III))]), (0, .rw [(.int .i64 a0), (.int .i64 a1), (VS 4 (a2.map e_SIII))])], false⟩⟩) r68 ?_ ?_
               · refine pw_ops ?_;refine po_all ?_;(conv=>whnf);refine pbr_oite h69 (fun g72 h69 => ?_) (fun g72 h69 => ?_)
                 · (conv=>whnf);(iterate 4 refine pbr_t g72 ?_;(conv=>whnf));cases h69;exact ⟨by (repeat refine .cons rfl ?_);exact .nil,rfl⟩
                 · (conv=>whnf);refine pbr_f g72 ?_;(conv=>whnf);refine pbr_f g72 ?_;(conv=>whnf);obtain ⟨y73, h74, h69⟩ := obnd_some h69;refine (c468 h74).go ?_;(conv=>whnf);refine pbr_f g72 ?_;(conv=>whnf);refine pbr_f g72 ?_;(conv=>whnf);cases h69;exact ⟨by (repeat refine .cons rfl ?_);exact .nil,rfl⟩
               · refine pw_cond ?_;(conv=>whnf);refine pbr_oite h60 (fun g75 h60 => ?_) (fun g75 h60 => ?_)
                 · (conv=>whnf);refine pwa ?_;(conv=>whnf);refine pw_ret ?_;(conv=>whnf);cases h60;obtain rfl := h62 _ rfl; rfl
                 · (conv=>whnf);refine pw_skip ?_;(conv=>whnf);cases h60;refine ⟨_, rfl, ?_⟩;exact Recast.fz (fun _ => false) (nl rfl) (.cons (.same rfl rfl (OBnd.rwl (nl rfl) rfl (.cons .cl (.cons .cl (.cons .cl (.cons .cl .nil)))))) (.cons (.same rfl rfl (OBnd.rwl (nl rfl) rfl (.cons .cl (.cons .cl (.cons .cl .nil))))) (.cons (.same rfl rfl (OBnd.rwl (nl rfl) rfl (.cons .cl (.cons .cl (.cons .cl (.cons .cl .nil)))))) (.cons (.same rfl rfl (OBnd.rwl (nl rfl) rfl (.cons .cl (.cons .cl (.cons .cl .nil))))) (.cons (.same rfl rfl (OBnd.rwl (nl rfl) rfl (.cons .cl (.cons .cl (.cons .cl (.cons .cl .nil)))))) (.cons (.same rfl rfl (OBnd.rwl (nl rfl) rfl (.cons .cl (.cons .cl (.cons .cl .nil))))) .nil)))))) (.cons rfl (.same _ (.ptr (nl rfl))) (.cons rfl (.same _ (.ptr (nl rfl))) (.cons rfl (.same _ .cl) .nil)))
             · (conv=>whnf);refine pw_skip ?_;(conv=>whnf);cases h60;refine ⟨_, rfl, ?_⟩;exact Recast.fz (fun _ => false) (nl rfl) (.cons (.same rfl rfl (OBnd.rwl (nl rfl) rfl (.cons .cl (.cons .cl (.cons .cl (.cons .cl .nil)))))) (.cons (.same rfl rfl (OBnd.rwl (nl rfl) rfl (.cons .cl (.cons .cl (.cons .cl .nil))))) (.cons (.same rfl rfl (OBnd.rwl (nl rfl) rfl (.cons .cl (.cons .cl (.cons .cl (.cons .cl .nil)))))) (.cons (.same rfl rfl (OBnd.rwl (nl rfl) rfl (.cons .cl (.cons .cl (.cons .cl .nil))))) (.cons (.same rfl rfl (OBnd.rwl (nl rfl) rfl (.cons .cl (.cons .cl (.cons .cl (.cons .cl .nil)))))) (.cons (.same rfl rfl (OBnd.rwl (nl rfl) rfl (.cons .cl (.cons .cl (.cons .cl .nil))))) .nil)))))) (.cons rfl (.same _ (.ptr (nl rfl))) (.cons rfl (.same _ (.ptr (nl rfl))) (.cons rfl (.same _ .cl) .nil)))
           · intro r76 hr; have H := h61 _ hr;refine pw_seq ?_;refine pwa ?_;(conv=>whnf);obtain ⟨y77, h78, H⟩ := obnd_some H;refine (c311 h78).go ?_;(conv=>whnf);refine pw_cond ?_;(conv=>whnf);refine pbr_oite H (fun g79 H => ?_) (fun g79 H => ?_)
             · (conv=>whnf);refine pwa ?_;(conv=>whnf);refine pw_ret ?_;(conv=>whnf);cases H; rfl
             · (conv=>whnf);refine pw_skip ?_;(conv=>whnf);refine pwa ?_;(conv=>whnf);obtain ⟨y80, h81, H⟩ := obnd_some H;refine (c463 h81).go ?_;(conv=>whnf);refine pw_so ?_;refine po_ops 3 ?_;(conv=>whnf);obtain ⟨r82, h83, H⟩ := obnd_some H;refine po_seg (τ := Bool) 4 (fun e => ⟨[(125, (.bool e))], ⟨7, [(6, .rw [(.int .i64 y80.1), (.int .i64 y80.2.1), (.int .i64 y80.2.2.1), (VS 3 (y80.2.2.2.1.map e_III))]), (5, .rw [(.int .i64 y31.1), (.int .i64 y31.2.1), (.int .i64 y31.2.2.1), (VS 3 (y31.2.2.2.1.map e_III))]), (4, .rw [(.int .i64 y29.1), (.int .i64 y29.2.1), (VS 4 (y29.2.2.1.map e_SIII))]), (3, .rw [(.int .i64 y27.1), (.int .i64 y27.2.1), (.int .i64 y27.2.2.1), (VS 3 (y27.2.2.2.1.map e_III))]), (2, .rw [(.int .i64 y25.1), (.int .i64 y25.2.1), (VS 4 (y25.2.2.1.map e_SIII))]), (1, .rw [(.int .i64 a3), (.int .i64 a4), (.int .i64 a5), (VS 3 (a6.map e_III))]), (0, .rw [(.int .i64 a0), (.int .i64 a1), (VS 4 (a2.map e_SIII))])], false⟩⟩) r82 ?_ ?_
               · refine po_all ?_;(conv=>whnf);refine pbr_oite h83 (fun g84 h83 => ?_) (fun g84 h83 => ?_)
                 · (conv=>whnf);refine pbr_t g84 ?_;(conv=>whnf);refine pbr_t g84 ?_;(conv=>whnf);obtain ⟨y85, h86, h83⟩ := obnd_some h83;refine (c469 h86).go ?_;(conv=>whnf);refine pbr_t g84 ?_;(conv=>whnf);cases h83;exact ⟨(.cons rfl .nil), rfl⟩
                 · (conv=>whnf);(iterate 3 refine pbr_f g84 ?_;(conv=>whnf));cases h83;exact ⟨(.cons rfl .nil), rfl⟩
               · refine po_all ?_;(conv=>whnf);refine pw_ret ?_;(conv=>whnf);cases H; rfl
end Go.Proofs.YtolapannkcdeeaaGreatDoor.AM
