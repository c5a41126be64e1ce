/- Computations of functions, and that the functions do them (printed by tools/lift.py). Conditions: none. -/
import Derived.Test.YtacgibkgojnfeaaGreatDoorAmLf0
namespace Go.Proofs.YtacgibkgojnfeaaGreatDoor.AM
set_option linter.unusedSimpArgs false
set_option linter.unusedVariables false
open Go Go.RowKit
attribute [local irreducible] ICallV ICalls Recast rng
/-- guidevane/guidevanetop.TopDamNeverLower -/
noncomputable def f370 [LO]  (a0 : List Int) (a1 : List Int) (a2 : Int) (a3 : List (ByteArray × Int)) (a4 : List (Int × Int × Int)) (a5 : Int) : Option Bool :=
 obnd (f50) fun (y1 : Bool) =>
 oite (!y1) (
 some false
 ) (
 obnd (
 obnd (
 oite ((ilt (5 : Int) ((a0.map eI).length : Int))) (
 some true
 ) (
 some (ilt (10 : Int) ((a3.map e_SI).length : Int)))
 ) fun (r8 : Bool) =>
 obnd (
 oite r8 (
 some true
 ) (
 obnd (f39 a0 a1 a2 a3) fun (y14 : Int) =>
 some (!(ieq y14 (0 : Int))))
 ) fun (r11 : Bool) =>
 obnd (
 oite r11 (
 some true
 ) (
 some (ilt (12 : Int) ((a4.map e_III).length : Int)))
 ) fun (r16 : Bool) =>
 obnd (
 oite r16 (
 some true
 ) (
 oite ((ilt (0 : Int) ((a4.map e_III).length : Int))) (
 obnd (f51 a4) fun (y23 : Int) =>
 some (!(ieq y23 (0 : Int)))
 ) (
 some false))
 ) fun (r19 : Bool) =>
 oite r19 (
 some true
 ) (
 obnd (f52 a5) fun (y26 : Int) =>
 some (!(ieq y26 (0 : Int))))
 ) fun (r4 : Bool) =>
 oite r4 (
 some true
 ) (
 obndS (
 oloop (τ := Int × Int × Int × Int × Int) (ρ := (Int × Int × Int) ⊕ Bool) (fun e33 =>
 oite ((ilt e33.2.1 ((a4.map e_III).length : Int))) (
 obndS (
 ogrd ((ile 0 e33.2.1)) (
 obnd (a4[e33.2.1.toNat]?) fun (x42 : Int × Int × Int) =>
 obnd (f374 x42.1 x42.2.1 x42.2.2) fun (y43 : ByteArray) =>
 obnd (f373 y43) fun (y45 : Int × Int × Int × Int) =>
 obnd (
 oite ((!(ieq y45.2.2.2 (0 : Int)))) (
 some true
 ) (
 obnd (a4[e33.2.1.toNat]?) fun (x52 : Int × Int × Int) =>
 some (!((ieq y45.1 x52.1) && ((ieq y45.2.1 x52.2.1) && ((ieq y45.2.2.1 x52.2.2) && true)))))
 ) fun (r47 : Bool) =>
 oite r47 (
 some (.inr (.inr (.inr (false))))
 ) (
 obnd (oslH a4 e33.2.1) fun (m55 : List (Int × Int × Int)) =>
 obnd (f53 m55) fun (y58 : (List (Int × Int × Int))) =>
 obnd (f55 y58 a5) fun (y60 : Int × Int × Int × Int × Int × Int × Int) =>
 oite ((!(ieq y60.2.2.2.2.2.2 (0 : Int)))) (
 obnd (
 obnd (
 oite ((!(ieq y60.2.2.2.2.2.2 (10 : Int)))) (
 some (!(ieq y60.2.2.2.2.2.2 (12 : Int)))
 ) (
 some false)
 ) fun (r67 : Bool) =>
 obnd (
 oite r67 (
 some (!(ieq y60.2.2.2.2.2.2 (8 : Int)))
 ) (
 some false)
 ) fun (r70 : Bool) =>
 oite r70 (
 some true
 ) (
 some (!((ieq y60.2.2.2.2.2.2 (10 : Int)) == (ieq e33.2.1 (0 : Int)))))
 ) fun (r63 : Bool) =>
 oite r63 (
 some (.inr (.inr (.inr (false))))
 ) (
 some (.inl (e33.1, e33.2.2.1, e33.2.2.2.1, e33.2.2.2.2)))
 ) (
 obnd (
 obnd (oslH a4 e33.2.1) fun (m80 : List (Int × Int × Int)) =>
 obnd (f53 m80) fun (y83 : (List (Int × Int × Int))) =>
 obnd (f59 y83 y60.1 y60.2.1 y60.2.2.1 y60.2.2.2.1 y60.2.2.2.2.1 y60.2.2.2.2.2.1 y45.1 y45.2.1 y45.2.2.1) fun (y85 : Int × Int × Int) =>
 some (y85.2.2, y85.1, y85.2.1)
 ) fun (r76 : Int × Int × Int) =>
 oite ((!(ieq r76.1 (0 : Int)))) (
 some (.inr (.inr (.inr (false))))
 ) (
 obnd (f42 r76.2.1 r76.2.2 y45.2.2.1) fun (y89 : Int × Int) =>
 oite ((!(ieq y89.2 (0 : Int)))) (
 obnd (
 oite ((!(ieq y89.2 (2 : Int)))) (
 some true
 ) (
 obnd (f15 r76.2.1 (-1000000 : Int) (1000000 : Int)) fun (y97 : Bool) =>
 obnd (
 oite y97 (
 obnd (f15 r76.2.2 (-1000000 : Int) (1000000 : Int)) fun (y102 : Bool) =>
 some y102
 ) (
 some false)
 ) fun (r99 : Bool) =>
 some r99)
 ) fun (r92 : Bool) =>
 oite r92 (
 some (.inr (.inr (.inr (false))))
 ) (
 some (.inl (e33.1, e33.2.2.1, e33.2.2.2.1, e33.2.2.2.2)))
 ) (
 obnd (f15 y45.2.2.1 r76.2.1 r76.2.2) fun (y106 : Bool) =>
 obnd (
 oite ((!(y106 == (ieq y89.1 (0 : Int))))) (
 some true
 ) (
 obnd (f15 y89.1 (0 : Int) (2000000 : Int)) fun (y113 : Bool) =>
 some (!y113))
 ) fun (r108 : Bool) =>
 oite r108 (
 some (.inr (.inr (.inr (false))))
 ) (
 oite ((ilt (1000000 : Int) y89.1)) (
 some (.inl (e33.1, e33.2.2.1, e33.2.2.2.1, e33.2.2.2.2))
 ) (
 obnd (f37 a0 a1 a2 a3) fun (y118 : (List Int) × (List Int) × Int × (List (ByteArray × Int))) =>
 obnd (f44 y118.1 y118.2.1 y118.2.2.1 y118.2.2.2 y89.1) fun (y120 : Int × Int) =>
 obnd (
 obnd (f37 a0 a1 a2 a3) fun (y126 : (List Int) × (List Int) × Int × (List (ByteArray × Int))) =>
 obnd (f45 y126.1 y126.2.1 y126.2.2.1 y126.2.2.2 e33.2.2.1 e33.2.2.2.1 e33.2.2.2.2 y89.1) fun (y128 : Int × Int × Int × Int) =>
 some (y128.2.2.2, y128.1, y128.2.1, y128.2.2.1)
 ) fun (r122 : Int × Int × Int × Int) =>
 obnd (
 obnd (
 oite ((!(ieq y120.2 (0 : Int)))) (
 some true
 ) (
 some (!(ieq r122.1 (0 : Int))))
 ) fun (r134 : Bool) =>
 oite r134 (
 some true
 ) (
 obnd (f15 y120.1 (0 : Int) ((a0.map eI).length : Int)) fun (y138 : Bool) =>
 some (!y138))
 ) fun (r130 : Bool) =>
 oite r130 (
 some (.inr (.inr (.inr (false))))
 ) (
 obnd (
 obnd (
 oite ((!(ieq r122.2.1 (imax e33.1 y120.1)))) (
 some true
 ) (
 oite y106 (
 some (!(ieq r122.2.1 e33.2.2.1))
 ) (
 some false))
 ) fun (r146 : Bool) =>
 oite r146 (
 some true
 ) (
 some (!(ieq r122.2.2.2 y89.1)))
 ) fun (r142 : Bool) =>
 oite r142 (
 some (.inr (.inr (.inr (false))))
 ) (
 oloop (τ := Int) (ρ := (Int × Int × Int × Int) ⊕ ((Int × Int × Int × Int × Int) ⊕ ((Int × Int × Int) ⊕ Bool))) (fun e153 =>
 obnd (
 oite ((ilt e153 ((a3.map e_SI).length : Int))) (
 some (ilt (0 : Int) y120.1)
 ) (
 some false)
 ) fun (r156 : Bool) =>
 oite r156 (
 oite ((ieq y120.1 r122.2.1)) (
 obnd (
 ogrd ((ile 0 e153)) (
 obnd (a3[e153.toNat]?) fun (x166 : ByteArray × Int) =>
 obnd (f37 a0 a1 a2 a3) fun (y167 : (List Int) × (List Int) × Int × (List (ByteArray × Int))) =>
 obnd (f169 y167.1 y167.2.1 y167.2.2.1 y167.2.2.2 r122.2.1 r122.2.2.1 r122.2.2.2 x166.1 (IntKind.i64.wrap (r122.2.1 - (1 : Int)))) fun (y169 : Int × Int × Int × Int) =>
 some (y169.2.2.2, y169.1, y169.2.1, y169.2.2.1))
 ) fun (r161 : Int × Int × Int × Int) =>
 obnd (
 oite ((!(ieq r161.1 (24 : Int)))) (
 some (!(ieq r161.1 (18 : Int)))
 ) (
 some false)
 ) fun (r171 : Bool) =>
 oite r171 (
 some (.inr (.inr (.inr (.inr (false)))))
 ) (
 some (.inl (IntKind.i64.wrap (e153 + (1 : Int)))))
 ) (
 some (.inr (.inl ((imax e33.1 y120.1), r122.2.1, r122.2.2.1, r122.2.2.2))))
 ) (
 some (.inr (.inl ((imax e33.1 y120.1), r122.2.1, r122.2.2.1, r122.2.2.2))))
 ) (0 : Int))))))))))
 ) fun (r181 : Int × Int × Int × Int) =>
 some (.inl (r181.1, (IntKind.i64.wrap (e33.2.1 + (1 : Int))), r181.2.1, r181.2.2.1, r181.2.2.2))
 ) (
 some (.inr (.inl (e33.2.2.1, e33.2.2.2.1, e33.2.2.2.2))))
 ) (((0 : Int), (0 : Int), (0 : Int), (0 : Int), (0 : Int)))
 ) fun (_ : Int × Int × Int) =>
 some true))
set_option maxHeartbeats 1000000 in
theorem c370 [LO]  {a0 : List Int} {a1 : List Int} {a2 : Int} {a3 : List (ByteArray × Int)} {a4 : List (Int × Int × Int)} {a5 : Int} {x : Bool} (H : f370 a0 a1 a2 a3 a4 a5 = some x) : ICalls E 370 [(.agg ⟨[(VS 1 (a0.map eI)), (VS 1 (a1.map eI)), (.int .i64 a2), (VS 2 (a3.map e_SI))]⟩), (VS 3 (a4.map e_III)), (.int .i64 a5)] AHeap.none fun v _ => v = (.bool x) := by
  refine icalls_fn (pfnw ?_); unfold f370 at H;(conv=>whnf);refine pwa ?_;(conv=>whnf);refine pw_seq ?_;refine pwa ?_;(conv=>whnf);obtain ⟨y1, h2, H⟩ := obnd_some H;refine (c50 h2).go ?_;(conv=>whnf);refine pw_cond ?_;(conv=>whnf);refine pbr_oite H (fun g3 H => ?_) (fun g3 H => ?_)
  · (conv=>whnf);refine pwa ?_;(conv=>whnf);refine pw_ret ?_;(conv=>whnf);cases H; rfl
  · (conv=>whnf);refine pw_skip ?_;(conv=>whnf);refine pw_seq ?_;obtain ⟨r4, h5, H⟩ := obnd_some H;refine pw_join (ρ := Bool) (fun e => ⟨[(1, (VS 3 (a4.map e_III))), (2, (.int .i64 a5)), (3, (.pointer (some ⟨0, 0, none⟩))), (62, (.bool e))], ⟨1, [(0, .rw [(VS 1 (a0.map eI)), (VS 1 (a1.map eI)), (.int .i64 a2), (VS 2 (a3.map e_SI))])], false⟩⟩) r4 ?_ ?_
    · refine pw_ops ?_;refine po_ops 5 ?_;(conv=>whnf);obtain ⟨r8, h9, h5⟩ := obnd_some h5;refine po_seg (τ := Bool) 5 (fun e => ⟨[(1, (VS 3 (a4.map e_III))), (2, (.int .i64 a5)), (3, (.pointer (some ⟨0, 0, none⟩))), (37, (.bool e))], ⟨1, [(0, .rw [(VS 1 (a0.map eI)), (VS 1 (a1.map eI)), (.int .i64 a2), (VS 2 (a3.map e_SI))])], false⟩⟩) r8 ?_ ?_
      · refine po_all ?_;(conv=>whnf);refine pbr_oite h9 (fun g10 h9 => ?_) (fun g10 h9 => ?_)
        · (conv=>whnf);(iterate 4 refine pbr_t g10 ?_;(conv=>whnf));cases h9;exact ⟨(.cons rfl (.cons rfl (.cons rfl (.cons rfl .nil)))), rfl⟩
        · (conv=>whnf);(iterate 4 refine pbr_f g10 ?_;(conv=>whnf));cases h9;exact ⟨(.cons rfl (.cons rfl (.cons rfl (.cons rfl .nil)))), rfl⟩
      · refine po_ops 1 ?_;(conv=>whnf);obtain ⟨r11, h12, h5⟩ := obnd_some h5;refine po_seg (τ := Bool) 4 (fun e => ⟨[(1, (VS 3 (a4.map e_III))), (2, (.int .i64 a5)), (3, (.pointer (some ⟨0, 0, none⟩))), (42, (.bool e))], ⟨1, [(0, .rw [(VS 1 (a0.map eI)), (VS 1 (a1.map eI)), (.int .i64 a2), (VS 2 (a3.map e_SI))])], false⟩⟩) r11 ?_ ?_
        · refine po_all ?_;(conv=>whnf);refine pbr_oite h12 (fun g13 h12 => ?_) (fun g13 h12 => ?_)
          · (conv=>whnf);(iterate 3 refine pbr_t g13 ?_;(conv=>whnf));cases h12;exact ⟨(.cons rfl (.cons rfl (.cons rfl (.cons rfl .nil)))), rfl⟩
          · (conv=>whnf);refine pbr_f g13 ?_;(conv=>whnf);obtain ⟨y14, h15, h12⟩ := obnd_some h12;refine (c39 h15).go ?_;(conv=>whnf);refine pbr_f g13 ?_;(conv=>whnf);refine pbr_f g13 ?_;(conv=>whnf);cases h12;exact ⟨(.cons rfl (.cons rfl (.cons rfl (.cons rfl .nil)))), rfl⟩
        · refine po_ops 1 ?_;(conv=>whnf);obtain ⟨r16, h17, h5⟩ := obnd_some h5;refine po_seg (τ := Bool) 4 (fun e => ⟨[(1, (VS 3 (a4.map e_III))), (2, (.int .i64 a5)), (3, (.pointer (some ⟨0, 0, none⟩))), (47, (.bool e))], ⟨1, [(0, .rw [(VS 1 (a0.map eI)), (VS 1 (a1.map eI)), (.int .i64 a2), (VS 2 (a3.map e_SI))])], false⟩⟩) r16 ?_ ?_
          · refine po_all ?_;(conv=>whnf);refine pbr_oite h17 (fun g18 h17 => ?_) (fun g18 h17 => ?_)
            · (conv=>whnf);(iterate 3 refine pbr_t g18 ?_;(conv=>whnf));cases h17;exact ⟨(.cons rfl (.cons rfl (.cons rfl (.cons rfl .nil)))), rfl⟩
            · (conv=>whnf);(iterate 3 refine pbr_f g18 ?_;(conv=>whnf));cases h17;exact ⟨(.cons rfl (.cons rfl (.cons rfl (.cons rfl .nil)))), rfl⟩
          · refine po_ops 1 ?_;(conv=>whnf);obtain ⟨r19, h20, h5⟩ := obnd_some h5;refine po_seg (τ := Bool) 9 (fun e => ⟨[(1, (VS 3 (a4.map e_III))), (2, (.int .i64 a5)), (3, (.pointer (some ⟨0, 0, none⟩))), (57, (.bool e))], ⟨1, [(0, .rw [(VS 1 (a0.map eI)), (VS 1 (a1.map eI)), (.int .i64 a2), (VS 2 (a3.map e_SI))])], false⟩⟩) r19 ?_ ?_
            · refine po_all ?_;(conv=>whnf);refine pbr_oite h20 (fun g21 h20 => ?_) (fun g21 h20 => ?_)
              · (conv=>whnf);(iterate 5 refine pbr_t g21 ?_;(conv=>whnf));cases h20;exact ⟨(.cons rfl (.cons rfl (.cons rfl (.cons rfl .nil)))), rfl⟩
              · (conv=>whnf);(iterate 3 refine pbr_f g21 ?_;(conv=>whnf));refine pbr_oite h20 (fun g22 h20 => ?_) (fun g22 h20 => ?_)
                · (conv=>whnf);refine pbr_t g22 ?_;(conv=>whnf);obtain ⟨y23, h24, h20⟩ := obnd_some h20;refine (c51 h24).go ?_;(conv=>whnf);refine pbr_t g22 ?_;(conv=>whnf);refine pbr_f g21 ?_;(conv=>whnf);refine pbr_t g22 ?_;(conv=>whnf);refine pbr_f g21 ?_;(conv=>whnf);cases h20;exact ⟨(.cons rfl (.cons rfl (.cons rfl (.cons rfl .nil)))), rfl⟩
                · (conv=>whnf);refine pbr_f g22 ?_;(conv=>whnf);refine pbr_f g22 ?_;(conv=>whnf);refine pbr_f g21 ?_;(conv=>whnf);refine pbr_f g22 ?_;(conv=>whnf);refine pbr_f g21 ?_;(conv=>whnf);cases h20;exact ⟨(.cons rfl (.cons rfl (.cons rfl (.cons rfl .nil)))), rfl⟩
            · refine po_all ?_;(conv=>whnf);refine pbr_oite h5 (fun g25 h5 => ?_) (fun g25 h5 => ?_)
              · (conv=>whnf);(iterate 3 refine pbr_t g25 ?_;(conv=>whnf));cases h5;exact ⟨(.cons rfl (.cons rfl (.cons rfl (.cons rfl .nil)))), rfl⟩
              · (conv=>whnf);refine pbr_f g25 ?_;(conv=>whnf);obtain ⟨y26, h27, h5⟩ := obnd_some h5;refine (c52 h27).go ?_;(conv=>whnf);refine pbr_f g25 ?_;(conv=>whnf);refine pbr_f g25 ?_;(conv=>whnf);cases h5;exact ⟨(.cons rfl (.cons rfl (.cons rfl (.cons rfl .nil)))), rfl⟩
    · refine pw_cond ?_;(conv=>whnf);refine pbr_oite H (fun g28 H => ?_) (fun g28 H => ?_)
      · (conv=>whnf);refine pwa ?_;(conv=>whnf);refine pw_ret ?_;(conv=>whnf);cases H; rfl
      · (conv=>whnf);refine pw_skip ?_;(conv=>whnf);refine pwa ?_;(conv=>whnf);refine pwa ?_;(conv=>whnf);obtain ⟨r29, h30, h31, h32⟩ := obndS_some H;refine pw_joinS (ρ := Int × Int × Int) (fun e => ⟨[], ⟨2, [(1, .rw [(.int .i64 e.1), (.int .i64 e.2.1), (.int .i64 e.2.2)]), (0, .rw [(VS 1 (a0.map eI)), (VS 1 (a1.map eI)), (.int .i64 a2), (VS 2 (a3.map e_SI))])], false⟩⟩) r29 ?_ ?_
        · refine pwa ?_;(conv=>whnf);refine pw_block ?_;refine pw_loop (τ := Int × Int × Int × Int × Int) (fun e => ⟨[(1, (VS 3 (a4.map e_III))), (2, (.int .i64 a5)), (3, (.pointer (some ⟨0, 0, none⟩))), (7, (.pointer (some ⟨1, 0, none⟩))), (8, (.int .i64 e.1)), (9, (.int .i64 e.2.1))], ⟨2, [(1, .rw [(.int .i64 e.2.2.1), (.int .i64 e.2.2.2.1), (.int .i64 e.2.2.2.2)]), (0, .rw [(VS 1 (a0.map eI)), (VS 1 (a1.map eI)), (.int .i64 a2), (VS 2 (a3.map e_SI))])], false⟩⟩) h30 ?_ (fun _ => nl rfl) ?_
          · exact .sub' (nl rfl) (.cons rfl (.cons rfl (.cons rfl (.cons rfl (.cons rfl (.cons rfl .nil))))))
          · intro e33 x34 h35;refine pw_seq ?_;refine pwa ?_;(conv=>whnf);refine pw_cond ?_;(conv=>whnf);refine pbr_oite h35 (fun g36 h35 => ?_) (fun g36 h35 => ?_)
            · (conv=>whnf);refine pw_skip ?_;(conv=>whnf);obtain ⟨r37, h38, h39, h40⟩ := obndS_some h35;refine pw_joinSR (ρ := Int × Int × Int × Int) (fun e => ⟨[(1, (VS 3 (a4.map e_III))), (2, (.int .i64 a5)), (3, (.pointer (some ⟨0, 0, none⟩))), (7, (.pointer (some ⟨1, 0, none⟩))), (8, (.int .i64 e.1)), (9, (.int .i64 e33.2.1))], ⟨2, [(1, .rw [(.int .i64 e.2.1), (.int .i64 e.2.2.1), (.int .i64 e.2.2.2)]), (0, .rw [(VS 1 (a0.map eI)), (VS 1 (a1.map eI)), (.int .i64 a2), (VS 2 (a3.map e_SI))])], false⟩⟩) r37 ?_ ?_
              · refine pw_block ?_;refine pwa ?_;(conv=>whnf);refine pbr_ogrd h38 (fun g41 h38 => ?_);(conv=>whnf);refine nth_o (l := a4) h38 (fun x42 _ h38 => ?_);(conv=>whnf);obtain ⟨y43, h44, h38⟩ := obnd_some h38;refine (c374 h44).go ?_;(conv=>whnf);obtain ⟨y45, h46, h38⟩ := obnd_some h38;refine (c373 h46).go ?_;(conv=>whnf);refine pw_seq ?_;obtain ⟨r47, h48, h38⟩ := obnd_some h38;refine pw_join (ρ := Bool) (fun e => ⟨[(1, (VS 3 (a4.map e_III))), (2, (.int .i64 a5)), (3, (.pointer (some ⟨0, 0, none⟩))), (7, (.pointer (some ⟨1, 0, none⟩))), (8, (.int .i64 e33.1)), (9, (.int .i64 e33.2.1)), (10, (.pointer (some ⟨2, 0, none⟩))), (87, (.bool e))], ⟨3, [(2, .rw [(.int .i64 y45.1), (.int .i64 y45.2.1), (.int .i64 y45.2.2.1)]), (1, .rw [(.int .i64 e33.2.2.1), (.int .i64 e33.2.2.2.1), (.int .i64 e33.2.2.2.2)]), (0, .rw [(VS 1 (a0.map eI)), (VS 1 (a1.map eI)), (.int .i64 a2), (VS 2 (a3.map e_SI))])], false⟩⟩) r47 ?_ ?_
                · refine pw_draw ?_;(conv=>whnf);refine pbr_oite h48 (fun g51 h48 => ?_) (fun g51 h48 => ?_)
                  · (conv=>whnf);(iterate 6 refine pbr_t g51 ?_;(conv=>whnf));cases h48;exact ⟨(.cons rfl (.cons rfl (.cons rfl (.cons rfl (.cons rfl (.cons rfl (.cons rfl (.cons rfl .nil)))))))), rfl⟩
                  · (conv=>whnf);(iterate 3 refine pbr_f g51 ?_;(conv=>whnf));refine pbr_t g41 ?_;(conv=>whnf);refine nth_o (l := a4) h48 (fun x52 _ h48 => ?_);(conv=>whnf);(iterate 3 refine pbr_f g51 ?_;(conv=>whnf));cases h48;exact ⟨(.cons rfl (.cons rfl (.cons rfl (.cons rfl (.cons rfl (.cons rfl (.cons rfl (.cons rfl .nil)))))))), rfl⟩
                · refine pw_cond ?_;(conv=>whnf);refine pbr_oite h38 (fun g53 h38 => ?_) (fun g53 h38 => ?_)
                  · (conv=>whnf);refine pwa ?_;(conv=>whnf);refine pw_ret ?_;(conv=>whnf);cases h38;obtain rfl := h40 _ rfl;refine ⟨_, rfl, ?_⟩; rintro rfl;(conv=>whnf);obtain rfl := h32 _ rfl; rfl
                  · (conv=>whnf);refine pw_skip ?_;(conv=>whnf);refine pwa ?_;(conv=>whnf);refine oslH_o (f := e_III) h38 (fun m55 _ h38 h56 h57 => ?_);refine pbr_t (ile_t h56.1) ?_;(conv=>whnf);refine pbr_t (ile_t (by simpa only [List.length_map] using h56.2)) ?_; rw [h57];(conv=>whnf);obtain ⟨y58, h59, h38⟩ := obnd_some h38;refine (c53 h59).go ?_;(conv=>whnf);obtain ⟨y60, h61, h38⟩ := obnd_some h38;refine (c55 h61).go ?_;(conv=>whnf);refine pw_seq ?_;refine pwa ?_;(conv=>whnf);refine pw_cond ?_;(conv=>whnf);refine pbr_oite h38 (fun g62 h38 => ?_) (fun g62 h38 => ?_)
                    · (conv=>whnf);refine pw_seq ?_;obtain ⟨r63, h64, h38⟩ := obnd_some h38;refine pw_join (ρ := Bool) (fun e => ⟨[(1, (VS 3 (a4.map e_III))), (2, (.int .i64 a5)), (3, (.pointer (some ⟨0, 0, none⟩))), (7, (.pointer (some ⟨1, 0, none⟩))), (8, (.int .i64 e33.1)), (9, (.int .i64 e33.2.1)), (115, (.bool e))], ⟨4, [(3, .rw [(.int .i64 y60.1), (.int .i64 y60.2.1), (.int .i64 y60.2.2.1), (.int .i64 y60.2.2.2.1), (.int .i64 y60.2.2.2.2.1), (.int .i64 y60.2.2.2.2.2.1)]), (2, .rw [(.int .i64 y45.1), (.int .i64 y45.2.1), (.int .i64 y45.2.2.1)]), (1, .rw [(.int .i64 e33.2.2.1), (.int .i64 e33.2.2.2.1), (.int .i64 e33.2.2.2.2)]), (0, .rw [(VS 1 (a0.map eI)), (VS 1 (a1.map eI)), (.int .i64 a2), (VS 2 (a3.map e_SI))])], false⟩⟩) r63 ?_ ?_
                      · refine pw_ops ?_;refine po_ops 3 ?_;(conv=>whnf);obtain ⟨r67, h68, h64⟩ := obnd_some h64;refine po_seg (τ := Bool) 3 (fun e => ⟨[(1, (VS 3 (a4.map e_III))), (2, (.int .i64 a5)), (3, (.pointer (some ⟨0, 0, none⟩))), (7, (.pointer (some ⟨1, 0, none⟩))), (8, (.int .i64 e33.1)), (9, (.int .i64 e33.2.1)), (13, (.int .i64 y60.2.2.2.2.2.2)), (104, (.bool e))], ⟨4, [(3, .rw [(.int .i64 y60.1), (.int .i64 y60.2.1), (.int .i64 y60.2.2.1), (.int .i64 y60.2.2.2.1), (.int .i64 y60.2.2.2.2.1), (.int .i64 y60.2.2.2.2.2.1)]), (2, .rw [(.int .i64 y45.1), (.int .i64 y45.2.1), (.int .i64 y45.2.2.1)]), (1, .rw [(.int .i64 e33.2.2.1), (.int .i64 e33.2.2.2.1), (.int .i64 e33.2.2.2.2)]), (0, .rw [(VS 1 (a0.map eI)), (VS 1 (a1.map eI)), (.int .i64 a2), (VS 2 (a3.map e_SI))])], false⟩⟩) r67 ?_ ?_
                        · refine po_all ?_;(conv=>whnf);refine pbr_oite h68 (fun g69 h68 => ?_) (fun g69 h68 => ?_)
                          · (conv=>whnf);refine pbr_t g69 ?_;(conv=>whnf);refine pbr_t g69 ?_;(conv=>whnf);cases h68;exact ⟨(.cons rfl (.cons rfl (.cons rfl (.cons rfl (.cons rfl (.cons rfl (.cons rfl (.cons rfl .nil)))))))), rfl⟩
                          · (conv=>whnf);refine pbr_f g69 ?_;(conv=>whnf);refine pbr_f g69 ?_;(conv=>whnf);cases h68;exact ⟨(.cons rfl (.cons rfl (.cons rfl (.cons rfl (.cons rfl (.cons rfl (.cons rfl (.cons rfl .nil)))))))), rfl⟩
                        · refine po_ops 1 ?_;(conv=>whnf);obtain ⟨r70, h71, h64⟩ := obnd_some h64;refine po_seg (τ := Bool) 3 (fun e => ⟨[(1, (VS 3 (a4.map e_III))), (2, (.int .i64 a5)), (3, (.pointer (some ⟨0, 0, none⟩))), (7, (.pointer (some ⟨1, 0, none⟩))), (8, (.int .i64 e33.1)), (9, (.int .i64 e33.2.1)), (13, (.int .i64 y60.2.2.2.2.2.2)), (108, (.bool e))], ⟨4, [(3, .rw [(.int .i64 y60.1), (.int .i64 y60.2.1), (.int .i64 y60.2.2.1), (.int .i64 y60.2.2.2.1), (.int .i64 y60.2.2.2.2.1), (.int .i64 y60.2.2.2.2.2.1)]), (2, .rw [(.int .i64 y45.1), (.int .i64 y45.2.1), (.int .i64 y45.2.2.1)]), (1, .rw [(.int .i64 e33.2.2.1), (.int .i64 e33.2.2.2.1), (.int .i64 e33.2.2.2.2)]), (0, .rw [(VS 1 (a0.map eI)), (VS 1 (a1.map eI)), (.int .i64 a2), (VS 2 (a3.map e_SI))])], false⟩⟩) r70 ?_ ?_
                          · refine po_all ?_;(conv=>whnf);refine pbr_oite h71 (fun g72 h71 => ?_) (fun g72 h71 => ?_)
                            · (conv=>whnf);refine pbr_t g72 ?_;(conv=>whnf);refine pbr_t g72 ?_;(conv=>whnf);cases h71;exact ⟨(.cons rfl (.cons rfl (.cons rfl (.cons rfl (.cons rfl (.cons rfl (.cons rfl (.cons rfl .nil)))))))), rfl⟩
                            · (conv=>whnf);refine pbr_f g72 ?_;(conv=>whnf);refine pbr_f g72 ?_;(conv=>whnf);cases h71;exact ⟨(.cons rfl (.cons rfl (.cons rfl (.cons rfl (.cons rfl (.cons rfl (.cons rfl (.cons rfl .nil)))))))), rfl⟩
                          · refine po_all ?_;(conv=>whnf);refine pbr_oite h64 (fun g73 h64 => ?_) (fun g73 h64 => ?_)
                            · (conv=>whnf);(iterate 5 refine pbr_t g73 ?_;(conv=>whnf));cases h64;exact ⟨(.cons rfl (.cons rfl (.cons rfl (.cons rfl (.cons rfl (.cons rfl (.cons rfl .nil))))))), rfl⟩
                            · (conv=>whnf);(iterate 5 refine pbr_f g73 ?_;(conv=>whnf));cases h64;exact ⟨(.cons rfl (.cons rfl (.cons rfl (.cons rfl (.cons rfl (.cons rfl (.cons rfl .nil))))))), rfl⟩
                      · refine pw_cond ?_;(conv=>whnf);refine pbr_oite h38 (fun g74 h38 => ?_) (fun g74 h38 => ?_)
                        · (conv=>whnf);refine pwa ?_;(conv=>whnf);refine pw_ret ?_;(conv=>whnf);cases h38;obtain rfl := h40 _ rfl;refine ⟨_, rfl, ?_⟩; rintro rfl;(conv=>whnf);obtain rfl := h32 _ rfl; rfl
                        · (conv=>whnf);refine pw_skip ?_;(conv=>whnf);refine pw_exit ?_;(conv=>whnf);cases h38;refine ⟨_, rfl, ?_⟩;exact Recast.fz (fun _ => false) (nl rfl) (.cons (.same rfl rfl (OBnd.rwl (nl rfl) rfl (.cons .cl (.cons .cl (.cons .cl .nil))))) (.cons (.same rfl rfl (OBnd.rwl (nl rfl) rfl (.cons .cl (.cons .cl (.cons .cl (.cons .cl .nil)))))) .nil)) (.cons rfl (.same _ .cl) (.cons rfl (.same _ .cl) (.cons rfl (.same _ (.ptr (nl rfl))) (.cons rfl (.same _ (.ptr (nl rfl))) (.cons rfl (.same _ .cl) (.cons rfl (.same _ .cl) .nil))))))
                    · (conv=>whnf);refine pw_skip ?_;(conv=>whnf);obtain ⟨r76, h77, h38⟩ := obnd_some h38;refine pw_join (ρ := Int × Int × Int) (fun e => ⟨[(1, (VS 3 (a4.map e_III))), (2, (.int .i64 a5)), (3, (.pointer (some ⟨0, 0, none⟩))), (7, (.pointer (some ⟨1, 0, none⟩))), (8, (.int .i64 e33.1)), (9, (.int .i64 e33.2.1)), (10, (.pointer (some ⟨2, 0, none⟩))), (14, (.pointer (some ⟨4, 0, none⟩))), (15, (.int .i64 e.1))], ⟨5, [(4, .rw [(.int .i64 e.2.1), (.int .i64 e.2.2)]), (3, .rw [(.int .i64 y60.1), (.int .i64 y60.2.1), (.int .i64 y60.2.2.1), (.int .i64 y60.2.2.2.1), (.int .i64 y60.2.2.2.2.1), (.int .i64 y60.2.2.2.2.2.1)]), (2, .rw [(.int .i64 y45.1), (.int .i64 y45.2.1), (.int .i64 y45.2.2.1)]), (1, .rw [(.int .i64 e33.2.2.1), (.int .i64 e33.2.2.2.1), (.int .i64 e33.2.2.2.2)]), (0, .rw [(VS 1 (a0.map eI)), (VS 1 (a1.map eI)), (.int .i64 a2), (VS 2 (a3.map e_SI))])], false⟩⟩) r76 ?_ ?_
                      · refine pw_draw ?_;(conv=>whnf);refine oslH_o (f := e_III) h77 (fun m80 _ h77 h81 h82 => ?_);refine pbr_t (ile_t h81.1) ?_;(conv=>whnf);refine pbr_t (ile_t (by simpa only [List.length_map] using h81.2)) ?_; rw [h82];(conv=>whnf);refine ⟨?_, ?_⟩
                        · (conv=>whnf);obtain ⟨y83, h84, h77⟩ := obnd_some h77;refine (c53 h84).go ?_;(conv=>whnf);refine ⟨by repeat (first | exact trivial | refine And.intro rfl ?_), ?_⟩;(conv=>whnf);refine ⟨?_, ?_⟩
                          · (conv=>whnf);obtain ⟨y85, h86, h77⟩ := obnd_some h77;refine (c59 h86).go ?_;(conv=>whnf);refine ⟨by repeat (first | exact trivial | refine And.intro rfl ?_), ?_⟩;(conv=>whnf);refine ⟨?_, trivial⟩;(conv=>whnf);refine ⟨by repeat (first | exact trivial | refine And.intro rfl ?_), ?_⟩;(conv=>whnf);refine ⟨?_, trivial⟩;(conv=>whnf);refine ⟨by repeat (first | exact trivial | refine And.intro rfl ?_), ?_⟩;(conv=>whnf);cases h77;exact ⟨(.cons rfl (.cons rfl (.cons rfl (.cons rfl (.cons rfl (.cons rfl (.cons rfl (.cons rfl (.cons rfl .nil))))))))), rfl⟩
                          · obtain ⟨y85, h86, h77⟩ := obnd_some h77;(conv=>whnf);refine ⟨?_, trivial⟩;(conv=>whnf);refine ⟨by repeat (first | exact trivial | refine And.intro rfl ?_), ?_⟩;(conv=>whnf);refine ⟨?_, trivial⟩;(conv=>whnf);refine (c59 h86).go ?_;(conv=>whnf);refine ⟨by repeat (first | exact trivial | refine And.intro rfl ?_), ?_⟩;(conv=>whnf);refine ⟨?_, trivial⟩;(conv=>whnf);refine ⟨by repeat (first | exact trivial | refine And.intro rfl ?_), ?_⟩;(conv=>whnf);cases h77;exact ⟨(.cons rfl (.cons rfl (.cons rfl (.cons rfl (.cons rfl (.cons rfl (.cons rfl (.cons rfl (.cons rfl .nil))))))))), rfl⟩
                        · obtain ⟨y83, h84, h77⟩ := obnd_some h77;obtain ⟨y85, h86, h77⟩ := obnd_some h77;(conv=>whnf);refine ⟨?_, trivial⟩;(conv=>whnf);refine ⟨by repeat (first | exact trivial | refine And.intro rfl ?_), ?_⟩;(conv=>whnf);refine ⟨?_, trivial⟩;(conv=>whnf);refine (c53 h84).go ?_;(conv=>whnf);refine ⟨by repeat (first | exact trivial | refine And.intro rfl ?_), ?_⟩;(conv=>whnf);refine ⟨?_, trivial⟩;(conv=>whnf);refine (c59 h86).go ?_;(conv=>whnf);refine ⟨by repeat (first | exact trivial | refine And.intro rfl ?_), ?_⟩;(conv=>whnf);refine ⟨?_, trivial⟩;(conv=>whnf);refine ⟨by repeat (first | exact trivial | refine And.intro rfl ?_), ?_⟩
                          (conv=>whnf);cases h77;exact ⟨(.cons rfl (.cons rfl (.cons rfl (.cons rfl (.cons rfl (.cons rfl (.cons rfl (.cons rfl (.cons rfl .nil))))))))), rfl⟩
                      · refine pw_seq ?_;refine pwa ?_;(conv=>whnf);refine pw_cond ?_;(conv=>whnf);refine pbr_oite h38 (fun g87 h38 => ?_) (fun g87 h38 => ?_)
                        · (conv=>whnf);refine pwa ?_;(conv=>whnf);refine pw_ret ?_;(conv=>whnf);cases h38;obtain rfl := h40 _ rfl;refine ⟨_, rfl, ?_⟩; rintro rfl;(conv=>whnf);obtain rfl := h32 _ rfl; rfl
                        · (conv=>whnf);refine pw_skip ?_;(conv=>whnf);refine pwa ?_;(conv=>whnf);obtain ⟨y89, h90, h38⟩ := obnd_some h38;refine (c42 h90).go ?_;(conv=>whnf);refine pw_seq ?_;refine pwa ?_;(conv=>whnf);refine pw_cond ?_;(conv=>whnf);refine pbr_oite h38 (fun g91 h38 => ?_) (fun g91 h38 => ?_)
                          · (conv=>whnf);refine pw_seq ?_;obtain ⟨r92, h93, h38⟩ := obnd_some h38;refine pw_join (ρ := Bool) (fun e => ⟨[(1, (VS 3 (a4.map e_III))), (2, (.int .i64 a5)), (3, (.pointer (some ⟨0, 0, none⟩))), (7, (.pointer (some ⟨1, 0, none⟩))), (8, (.int .i64 e33.1)), (9, (.int .i64 e33.2.1)), (148, (.bool e))], ⟨5, [(4, .rw [(.int .i64 r76.2.1), (.int .i64 r76.2.2)]), (3, .rw [(.int .i64 y60.1), (.int .i64 y60.2.1), (.int .i64 y60.2.2.1), (.int .i64 y60.2.2.2.1), (.int .i64 y60.2.2.2.2.1), (.int .i64 y60.2.2.2.2.2.1)]), (2, .rw [(.int .i64 y45.1), (.int .i64 y45.2.1), (.int .i64 y45.2.2.1)]), (1, .rw [(.int .i64 e33.2.2.1), (.int .i64 e33.2.2.2.1), (.int .i64 e33.2.2.2.2)]), (0, .rw [(VS 1 (a0.map eI)), (VS 1 (a1.map eI)), (.int .i64 a2), (VS 2 (a3.map e_SI))])], false⟩⟩) r92 ?_ ?_
                            · refine pw_ops ?_;refine po_ops 7 ?_;(conv=>whnf);refine pbr_oite h93 (fun g96 h93 => ?_) (fun g96 h93 => ?_)
                              · (conv=>whnf);(iterate 3 refine pbr_t g96 ?_;(conv=>whnf));refine po_ops 4 ?_;(conv=>whnf);refine pbr_t g96 ?_;(conv=>whnf);refine po_all ?_;(conv=>whnf);refine pbr_t g96 ?_;(conv=>whnf);cases h93;exact ⟨(.cons rfl (.cons rfl (.cons rfl (.cons rfl (.cons rfl (.cons rfl (.cons rfl .nil))))))), rfl⟩
                              · (conv=>whnf);refine pbr_f g96 ?_;(conv=>whnf);refine pbr_f g96 ?_;(conv=>whnf);obtain ⟨y97, h98, h93⟩ := obnd_some h93;refine (c15 h98).go ?_;(conv=>whnf);refine pbr_f g96 ?_;(conv=>whnf);obtain ⟨r99, h100, h93⟩ := obnd_some h93;refine po_seg (τ := Bool) 4 (fun e => ⟨[(1, (VS 3 (a4.map e_III))), (2, (.int .i64 a5)), (3, (.pointer (some ⟨0, 0, none⟩))), (7, (.pointer (some ⟨1, 0, none⟩))), (8, (.int .i64 e33.1)), (9, (.int .i64 e33.2.1)), (139, (.bool (!(ieq y89.2 (2 : Int))))), (140, (.pointer (some ⟨4, 0, none⟩))), (141, (.int .i64 r76.2.1)), (142, (.bool y97)), (143, (.bool y97)), (147, (.bool e))], ⟨5, [(4, .rw [(.int .i64 r76.2.1), (.int .i64 r76.2.2)]), (3, .rw [(.int .i64 y60.1), (.int .i64 y60.2.1), (.int .i64 y60.2.2.1), (.int .i64 y60.2.2.2.1), (.int .i64 y60.2.2.2.2.1), (.int .i64 y60.2.2.2.2.2.1)]), (2, .rw [(.int .i64 y45.1), (.int .i64 y45.2.1), (.int .i64 y45.2.2.1)]), (1, .rw [(.int .i64 e33.2.2.1), (.int .i64 e33.2.2.2.1), (.int .i64 e33.2.2.2.2)]), (0, .rw [(VS 1 (a0.map eI)), (VS 1 (a1.map eI)), (.int .i64 a2), (VS 2 (a3.map e_SI))])], false⟩⟩) r99 ?_ ?_
                                · refine po_all ?_;(conv=>whnf);refine pbr_oite h100 (fun g101 h100 => ?_) (fun g101 h100 => ?_)
                                  · (conv=>whnf);refine pbr_t g101 ?_;(conv=>whnf);refine pbr_t g101 ?_;(conv=>whnf);obtain ⟨y102, h103, h100⟩ := obnd_some h100;refine (c15 h103).go ?_;(conv=>whnf);refine pbr_f g96 ?_;(conv=>whnf);refine pbr_t g101 ?_;(conv=>whnf);cases h100;exact ⟨(.cons rfl (.cons rfl (.cons rfl (.cons rfl (.cons rfl (.cons rfl (.cons rfl (.cons rfl (.cons rfl (.cons rfl (.cons rfl (.cons rfl .nil)))))))))))), rfl⟩
                                  · (conv=>whnf);refine pbr_f g101 ?_;(conv=>whnf);refine pbr_f g101 ?_;(conv=>whnf);refine pbr_f g96 ?_;(conv=>whnf);refine pbr_f g101 ?_;(conv=>whnf);cases h100;exact ⟨(.cons rfl (.cons rfl (.cons rfl (.cons rfl (.cons rfl (.cons rfl (.cons rfl (.cons rfl (.cons rfl (.cons rfl (.cons rfl (.cons rfl .nil)))))))))))), rfl⟩
                                · refine po_all ?_;(conv=>whnf);refine pbr_f g96 ?_;(conv=>whnf);cases h93;exact ⟨(.cons rfl (.cons rfl (.cons rfl (.cons rfl (.cons rfl (.cons rfl (.cons rfl .nil))))))), rfl⟩
                            · refine pw_cond ?_;(conv=>whnf);refine pbr_oite h38 (fun g104 h38 => ?_) (fun g104 h38 => ?_)
                              · (conv=>whnf);refine pwa ?_;(conv=>whnf);refine pw_ret ?_;(conv=>whnf);cases h38;obtain rfl := h40 _ rfl;refine ⟨_, rfl, ?_⟩; rintro rfl;(conv=>whnf);obtain rfl := h32 _ rfl; rfl
                              · (conv=>whnf);refine pw_skip ?_;(conv=>whnf);refine pw_exit ?_;(conv=>whnf);cases h38;refine ⟨_, rfl, ?_⟩;exact Recast.fz (fun _ => false) (nl rfl) (.cons (.same rfl rfl (OBnd.rwl (nl rfl) rfl (.cons .cl (.cons .cl (.cons .cl .nil))))) (.cons (.same rfl rfl (OBnd.rwl (nl rfl) rfl (.cons .cl (.cons .cl (.cons .cl (.cons .cl .nil)))))) .nil)) (.cons rfl (.same _ .cl) (.cons rfl (.same _ .cl) (.cons rfl (.same _ (.ptr (nl rfl))) (.cons rfl (.same _ (.ptr (nl rfl))) (.cons rfl (.same _ .cl) (.cons rfl (.same _ .cl) .nil))))))
                          · (conv=>whnf);refine pw_skip ?_;(conv=>whnf);refine pwa ?_;(conv=>whnf);obtain ⟨y106, h107, h38⟩ := obnd_some h38;refine (c15 h107).go ?_;(conv=>whnf);refine pw_seq ?_;obtain ⟨r108, h109, h38⟩ := obnd_some h38;refine pw_join (ρ := Bool) (fun e => ⟨[(1, (VS 3 (a4.map e_III))), (2, (.int .i64 a5)), (3, (.pointer (some ⟨0, 0, none⟩))), (7, (.pointer (some ⟨1, 0, none⟩))), (8, (.int .i64 e33.1)), (9, (.int .i64 e33.2.1)), (16, (.int .i64 y89.1)), (18, (.bool y106)), (164, (.bool e))], ⟨5, [(4, .rw [(.int .i64 r76.2.1), (.int .i64 r76.2.2)]), (3, .rw [(.int .i64 y60.1), (.int .i64 y60.2.1), (.int .i64 y60.2.2.1), (.int .i64 y60.2.2.2.1), (.int .i64 y60.2.2.2.2.1), (.int .i64 y60.2.2.2.2.2.1)]), (2, .rw [(.int .i64 y45.1), (.int .i64 y45.2.1), (.int .i64 y45.2.2.1)]), (1, .rw [(.int .i64 e33.2.2.1), (.int .i64 e33.2.2.2.1), (.int .i64 e33.2.2.2.2)]), (0, .rw [(VS 1 (a0.map eI)), (VS 1 (a1.map eI)), (.int .i64 a2), (VS 2 (a3.map e_SI))])], false⟩⟩) r108 ?_ ?_
                            · refine pw_ops ?_;refine po_all ?_;(conv=>whnf);refine pbr_oite h109 (fun g112 h109 => ?_) (fun g112 h109 => ?_)
                              · (conv=>whnf);(iterate 3 refine pbr_t g112 ?_;(conv=>whnf));cases h109;exact ⟨(.cons rfl (.cons rfl (.cons rfl (.cons rfl (.cons rfl (.cons rfl (.cons rfl (.cons rfl (.cons rfl .nil))))))))), rfl⟩
                              · (conv=>whnf);refine pbr_f g112 ?_;(conv=>whnf);obtain ⟨y113, h114, h109⟩ := obnd_some h109;refine (c15 h114).go ?_;(conv=>whnf);refine pbr_f g112 ?_;(conv=>whnf);refine pbr_f g112 ?_;(conv=>whnf);cases h109;exact ⟨(.cons rfl (.cons rfl (.cons rfl (.cons rfl (.cons rfl (.cons rfl (.cons rfl (.cons rfl (.cons rfl .nil))))))))), rfl⟩
                            · refine pw_cond ?_;(conv=>whnf);refine pbr_oite h38 (fun g115 h38 => ?_) (fun g115 h38 => ?_)
                              · (conv=>whnf);refine pwa ?_;(conv=>whnf);refine pw_ret ?_;(conv=>whnf);cases h38;obtain rfl := h40 _ rfl;refine ⟨_, rfl, ?_⟩; rintro rfl;(conv=>whnf);obtain rfl := h32 _ rfl; rfl
                              · (conv=>whnf);refine pw_skip ?_;(conv=>whnf);refine pw_seq ?_;refine pwa ?_;(conv=>whnf);refine pw_cond ?_;(conv=>whnf);refine pbr_oite h38 (fun g117 h38 => ?_) (fun g117 h38 => ?_)
                                · (conv=>whnf);refine pw_exit ?_;(conv=>whnf);cases h38;refine ⟨_, rfl, ?_⟩;exact Recast.fz (fun _ => false) (nl rfl) (.cons (.same rfl rfl (OBnd.rwl (nl rfl) rfl (.cons .cl (.cons .cl (.cons .cl .nil))))) (.cons (.same rfl rfl (OBnd.rwl (nl rfl) rfl (.cons .cl (.cons .cl (.cons .cl (.cons .cl .nil)))))) .nil)) (.cons rfl (.same _ .cl) (.cons rfl (.same _ .cl) (.cons rfl (.same _ (.ptr (nl rfl))) (.cons rfl (.same _ (.ptr (nl rfl))) (.cons rfl (.same _ .cl) (.cons rfl (.same _ .cl) .nil))))))
                                · (conv=>whnf);refine pw_skip ?_;(conv=>whnf);refine pwa ?_;(conv=>whnf);obtain ⟨y118, h119, h38⟩ := obnd_some h38;refine (c37 h119).go ?_;(conv=>whnf);obtain ⟨y120, h121, h38⟩ := obnd_some h38;refine (c44 h121).go ?_;(conv=>whnf);obtain ⟨r122, h123, h38⟩ := obnd_some h38;refine pw_join (ρ := Int × Int × Int × Int) (fun e => ⟨[(1, (VS 3 (a4.map e_III))), (2, (.int .i64 a5)), (3, (.pointer (some ⟨0, 0, none⟩))), (7, (.pointer (some ⟨1, 0, none⟩))), (8, (.int .i64 e33.1)), (9, (.int .i64 e33.2.1)), (16, (.int .i64 y89.1)), (18, (.bool y106)), (19, (.int .i64 y120.1)), (20, (.int .i64 y120.2)), (21, (.pointer (some ⟨5, 0, none⟩))), (22, (.int .i64 e.1))], ⟨6, [(5, .rw [(.int .i64 e.2.1), (.int .i64 e.2.2.1), (.int .i64 e.2.2.2)]), (4, .rw [(.int .i64 r76.2.1), (.int .i64 r76.2.2)]), (3, .rw [(.int .i64 y60.1), (.int .i64 y60.2.1), (.int .i64 y60.2.2.1), (.int .i64 y60.2.2.2.1), (.int .i64 y60.2.2.2.2.1), (.int .i64 y60.2.2.2.2.2.1)]), (2, .rw [(.int .i64 y45.1), (.int .i64 y45.2.1), (.int .i64 y45.2.2.1)]), (1, .rw [(.int .i64 e33.2.2.1), (.int .i64 e33.2.2.2.1), (.int .i64 e33.2.2.2.2)]), (0, .rw [(VS 1 (a0.map eI)), (VS 1 (a1.map eI)), (.int .i64 a2), (VS 2 (a3.map e_SI))])], false⟩⟩) r122 ?_ ?_
                                  · refine pw_draw ?_;(conv=>whnf);refine ⟨?_, ?_⟩
                                    · (conv=>whnf);obtain ⟨y126, h127, h123⟩ := obnd_some h123;refine (c37 h127).go ?_;(conv=>whnf);refine ⟨by repeat (first | exact trivial | refine And.intro rfl ?_), ?_⟩;(conv=>whnf);refine ⟨?_, ?_⟩
                                      · (conv=>whnf);obtain ⟨y128, h129, h123⟩ := obnd_some h123;refine (c45 h129).go ?_;(conv=>whnf);refine ⟨by repeat (first | exact trivial | refine And.intro rfl ?_), ?_⟩;(conv=>whnf);refine ⟨?_, trivial⟩;(conv=>whnf);refine ⟨by repeat (first | exact trivial | refine And.intro rfl ?_), ?_⟩;(conv=>whnf);refine ⟨?_, trivial⟩;(conv=>whnf);refine ⟨by repeat (first | exact trivial | refine And.intro rfl ?_), ?_⟩;(conv=>whnf);cases h123;exact ⟨(.cons rfl (.cons rfl (.cons rfl (.cons rfl (.cons rfl (.cons rfl (.cons rfl (.cons rfl (.cons rfl (.cons rfl (.cons rfl (.cons rfl .nil)))))))))))), rfl⟩
                                      · obtain ⟨y128, h129, h123⟩ := obnd_some h123;(conv=>whnf);refine ⟨?_, trivial⟩;(conv=>whnf);refine ⟨by repeat (first | exact trivial | refine And.intro rfl ?_), ?_⟩;(conv=>whnf);refine ⟨?_, trivial⟩;(conv=>whnf);refine (c45 h129).go ?_;(conv=>whnf);refine ⟨by repeat (first | exact trivial | refine And.intro rfl ?_), ?_⟩;(conv=>whnf);refine ⟨?_, trivial⟩;(conv=>whnf);refine ⟨by repeat (first | exact trivial | refine And.intro rfl ?_), ?_⟩;(conv=>whnf);cases h123;exact ⟨(.cons rfl (.cons rfl (.cons rfl (.cons rfl (.cons rfl (.cons rfl (.cons rfl (.cons rfl (.cons rfl (.cons rfl (.cons rfl (.cons rfl .nil)))))))))))), rfl⟩
                                    · obtain ⟨y126, h127, h123⟩ := obnd_some h123;obtain ⟨y128, h129, h123⟩ := obnd_some h123;(conv=>whnf);refine ⟨?_, trivial⟩;(conv=>whnf);refine ⟨by repeat (first | exact trivial | refine And.intro rfl ?_), ?_⟩;(conv=>whnf);refine ⟨?_, trivial⟩;(conv=>whnf);refine (c37 h127).go ?_;(conv=>whnf);refine ⟨by repeat (first | exact trivial | refine And.intro rfl ?_), ?_⟩;(conv=>whnf);refine ⟨?_, trivial⟩;(conv=>whnf);refine (c45 h129).go ?_;(conv=>whnf);refine ⟨by repeat (first | exact trivial | refine And.intro rfl ?_), ?_⟩;(conv=>whnf);refine ⟨?_, trivial⟩;(conv=>whnf);refine ⟨by repeat (first | exact trivial | refine And.intro rfl ?_), ?_⟩
                                      (conv=>whnf);cases h123;exact ⟨(.cons rfl (.cons rfl (.cons rfl (.cons rfl (.cons rfl (.cons rfl (.cons rfl (.cons rfl (.cons rfl (.cons rfl (.cons rfl (.cons rfl .nil)))))))))))), rfl⟩
                                  · refine pw_seq ?_;obtain ⟨r130, h131, h38⟩ := obnd_some h38;refine pw_join (ρ := Bool) (fun e => ⟨[(1, (VS 3 (a4.map e_III))), (2, (.int .i64 a5)), (3, (.pointer (some ⟨0, 0, none⟩))), (7, (.pointer (some ⟨1, 0, none⟩))), (8, (.int .i64 e33.1)), (9, (.int .i64 e33.2.1)), (16, (.int .i64 y89.1)), (18, (.bool y106)), (19, (.int .i64 y120.1)), (21, (.pointer (some ⟨5, 0, none⟩))), (195, (.bool e))], ⟨6, [(5, .rw [(.int .i64 r122.2.1), (.int .i64 r122.2.2.1), (.int .i64 r122.2.2.2)]), (4, .rw [(.int .i64 r76.2.1), (.int .i64 r76.2.2)]), (3, .rw [(.int .i64 y60.1), (.int .i64 y60.2.1), (.int .i64 y60.2.2.1), (.int .i64 y60.2.2.2.1), (.int .i64 y60.2.2.2.2.1), (.int .i64 y60.2.2.2.2.2.1)]), (2, .rw [(.int .i64 y45.1), (.int .i64 y45.2.1), (.int .i64 y45.2.2.1)]), (1, .rw [(.int .i64 e33.2.2.1), (.int .i64 e33.2.2.2.1), (.int .i64 e33.2.2.2.2)]), (0, .rw [(VS 1 (a0.map eI)), (VS 1 (a1.map eI)), (.int .i64 a2), (VS 2 (a3.map e_SI))])], false⟩⟩) r130 ?_ ?_
                                    · refine pw_ops ?_;refine po_ops 3 ?_;(conv=>whnf);obtain ⟨r134, h135, h131⟩ := obnd_some h131;refine po_seg (τ := Bool) 3 (fun e => ⟨[(1, (VS 3 (a4.map e_III))), (2, (.int .i64 a5)), (3, (.pointer (some ⟨0, 0, none⟩))), (7, (.pointer (some ⟨1, 0, none⟩))), (8, (.int .i64 e33.1)), (9, (.int .i64 e33.2.1)), (16, (.int .i64 y89.1)), (18, (.bool y106)), (19, (.int .i64 y120.1)), (21, (.pointer (some ⟨5, 0, none⟩))), (187, (.bool e))], ⟨6, [(5, .rw [(.int .i64 r122.2.1), (.int .i64 r122.2.2.1), (.int .i64 r122.2.2.2)]), (4, .rw [(.int .i64 r76.2.1), (.int .i64 r76.2.2)]), (3, .rw [(.int .i64 y60.1), (.int .i64 y60.2.1), (.int .i64 y60.2.2.1), (.int .i64 y60.2.2.2.1), (.int .i64 y60.2.2.2.2.1), (.int .i64 y60.2.2.2.2.2.1)]), (2, .rw [(.int .i64 y45.1), (.int .i64 y45.2.1), (.int .i64 y45.2.2.1)]), (1, .rw [(.int .i64 e33.2.2.1), (.int .i64 e33.2.2.2.1), (.int .i64 e33.2.2.2.2)]), (0, .rw [(VS 1 (a0.map eI)), (VS 1 (a1.map eI)), (.int .i64 a2), (VS 2 (a3.map e_SI))])], false⟩⟩) r134 ?_ ?_
                                      · refine po_all ?_;(conv=>whnf);refine pbr_oite h135 (fun g136 h135 => ?_) (fun g136 h135 => ?_)
                                        · (conv=>whnf);refine pbr_t g136 ?_;(conv=>whnf);refine pbr_t g136 ?_;(conv=>whnf);cases h135;exact ⟨(.cons rfl (.cons rfl (.cons rfl (.cons rfl (.cons rfl (.cons rfl (.cons rfl (.cons rfl (.cons rfl (.cons rfl (.cons rfl .nil))))))))))), rfl⟩
                                        · (conv=>whnf);refine pbr_f g136 ?_;(conv=>whnf);refine pbr_f g136 ?_;(conv=>whnf);cases h135;exact ⟨(.cons rfl (.cons rfl (.cons rfl (.cons rfl (.cons rfl (.cons rfl (.cons rfl (.cons rfl (.cons rfl (.cons rfl (.cons rfl .nil))))))))))), rfl⟩
                                      · refine po_all ?_;(conv=>whnf);refine pbr_oite h131 (fun g137 h131 => ?_) (fun g137 h131 => ?_)
                                        · (conv=>whnf);(iterate 6 refine pbr_t g137 ?_;(conv=>whnf));cases h131;exact ⟨(.cons rfl (.cons rfl (.cons rfl (.cons rfl (.cons rfl (.cons rfl (.cons rfl (.cons rfl (.cons rfl (.cons rfl (.cons rfl .nil))))))))))), rfl⟩
                                        · (conv=>whnf);(iterate 4 refine pbr_f g137 ?_;(conv=>whnf));obtain ⟨y138, h139, h131⟩ := obnd_some h131;refine (c15 h139).go ?_;(conv=>whnf);refine pbr_f g137 ?_;(conv=>whnf);refine pbr_f g137 ?_;(conv=>whnf);cases h131;exact ⟨(.cons rfl (.cons rfl (.cons rfl (.cons rfl (.cons rfl (.cons rfl (.cons rfl (.cons rfl (.cons rfl (.cons rfl (.cons rfl .nil))))))))))), rfl⟩
                                    · refine pw_cond ?_;(conv=>whnf);refine pbr_oite h38 (fun g140 h38 => ?_) (fun g140 h38 => ?_)
                                      · (conv=>whnf);refine pwa ?_;(conv=>whnf);refine pw_ret ?_;(conv=>whnf);cases h38;obtain rfl := h40 _ rfl;refine ⟨_, rfl, ?_⟩; rintro rfl;(conv=>whnf);obtain rfl := h32 _ rfl; rfl
                                      · (conv=>whnf);refine pw_skip ?_;(conv=>whnf);refine pwa ?_;(conv=>whnf);refine pw_seq ?_;obtain ⟨r142, h143, h38⟩ := obnd_some h38;refine pw_join (ρ := Bool) (fun e => ⟨[(1, (VS 3 (a4.map e_III))), (2, (.int .i64 a5)), (3, (.pointer (some ⟨0, 0, none⟩))), (7, (.pointer (some ⟨1, 0, none⟩))), (8, (.int .i64 (imax e33.1 y120.1))), (9, (.int .i64 e33.2.1)), (19, (.int .i64 y120.1)), (21, (.pointer (some ⟨5, 0, none⟩))), (218, (.bool e))], ⟨6, [(5, .rw [(.int .i64 r122.2.1), (.int .i64 r122.2.2.1), (.int .i64 r122.2.2.2)]), (4, .rw [(.int .i64 r76.2.1), (.int .i64 r76.2.2)]), (3, .rw [(.int .i64 y60.1), (.int .i64 y60.2.1), (.int .i64 y60.2.2.1), (.int .i64 y60.2.2.2.1), (.int .i64 y60.2.2.2.2.1), (.int .i64 y60.2.2.2.2.2.1)]), (2, .rw [(.int .i64 y45.1), (.int .i64 y45.2.1), (.int .i64 y45.2.2.1)]), (1, .rw [(.int .i64 e33.2.2.1), (.int .i64 e33.2.2.2.1), (.int .i64 e33.2.2.2.2)]), (0, .rw [(VS 1 (a0.map eI)), (VS 1 (a1.map eI)), (.int .i64 a2), (VS 2 (a3.map e_SI))])], false⟩⟩) r142 ?_ ?_
                                        · refine pw_ops ?_;refine po_ops 5 ?_;(conv=>whnf);obtain ⟨r146, h147, h143⟩ := obnd_some h143;refine po_seg (τ := Bool) 9 (fun e => ⟨[(1, (VS 3 (a4.map e_III))), (2, (.int .i64 a5)), (3, (.pointer (some ⟨0, 0, none⟩))), (7, (.pointer (some ⟨1, 0, none⟩))), (8, (.int .i64 (imax e33.1 y120.1))), (9, (.int .i64 e33.2.1)), (16, (.int .i64 y89.1)), (19, (.int .i64 y120.1)), (21, (.pointer (some ⟨5, 0, none⟩))), (212, (.bool e))], ⟨6, [(5, .rw [(.int .i64 r122.2.1), (.int .i64 r122.2.2.1), (.int .i64 r122.2.2.2)]), (4, .rw [(.int .i64 r76.2.1), (.int .i64 r76.2.2)]), (3, .rw [(.int .i64 y60.1), (.int .i64 y60.2.1), (.int .i64 y60.2.2.1), (.int .i64 y60.2.2.2.1), (.int .i64 y60.2.2.2.2.1), (.int .i64 y60.2.2.2.2.2.1)]), (2, .rw [(.int .i64 y45.1), (.int .i64 y45.2.1), (.int .i64 y45.2.2.1)]), (1, .rw [(.int .i64 e33.2.2.1), (.int .i64 e33.2.2.2.1), (.int .i64 e33.2.2.2.2)]), (0, .rw [(VS 1 (a0.map eI)), (VS 1 (a1.map eI)), (.int .i64 a2), (VS 2 (a3.map e_SI))])], false⟩⟩) r146 ?_ ?_
                                          · refine po_all ?_;(conv=>whnf);refine pbr_oite h147 (fun g148 h147 => ?_) (fun g148 h147 => ?_)
                                            · (conv=>whnf);(iterate 3 refine pbr_t g148 ?_;(conv=>whnf));cases h147;exact ⟨(.cons rfl (.cons rfl (.cons rfl (.cons rfl (.cons rfl (.cons rfl (.cons rfl (.cons rfl (.cons rfl (.cons rfl .nil)))))))))), rfl⟩
                                            · (conv=>whnf);refine pbr_f g148 ?_;(conv=>whnf);refine pbr_oite h147 (fun g149 h147 => ?_) (fun g149 h147 => ?_)
                                              · (conv=>whnf);(iterate 4 refine pbr_t g149 ?_;(conv=>whnf));refine pbr_f g148 ?_;(conv=>whnf);refine pbr_t g149 ?_;(conv=>whnf);refine pbr_f g148 ?_;(conv=>whnf);cases h147;exact ⟨(.cons rfl (.cons rfl (.cons rfl (.cons rfl (.cons rfl (.cons rfl (.cons rfl (.cons rfl (.cons rfl (.cons rfl .nil)))))))))), rfl⟩
                                              · (conv=>whnf);(iterate 4 refine pbr_f g149 ?_;(conv=>whnf));refine pbr_f g148 ?_;(conv=>whnf);refine pbr_f g149 ?_;(conv=>whnf);refine pbr_f g148 ?_;(conv=>whnf);cases h147;exact ⟨(.cons rfl (.cons rfl (.cons rfl (.cons rfl (.cons rfl (.cons rfl (.cons rfl (.cons rfl (.cons rfl (.cons rfl .nil)))))))))), rfl⟩
                                          · refine po_all ?_;(conv=>whnf);refine pbr_oite h143 (fun g150 h143 => ?_) (fun g150 h143 => ?_)
                                            · (conv=>whnf);(iterate 4 refine pbr_t g150 ?_;(conv=>whnf));cases h143;exact ⟨(.cons rfl (.cons rfl (.cons rfl (.cons rfl (.cons rfl (.cons rfl (.cons rfl (.cons rfl (.cons rfl .nil))))))))), rfl⟩
                                            · (conv=>whnf);(iterate 4 refine pbr_f g150 ?_;(conv=>whnf));cases h143;exact ⟨(.cons rfl (.cons rfl (.cons rfl (.cons rfl (.cons rfl (.cons rfl (.cons rfl (.cons rfl (.cons rfl .nil))))))))), rfl⟩
                                        · refine pw_cond ?_;(conv=>whnf);refine pbr_oite h38 (fun g151 h38 => ?_) (fun g151 h38 => ?_)
                                          · (conv=>whnf);refine pwa ?_;(conv=>whnf);refine pw_ret ?_;(conv=>whnf);cases h38;obtain rfl := h40 _ rfl;refine ⟨_, rfl, ?_⟩; rintro rfl;(conv=>whnf);obtain rfl := h32 _ rfl; rfl
                                          · (conv=>whnf);refine pw_skip ?_;(conv=>whnf);refine pwa ?_;(conv=>whnf);refine pwa ?_;(conv=>whnf);refine pw_block ?_;refine pw_loop (τ := Int) (fun e => ⟨[(1, (VS 3 (a4.map e_III))), (2, (.int .i64 a5)), (3, (.pointer (some ⟨0, 0, none⟩))), (7, (.pointer (some ⟨1, 0, none⟩))), (8, (.int .i64 (imax e33.1 y120.1))), (9, (.int .i64 e33.2.1)), (19, (.int .i64 y120.1)), (23, (.int .i64 e))], ⟨6, [(5, .rw [(.int .i64 r122.2.1), (.int .i64 r122.2.2.1), (.int .i64 r122.2.2.2)]), (4, .rw [(.int .i64 r76.2.1), (.int .i64 r76.2.2)]), (3, .rw [(.int .i64 y60.1), (.int .i64 y60.2.1), (.int .i64 y60.2.2.1), (.int .i64 y60.2.2.2.1), (.int .i64 y60.2.2.2.2.1), (.int .i64 y60.2.2.2.2.2.1)]), (2, .rw [(.int .i64 y45.1), (.int .i64 y45.2.1), (.int .i64 y45.2.2.1)]), (1, .rw [(.int .i64 r122.2.1), (.int .i64 r122.2.2.1), (.int .i64 r122.2.2.2)]), (0, .rw [(VS 1 (a0.map eI)), (VS 1 (a1.map eI)), (.int .i64 a2), (VS 2 (a3.map e_SI))])], false⟩⟩) h38 ?_ (fun _ => nl rfl) ?_
                                            · exact .sub' (nl rfl) (.cons rfl (.cons rfl (.cons rfl (.cons rfl (.cons rfl (.cons rfl (.cons rfl (.cons rfl .nil))))))))
                                            · intro e153 x154 h155;refine pw_seq ?_;refine pw_so ?_;refine po_ops 6 ?_;(conv=>whnf);obtain ⟨r156, h157, h155⟩ := obnd_some h155;refine po_seg (τ := Bool) 3 (fun e => ⟨[(1, (VS 3 (a4.map e_III))), (2, (.int .i64 a5)), (3, (.pointer (some ⟨0, 0, none⟩))), (7, (.pointer (some ⟨1, 0, none⟩))), (8, (.int .i64 (imax e33.1 y120.1))), (9, (.int .i64 e33.2.1)), (19, (.int .i64 y120.1)), (23, (.int .i64 e153)), (228, (.bool e))], ⟨6, [(5, .rw [(.int .i64 r122.2.1), (.int .i64 r122.2.2.1), (.int .i64 r122.2.2.2)]), (4, .rw [(.int .i64 r76.2.1), (.int .i64 r76.2.2)]), (3, .rw [(.int .i64 y60.1), (.int .i64 y60.2.1), (.int .i64 y60.2.2.1), (.int .i64 y60.2.2.2.1), (.int .i64 y60.2.2.2.2.1), (.int .i64 y60.2.2.2.2.2.1)]), (2, .rw [(.int .i64 y45.1), (.int .i64 y45.2.1), (.int .i64 y45.2.2.1)]), (1, .rw [(.int .i64 r122.2.1), (.int .i64 r122.2.2.1), (.int .i64 r122.2.2.2)]), (0, .rw [(VS 1 (a0.map eI)), (VS 1 (a1.map eI)), (.int .i64 a2), (VS 2 (a3.map e_SI))])], false⟩⟩) r156 ?_ ?_
                                              · refine po_all ?_;(conv=>whnf);refine pbr_oite h157 (fun g158 h157 => ?_) (fun g158 h157 => ?_)
                                                · (conv=>whnf);refine pbr_t g158 ?_;(conv=>whnf);refine pbr_t g158 ?_;(conv=>whnf);cases h157;exact ⟨(.cons rfl (.cons rfl (.cons rfl (.cons rfl (.cons rfl (.cons rfl (.cons rfl (.cons rfl (.cons rfl .nil))))))))), rfl⟩
                                                · (conv=>whnf);refine pbr_f g158 ?_;(conv=>whnf);refine pbr_f g158 ?_;(conv=>whnf);cases h157;exact ⟨(.cons rfl (.cons rfl (.cons rfl (.cons rfl (.cons rfl (.cons rfl (.cons rfl (.cons rfl (.cons rfl .nil))))))))), rfl⟩
                                              · refine po_all ?_;(conv=>whnf);refine pbr_oite h155 (fun g159 h155 => ?_) (fun g159 h155 => ?_)
                                                · (conv=>whnf);(iterate 4 refine pbr_t g159 ?_;(conv=>whnf));refine pw_cond ?_;(conv=>whnf);refine pbr_oite h155 (fun g160 h155 => ?_) (fun g160 h155 => ?_)
                                                  · (conv=>whnf);refine pw_skip ?_;(conv=>whnf);refine pw_seq ?_;refine pw_block ?_;obtain ⟨r161, h162, h155⟩ := obnd_some h155;refine pw_join (ρ := Int × Int × Int × Int) (fun e => ⟨[(1, (VS 3 (a4.map e_III))), (2, (.int .i64 a5)), (3, (.pointer (some ⟨0, 0, none⟩))), (7, (.pointer (some ⟨1, 0, none⟩))), (8, (.int .i64 (imax e33.1 y120.1))), (9, (.int .i64 e33.2.1)), (19, (.int .i64 y120.1)), (23, (.int .i64 e153)), (25, (.int .i64 e.1))], ⟨7, [(6, .rw [(.int .i64 e.2.1), (.int .i64 e.2.2.1), (.int .i64 e.2.2.2)]), (5, .rw [(.int .i64 r122.2.1), (.int .i64 r122.2.2.1), (.int .i64 r122.2.2.2)]), (4, .rw [(.int .i64 r76.2.1), (.int .i64 r76.2.2)]), (3, .rw [(.int .i64 y60.1), (.int .i64 y60.2.1), (.int .i64 y60.2.2.1), (.int .i64 y60.2.2.2.1), (.int .i64 y60.2.2.2.2.1), (.int .i64 y60.2.2.2.2.2.1)]), (2, .rw [(.int .i64 y45.1), (.int .i64 y45.2.1), (.int .i64 y45.2.2.1)]), (1, .rw [(.int .i64 r122.2.1), (.int .i64 r122.2.2.1), (.int .i64 r122.2.2.2)]), (0, .rw [(VS 1 (a0.map eI)), (VS 1 (a1.map eI)), (.int .i64 a2), (VS 2 (a3.map e_SI))])], false⟩⟩) r161 ?_ ?_
                                                    · refine pw_draw ?_;(conv=>whnf);refine pbr_ogrd h162 (fun g165 h162 => ?_);(conv=>whnf);refine nth_o (l := a3) h162 (fun x166 _ h162 => ?_);(conv=>whnf);refine ⟨?_, ?_⟩
                                                      · (conv=>whnf);obtain ⟨y167, h168, h162⟩ := obnd_some h162;refine (c37 h168).go ?_;(conv=>whnf);refine ⟨by repeat (first | exact trivial | refine And.intro rfl ?_), ?_⟩;(conv=>whnf);refine ⟨?_, ?_⟩
                                                        · (conv=>whnf);obtain ⟨y169, h170, h162⟩ := obnd_some h162;refine (c169 h170).go ?_;(conv=>whnf);refine ⟨by repeat (first | exact trivial | refine And.intro rfl ?_), ?_⟩;(conv=>whnf);refine ⟨?_, trivial⟩;(conv=>whnf);refine ⟨by repeat (first | exact trivial | refine And.intro rfl ?_), ?_⟩;(conv=>whnf);refine ⟨?_, trivial⟩;(conv=>whnf);refine ⟨by repeat (first | exact trivial | refine And.intro rfl ?_), ?_⟩;(conv=>whnf);cases h162;exact ⟨(.cons rfl (.cons rfl (.cons rfl (.cons rfl (.cons rfl (.cons rfl (.cons rfl (.cons rfl (.cons rfl .nil))))))))), rfl⟩
                                                        · obtain ⟨y169, h170, h162⟩ := obnd_some h162;(conv=>whnf);refine ⟨?_, trivial⟩;(conv=>whnf);refine ⟨by repeat (first | exact trivial | refine And.intro rfl ?_), ?_⟩;(conv=>whnf);refine ⟨?_, trivial⟩;(conv=>whnf);refine (c169 h170).go ?_;(conv=>whnf);refine ⟨by repeat (first | exact trivial | refine And.intro rfl ?_), ?_⟩;(conv=>whnf);refine ⟨?_, trivial⟩;(conv=>whnf);refine ⟨by repeat (first | exact trivial | refine And.intro rfl ?_), ?_⟩;(conv=>whnf);cases h162;exact ⟨(.cons rfl (.cons rfl (.cons rfl (.cons rfl (.cons rfl (.cons rfl (.cons rfl (.cons rfl (.cons rfl .nil))))))))), rfl⟩
                                                      · obtain ⟨y167, h168, h162⟩ := obnd_some h162;obtain ⟨y169, h170, h162⟩ := obnd_some h162;(conv=>whnf);refine ⟨?_, trivial⟩;(conv=>whnf);refine ⟨by repeat (first | exact trivial | refine And.intro rfl ?_), ?_⟩;(conv=>whnf);refine ⟨?_, trivial⟩;(conv=>whnf);refine (c37 h168).go ?_;(conv=>whnf);refine ⟨by repeat (first | exact trivial | refine And.intro rfl ?_), ?_⟩;(conv=>whnf);refine ⟨?_, trivial⟩;(conv=>whnf);refine (c169 h170).go ?_;(conv=>whnf);refine ⟨by repeat (first | exact trivial | refine And.intro rfl ?_), ?_⟩;(conv=>whnf);refine ⟨?_, trivial⟩;(conv=>whnf);refine ⟨by repeat (first | exact trivial | refine And.intro rfl ?_), ?_⟩
                                                        (conv=>whnf);cases h162;exact ⟨(.cons rfl (.cons rfl (.cons rfl (.cons rfl (.cons rfl (.cons rfl (.cons rfl (.cons rfl (.cons rfl .nil))))))))), rfl⟩
                                                    · obtain ⟨r171, h172, h155⟩ := obnd_some h155;refine pw_join (ρ := Bool) (fun e => ⟨[(1, (VS 3 (a4.map e_III))), (2, (.int .i64 a5)), (3, (.pointer (some ⟨0, 0, none⟩))), (7, (.pointer (some ⟨1, 0, none⟩))), (8, (.int .i64 (imax e33.1 y120.1))), (9, (.int .i64 e33.2.1)), (19, (.int .i64 y120.1)), (23, (.int .i64 e153)), (259, (.bool e))], ⟨7, [(6, .rw [(.int .i64 r161.2.1), (.int .i64 r161.2.2.1), (.int .i64 r161.2.2.2)]), (5, .rw [(.int .i64 r122.2.1), (.int .i64 r122.2.2.1), (.int .i64 r122.2.2.2)]), (4, .rw [(.int .i64 r76.2.1), (.int .i64 r76.2.2)]), (3, .rw [(.int .i64 y60.1), (.int .i64 y60.2.1), (.int .i64 y60.2.2.1), (.int .i64 y60.2.2.2.1), (.int .i64 y60.2.2.2.2.1), (.int .i64 y60.2.2.2.2.2.1)]), (2, .rw [(.int .i64 y45.1), (.int .i64 y45.2.1), (.int .i64 y45.2.2.1)]), (1, .rw [(.int .i64 r122.2.1), (.int .i64 r122.2.2.1), (.int .i64 r122.2.2.2)]), (0, .rw [(VS 1 (a0.map eI)), (VS 1 (a1.map eI)), (.int .i64 a2), (VS 2 (a3.map e_SI))])], false⟩⟩) r171 ?_ ?_
                                                      · refine pw_ops ?_;refine po_all ?_;(conv=>whnf);refine pbr_oite h172 (fun g175 h172 => ?_) (fun g175 h172 => ?_)
                                                        · (conv=>whnf);refine pbr_t g175 ?_;(conv=>whnf);refine pbr_t g175 ?_;(conv=>whnf);cases h172;exact ⟨(.cons rfl (.cons rfl (.cons rfl (.cons rfl (.cons rfl (.cons rfl (.cons rfl (.cons rfl (.cons rfl .nil))))))))), rfl⟩
                                                        · (conv=>whnf);refine pbr_f g175 ?_;(conv=>whnf);refine pbr_f g175 ?_;(conv=>whnf);cases h172;exact ⟨(.cons rfl (.cons rfl (.cons rfl (.cons rfl (.cons rfl (.cons rfl (.cons rfl (.cons rfl (.cons rfl .nil))))))))), rfl⟩
                                                      · refine pw_cond ?_;(conv=>whnf);refine pbr_oite h155 (fun g176 h155 => ?_) (fun g176 h155 => ?_)
                                                        · (conv=>whnf);refine pwa ?_;(conv=>whnf);refine pw_ret ?_;(conv=>whnf);cases h155;refine ⟨_, rfl, ?_⟩; rintro rfl;(conv=>whnf);obtain rfl := h40 _ rfl;refine ⟨_, rfl, ?_⟩; rintro rfl;(conv=>whnf);obtain rfl := h32 _ rfl; rfl
                                                        · (conv=>whnf);refine pw_skip ?_;(conv=>whnf);refine pw_ops ?_;refine po_all ?_;(conv=>whnf);cases h155;refine ⟨_, rfl, ?_⟩;refine Recast.trunc (nl rfl) ?_ ?_
                                                          · repeat (first | exact .nil | refine .cons rfl (by first | exact OBnd.rwc (nl rfl) rfl | exact OBnd.tail (nl rfl) | trivial) ?_)
                                                          · repeat (first | exact .nil | refine .cons rfl (by first | exact Bnd.ptr (nl rfl) | exact Bnd.vt (nl rfl) | exact Bnd.cl) ?_)
                                                  · (conv=>whnf);refine pw_exit ?_;(conv=>whnf);cases h155;refine ⟨_, rfl, ?_⟩; rintro rfl;(conv=>whnf);refine ⟨_, rfl, ?_⟩;exact Recast.fz (fun _ => false) (nl rfl) (.cons (.same rfl rfl (OBnd.rwl (nl rfl) rfl (.cons .cl (.cons .cl (.cons .cl .nil))))) (.cons (.same rfl rfl (OBnd.rwl (nl rfl) rfl (.cons .cl (.cons .cl (.cons .cl (.cons .cl .nil)))))) .nil)) (.cons rfl (.same _ .cl) (.cons rfl (.same _ .cl) (.cons rfl (.same _ (.ptr (nl rfl))) (.cons rfl (.same _ (.ptr (nl rfl))) (.cons rfl (.same _ .cl) (.cons rfl (.same _ .cl) .nil))))))
                                                · (conv=>whnf);(iterate 4 refine pbr_f g159 ?_;(conv=>whnf));refine pw_cond ?_;(conv=>whnf);refine pw_exit ?_;(conv=>whnf);cases h155;refine ⟨_, rfl, ?_⟩; rintro rfl;(conv=>whnf);refine ⟨_, rfl, ?_⟩;exact Recast.fz (fun _ => false) (nl rfl) (.cons (.same rfl rfl (OBnd.rwl (nl rfl) rfl (.cons .cl (.cons .cl (.cons .cl .nil))))) (.cons (.same rfl rfl (OBnd.rwl (nl rfl) rfl (.cons .cl (.cons .cl (.cons .cl (.cons .cl .nil)))))) .nil)) (.cons rfl (.same _ .cl) (.cons rfl (.same _ .cl) (.cons rfl (.same _ (.ptr (nl rfl))) (.cons rfl (.same _ (.ptr (nl rfl))) (.cons rfl (.same _ .cl) (.cons rfl (.same _ .cl) .nil))))))
              · intro r181 hr; have h35 := h39 _ hr;refine pw_ops ?_;refine po_all ?_;(conv=>whnf);cases h35;refine ⟨_, rfl, ?_⟩;exact .sub' (nl rfl) (.cons rfl (.cons rfl (.cons rfl (.cons rfl (.cons rfl (.cons rfl .nil))))))
            · (conv=>whnf);refine pw_exit ?_;(conv=>whnf);cases h35;refine ⟨_, rfl, ?_⟩; rintro rfl;(conv=>whnf);exact ⟨_, rfl, ⟨.nil, rfl⟩⟩
        · intro r183 hr; have H := h31 _ hr;refine pwa ?_;(conv=>whnf);refine pw_ret ?_;(conv=>whnf);cases H; rfl

end Go.Proofs.YtacgibkgojnfeaaGreatDoor.AM
