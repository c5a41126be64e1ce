/- Computations of functions, and that the functions do them (printed by tools/lift.py). Conditions: none. -/
import Derived.Test.YtmbekcealcjabaaGreatAmMan
namespace Go.Proofs.YtmbekcealcjabaaGreat.AM
set_option linter.unusedSimpArgs false
set_option linter.unusedVariables false
open Go Go.RowKit
attribute [local irreducible] ICallV ICalls Recast rng

/-- guidevane/guidevanelaw08.Few -/
noncomputable def f307 [LO]  (_ : Int) (_ : Int) (a2 : List (ByteArray × Int × Int × Int)) : Option Bool :=
  oite ((ilt (7 : Int) ((a2.map e_SIII).length : Int))) (
   some false
    ) (
   obndS (
    oloop (τ := Int) (ρ := (Unit) ⊕ Bool) (fun e6 =>
     oite ((ilt e6 ((a2.map e_SIII).length : Int))) (
      ogrd ((ile 0 e6)) (
      obnd (a2[e6.toNat]?) fun (x11 : ByteArray × Int × Int × Int) =>
      oite ((ilt (20 : Int) (x11.1.size : Int))) (
       some (.inr (.inr (false)))
        ) (
       some (.inl (IntKind.i64.wrap (e6 + (1 : Int))))
        )
      )
       ) (
      some (.inr (.inl ()))
       )
      ) (0 : Int)
     ) fun (_ : Unit) =>
   some true
    )
set_option maxHeartbeats 1000000 in
theorem c307 [LO]  {a0 : Int} {a1 : Int} {a2 : List (ByteArray × Int × Int × Int)} {x : Bool} (H : f307 a0 a1 a2 = some x) : ICalls E 307 [(.agg ⟨[(.int .i64 a0), (.int .i64 a1), (VS 4 (a2.map e_SIII))]⟩)] AHeap.none fun v _ => v = (.bool x) := by
  refine icalls_fn (pfnw ?_); unfold f307 at H;(conv=>whnf);refine pwa ?_;(conv=>whnf);refine pw_seq ?_;refine pwa ?_;(conv=>whnf);refine pw_cond ?_;(conv=>whnf);refine pbr_oite H (fun g1 H => ?_) (fun g1 H => ?_)
  · (conv=>whnf);refine pwa ?_;(conv=>whnf);refine pw_ret ?_;(conv=>whnf);cases H; rfl
  · (conv=>whnf);refine pw_skip ?_;(conv=>whnf);obtain ⟨r2, h3, h4, h5⟩ := obndS_some H;refine pw_joinS (ρ := Unit) (fun e => ⟨[], ⟨1, [(0, .rw [(.int .i64 a0), (.int .i64 a1), (VS 4 (a2.map e_SIII))])], false⟩⟩) r2 ?_ ?_
    · refine pwa ?_;(conv=>whnf);refine pw_block ?_;refine pw_loop (τ := Int) (fun e => ⟨[(1, (.pointer (some ⟨0, 0, none⟩))), (3, (.int .i64 e))], ⟨1, [(0, .rw [(.int .i64 a0), (.int .i64 a1), (VS 4 (a2.map e_SIII))])], false⟩⟩) h3 ?_ (fun _ => nl rfl) ?_
      · exact .sub' (nl rfl) (.cons rfl (.cons rfl .nil))
      · intro e6 x7 h8;refine pw_seq ?_;refine pwa ?_;(conv=>whnf);refine pw_cond ?_;(conv=>whnf);refine pbr_oite h8 (fun g9 h8 => ?_) (fun g9 h8 => ?_)
        · (conv=>whnf);refine pw_skip ?_;(conv=>whnf);refine pw_seq ?_;refine pw_block ?_;refine pwa ?_;(conv=>whnf);refine pbr_ogrd h8 (fun g10 h8 => ?_);(conv=>whnf);refine nth_o (l := a2) h8 (fun x11 _ h8 => ?_);(conv=>whnf);refine pw_cond ?_;(conv=>whnf);refine pbr_oite h8 (fun g12 h8 => ?_) (fun g12 h8 => ?_)
          · (conv=>whnf);refine pwa ?_;(conv=>whnf);refine pw_ret ?_;(conv=>whnf);cases h8;refine ⟨_, rfl, ?_⟩; rintro rfl;(conv=>whnf);obtain rfl := h5 _ rfl; rfl
          · (conv=>whnf);refine pw_skip ?_;(conv=>whnf);refine pw_ops ?_;refine po_all ?_;(conv=>whnf);cases h8;refine ⟨_, rfl, ?_⟩;exact .sub' (nl rfl) (.cons rfl (.cons rfl .nil))
        · (conv=>whnf);refine pw_exit ?_;(conv=>whnf);cases h8;refine ⟨_, rfl, ?_⟩; rintro rfl;(conv=>whnf);exact ⟨_, rfl, ⟨.nil, rfl⟩⟩
    · intro r15 hr; have H := h4 _ hr;refine pwa ?_;(conv=>whnf);refine pw_ret ?_;(conv=>whnf);cases H; rfl

/-- guidevane/guidevanelaw08.Short -/
noncomputable def f308  (_ : Int) (_ : Int) (_ : Int) (a3 : List (Int × Int × Int)) : Option Bool :=
  some (ile ((a3.map e_III).length : Int) (12 : Int))
set_option maxHeartbeats 1000000 in
theorem c308  {a0 : Int} {a1 : Int} {a2 : Int} {a3 : List (Int × Int × Int)} {x : Bool} (H : f308 a0 a1 a2 a3 = some x) : ICalls E 308 [(.agg ⟨[(.int .i64 a0), (.int .i64 a1), (.int .i64 a2), (VS 3 (a3.map e_III))]⟩)] AHeap.none fun v _ => v = (.bool x) := by
  refine icalls_fn (pfnw ?_); unfold f308 at H;(conv=>whnf);refine pwa ?_;(conv=>whnf);refine pwa ?_;(conv=>whnf);refine pw_ret ?_;(conv=>whnf);cases H; rfl

/-- guidevane/guidevanebase.Within -/
noncomputable def f15  (a0 : Int) (a1 : Int) (a2 : Int) : Option Bool :=
  obnd (
   oite ((ile a1 a0)) (
    some (ile a0 a2)
     ) (
    some false
     )
    ) fun (r1 : Bool) =>
  some r1
set_option maxHeartbeats 1000000 in
theorem c15  {a0 : Int} {a1 : Int} {a2 : Int} {x : Bool} (H : f15 a0 a1 a2 = some x) : ICalls E 15 [(.int .i64 a0), (.int .i64 a1), (.int .i64 a2)] AHeap.none fun v _ => v = (.bool x) := by
  refine icalls_fn (pfnw ?_); unfold f15 at H;(conv=>whnf);refine pwa ?_;(conv=>whnf);refine pw_so ?_;refine po_ops 4 ?_;(conv=>whnf);obtain ⟨r1, h2, H⟩ := obnd_some H;refine po_seg (τ := Bool) 4 (fun e => ⟨[(14, (.bool e))], ⟨0, [], false⟩⟩) r1 ?_ ?_
  · refine po_all ?_;(conv=>whnf);refine pbr_oite h2 (fun g3 h2 => ?_) (fun g3 h2 => ?_)
    · (conv=>whnf);(iterate 3 refine pbr_t g3 ?_;(conv=>whnf));cases h2;exact ⟨(.cons rfl .nil), rfl⟩
    · (conv=>whnf);(iterate 3 refine pbr_f g3 ?_;(conv=>whnf));cases h2;exact ⟨(.cons rfl .nil), rfl⟩
  · refine po_all ?_;(conv=>whnf);refine pw_ret ?_;(conv=>whnf);cases H; rfl

/-- guidevane/guidevanebase.IsName -/
noncomputable def f91 [LO]  (a0 : ByteArray) : Option Bool :=
  obnd (
   oite ((ilt (a0.size : Int) (1 : Int))) (
    some true
     ) (
    some (ilt (12 : Int) (a0.size : Int))
     )
    ) fun (r1 : Bool) =>
  oite r1 (
   some false
    ) (
   obndS (
    oloop (τ := Int) (ρ := (Unit) ⊕ Bool) (fun e11 =>
     oite ((ilt e11 (a0.size : Int))) (
      ogrd ((ile 0 e11)) (
      obnd (a0.data.toList[e11.toNat]?) fun (x16 : UInt8) =>
      obnd (
       oite ((ile (97 : Int) (x16.toNat : Int))) (
        some (ile (x16.toNat : Int) (122 : Int))
         ) (
        some false
         )
        ) fun (r17 : Bool) =>
      obnd (
       oite r17 (
        some true
         ) (
        oite ((ile (65 : Int) (x16.toNat : Int))) (
         some (ile (x16.toNat : Int) (90 : Int))
          ) (
         some false
          )
         )
        ) fun (r20 : Bool) =>
      obnd (
       oite (!r20) (
        obnd (
         oite ((ieq e11 (0 : Int))) (
          some true
           ) (
          oite ((!(ieq (x16.toNat : Int) (45 : Int)))) (
           oite ((ilt (x16.toNat : Int) (48 : Int))) (
            some true
             ) (
            some (ilt (57 : Int) (x16.toNat : Int))
             )
            ) (
           some false
            )
           )
          ) fun (r29 : Bool) =>
        some r29
         ) (
        some false
         )
        ) fun (r24 : Bool) =>
      oite r24 (
       some (.inr (.inr (false)))
        ) (
       some (.inl (IntKind.i64.wrap (e11 + (1 : Int))))
        )
      )
       ) (
      some (.inr (.inl ()))
       )
      ) (0 : Int)
     ) fun (_ : Unit) =>
   some true
    )
set_option maxHeartbeats 1000000 in
theorem c91 [LO]  {a0 : ByteArray} {x : Bool} (H : f91 a0 = some x) : ICalls E 91 [(.string a0)] AHeap.none fun v _ => v = (.bool x) := by
  refine icalls_fn (pfnw ?_); unfold f91 at H;(conv=>whnf);refine pwa ?_;(conv=>whnf);refine pw_seq ?_;obtain ⟨r1, h2, H⟩ := obnd_some H;refine pw_join (ρ := Bool) (fun e => ⟨[(0, (.string a0)), (13, (.bool e))], ⟨0, [], false⟩⟩) r1 ?_ ?_
  · refine pw_ops ?_;refine po_all ?_;(conv=>whnf);refine pbr_oite h2 (fun g5 h2 => ?_) (fun g5 h2 => ?_)
    · (conv=>whnf);(iterate 3 refine pbr_t g5 ?_;(conv=>whnf));cases h2;exact ⟨(.cons rfl (.cons rfl .nil)), rfl⟩
    · (conv=>whnf);(iterate 3 refine pbr_f g5 ?_;(conv=>whnf));cases h2;exact ⟨(.cons rfl (.cons rfl .nil)), rfl⟩
  · refine pw_cond ?_;(conv=>whnf);refine pbr_oite H (fun g6 H => ?_) (fun g6 H => ?_)
    · (conv=>whnf);refine pwa ?_;(conv=>whnf);refine pw_ret ?_;(conv=>whnf);cases H; rfl
    · (conv=>whnf);refine pw_skip ?_;(conv=>whnf);obtain ⟨r7, h8, h9, h10⟩ := obndS_some H;refine pw_joinS (ρ := Unit) (fun e => ⟨[], ⟨0, [], false⟩⟩) r7 ?_ ?_
      · refine pwa ?_;(conv=>whnf);refine pw_block ?_;refine pw_loop (τ := Int) (fun e => ⟨[(0, (.string a0)), (3, (.int .i64 e))], ⟨0, [], false⟩⟩) h8 ?_ (fun _ => nl rfl) ?_
        · exact .sub' (nl rfl) (.cons rfl (.cons rfl .nil))
        · intro e11 x12 h13;refine pw_seq ?_;refine pwa ?_;(conv=>whnf);refine pw_cond ?_;(conv=>whnf);refine pbr_oite h13 (fun g14 h13 => ?_) (fun g14 h13 => ?_)
          · (conv=>whnf);refine pw_skip ?_;(conv=>whnf);refine pw_seq ?_;refine pw_block ?_;refine pwa ?_;(conv=>whnf);refine pbr_ogrd h13 (fun g15 h13 => ?_);(conv=>whnf);refine get_o h13 (fun x16 _ h13 => ?_);(conv=>whnf);refine pw_so ?_;refine po_ops 3 ?_;(conv=>whnf);obtain ⟨r17, h18, h13⟩ := obnd_some h13;refine po_seg (τ := Bool) 3 (fun e => ⟨[(0, (.string a0)), (3, (.int .i64 e11)), (4, (.int .u8 (x16.toNat : Int))), (28, (.bool e))], ⟨0, [], false⟩⟩) r17 ?_ ?_
            · refine po_all ?_;(conv=>whnf);refine pbr_oite h18 (fun g19 h18 => ?_) (fun g19 h18 => ?_)
              · (conv=>whnf);refine pbr_t g19 ?_;(conv=>whnf);refine pbr_t g19 ?_;(conv=>whnf);cases h18;exact ⟨(.cons rfl (.cons rfl (.cons rfl (.cons rfl .nil)))), rfl⟩
              · (conv=>whnf);refine pbr_f g19 ?_;(conv=>whnf);refine pbr_f g19 ?_;(conv=>whnf);cases h18;exact ⟨(.cons rfl (.cons rfl (.cons rfl (.cons rfl .nil)))), rfl⟩
            · refine po_ops 1 ?_;(conv=>whnf);obtain ⟨r20, h21, h13⟩ := obnd_some h13;refine po_seg (τ := Bool) 7 (fun e => ⟨[(0, (.string a0)), (3, (.int .i64 e11)), (4, (.int .u8 (x16.toNat : Int))), (36, (.bool e))], ⟨0, [], false⟩⟩) r20 ?_ ?_
              · refine po_all ?_;(conv=>whnf);refine pbr_oite h21 (fun g22 h21 => ?_) (fun g22 h21 => ?_)
                · (conv=>whnf);(iterate 4 refine pbr_t g22 ?_;(conv=>whnf));cases h21;exact ⟨(.cons rfl (.cons rfl (.cons rfl (.cons rfl .nil)))), rfl⟩
                · (conv=>whnf);refine pbr_f g22 ?_;(conv=>whnf);refine pbr_f g22 ?_;(conv=>whnf);refine pbr_oite h21 (fun g23 h21 => ?_) (fun g23 h21 => ?_)
                  · (conv=>whnf);refine pbr_t g23 ?_;(conv=>whnf);refine pbr_f g22 ?_;(conv=>whnf);refine pbr_t g23 ?_;(conv=>whnf);refine pbr_f g22 ?_;(conv=>whnf);cases h21;exact ⟨(.cons rfl (.cons rfl (.cons rfl (.cons rfl .nil)))), rfl⟩
                  · (conv=>whnf);refine pbr_f g23 ?_;(conv=>whnf);refine pbr_f g22 ?_;(conv=>whnf);refine pbr_f g23 ?_;(conv=>whnf);refine pbr_f g22 ?_;(conv=>whnf);cases h21;exact ⟨(.cons rfl (.cons rfl (.cons rfl (.cons rfl .nil)))), rfl⟩
              · refine po_all ?_;(conv=>whnf);obtain ⟨r24, h25, h13⟩ := obnd_some h13;refine pw_join (ρ := Bool) (fun e => ⟨[(0, (.string a0)), (3, (.int .i64 e11)), (54, (.bool e))], ⟨0, [], false⟩⟩) r24 ?_ ?_
                · refine pw_ops ?_;refine po_ops 6 ?_;(conv=>whnf);refine pbr_oite h25 (fun g28 h25 => ?_) (fun g28 h25 => ?_)
                  · (conv=>whnf);refine pbr_t g28 ?_;(conv=>whnf);refine pbr_t g28 ?_;(conv=>whnf);obtain ⟨r29, h30, h25⟩ := obnd_some h25;refine po_seg (τ := Bool) 11 (fun e => ⟨[(0, (.string a0)), (3, (.int .i64 e11)), (39, (.bool (!r20))), (40, (.int .i64 e11)), (41, (.bool (ieq e11 (0 : Int)))), (42, (.bool (ieq e11 (0 : Int)))), (53, (.bool e))], ⟨0, [], false⟩⟩) r29 ?_ ?_
                    · refine po_all ?_;(conv=>whnf);refine pbr_oite h30 (fun g31 h30 => ?_) (fun g31 h30 => ?_)
                      · (conv=>whnf);(iterate 3 refine pbr_t g31 ?_;(conv=>whnf));refine pbr_t g28 ?_;(conv=>whnf);refine pbr_t g31 ?_;(conv=>whnf);cases h30;exact ⟨(.cons rfl (.cons rfl (.cons rfl (.cons rfl (.cons rfl (.cons rfl (.cons rfl .nil))))))), rfl⟩
                      · (conv=>whnf);refine pbr_f g31 ?_;(conv=>whnf);refine pbr_f g31 ?_;(conv=>whnf);refine pbr_oite h30 (fun g32 h30 => ?_) (fun g32 h30 => ?_)
                        · (conv=>whnf);refine pbr_t g32 ?_;(conv=>whnf);refine pbr_t g32 ?_;(conv=>whnf);refine pbr_oite h30 (fun g33 h30 => ?_) (fun g33 h30 => ?_)
                          · (conv=>whnf);refine pbr_t g33 ?_;(conv=>whnf);refine pbr_t g32 ?_;(conv=>whnf);refine pbr_t g33 ?_;(conv=>whnf);refine pbr_f g31 ?_;(conv=>whnf);refine pbr_t g32 ?_;(conv=>whnf);refine pbr_t g28 ?_;(conv=>whnf);refine pbr_f g31 ?_;(conv=>whnf);cases h30;exact ⟨(.cons rfl (.cons rfl (.cons rfl (.cons rfl (.cons rfl (.cons rfl (.cons rfl .nil))))))), rfl⟩
                          · (conv=>whnf);refine pbr_f g33 ?_;(conv=>whnf);refine pbr_t g32 ?_;(conv=>whnf);refine pbr_f g33 ?_;(conv=>whnf);refine pbr_f g31 ?_;(conv=>whnf);refine pbr_t g32 ?_;(conv=>whnf);refine pbr_t g28 ?_;(conv=>whnf);refine pbr_f g31 ?_;(conv=>whnf);cases h30;exact ⟨(.cons rfl (.cons rfl (.cons rfl (.cons rfl (.cons rfl (.cons rfl (.cons rfl .nil))))))), rfl⟩
                        · (conv=>whnf);(iterate 3 refine pbr_f g32 ?_;(conv=>whnf));refine pbr_f g31 ?_;(conv=>whnf);refine pbr_f g32 ?_;(conv=>whnf);refine pbr_t g28 ?_;(conv=>whnf);refine pbr_f g31 ?_;(conv=>whnf);cases h30;exact ⟨(.cons rfl (.cons rfl (.cons rfl (.cons rfl (.cons rfl (.cons rfl (.cons rfl .nil))))))), rfl⟩
                    · refine po_all ?_;(conv=>whnf);refine pbr_t g28 ?_;(conv=>whnf);cases h25;exact ⟨(.cons rfl (.cons rfl (.cons rfl .nil))), rfl⟩
                  · (conv=>whnf);refine pbr_f g28 ?_;(conv=>whnf);refine pbr_f g28 ?_;(conv=>whnf);refine po_ops 11 ?_;(conv=>whnf);refine pbr_f g28 ?_;(conv=>whnf);refine po_all ?_;(conv=>whnf);refine pbr_f g28 ?_;(conv=>whnf);cases h25;exact ⟨(.cons rfl (.cons rfl (.cons rfl .nil))), rfl⟩
                · refine pw_cond ?_;(conv=>whnf);refine pbr_oite h13 (fun g34 h13 => ?_) (fun g34 h13 => ?_)
                  · (conv=>whnf);refine pwa ?_;(conv=>whnf);refine pw_ret ?_;(conv=>whnf);cases h13;refine ⟨_, rfl, ?_⟩; rintro rfl;(conv=>whnf);obtain rfl := h10 _ rfl; rfl
                  · (conv=>whnf);refine pw_skip ?_;(conv=>whnf);refine pw_ops ?_;refine po_all ?_;(conv=>whnf);cases h13;refine ⟨_, rfl, ?_⟩;exact .sub' (nl rfl) (.cons rfl (.cons rfl .nil))
          · (conv=>whnf);refine pw_exit ?_;(conv=>whnf);cases h13;refine ⟨_, rfl, ?_⟩; rintro rfl;(conv=>whnf);exact ⟨_, rfl, ⟨.nil, rfl⟩⟩
      · intro r37 hr; have H := h9 _ hr;refine pwa ?_;(conv=>whnf);refine pw_ret ?_;(conv=>whnf);cases H; rfl

/-- guidevane/guidevanebase.HasText -/
noncomputable def f364 [LO]  (a0 : List ByteArray) (a1 : ByteArray) : Option Bool :=
  obndS (
   oloop (τ := Int) (ρ := (Unit) ⊕ Bool) (fun e5 =>
    oite ((ilt e5 ((a0.map eS).length : Int))) (
     ogrd ((ile 0 e5)) (
     obnd (a0[e5.toNat]?) fun (x10 : ByteArray) =>
     oite ((x10.toList == a1.toList)) (
      some (.inr (.inr (true)))
       ) (
      some (.inl (IntKind.i64.wrap (e5 + (1 : Int))))
       )
     )
      ) (
     some (.inr (.inl ()))
      )
     ) (0 : Int)
    ) fun (_ : Unit) =>
  some false
set_option maxHeartbeats 1000000 in
theorem c364 [LO]  {a0 : List ByteArray} {a1 : ByteArray} {x : Bool} (H : f364 a0 a1 = some x) : ICalls E 364 [(VS 1 (a0.map eS)), (.string a1)] AHeap.none fun v _ => v = (.bool x) := by
  refine icalls_fn (pfnw ?_); unfold f364 at H;(conv=>whnf);refine pwa ?_;(conv=>whnf);obtain ⟨r1, h2, h3, h4⟩ := obndS_some H;refine pw_joinS (ρ := Unit) (fun e => ⟨[], ⟨0, [], false⟩⟩) r1 ?_ ?_
  · refine pwa ?_;(conv=>whnf);refine pw_block ?_;refine pw_loop (τ := Int) (fun e => ⟨[(0, (VS 1 (a0.map eS))), (1, (.string a1)), (5, (.int .i64 e))], ⟨0, [], false⟩⟩) h2 ?_ (fun _ => nl rfl) ?_
    · exact .sub' (nl rfl) (.cons rfl (.cons rfl (.cons rfl .nil)))
    · intro e5 x6 h7;refine pw_seq ?_;refine pwa ?_;(conv=>whnf);refine pw_cond ?_;(conv=>whnf);refine pbr_oite h7 (fun g8 h7 => ?_) (fun g8 h7 => ?_)
      · (conv=>whnf);refine pw_skip ?_;(conv=>whnf);refine pw_seq ?_;refine pw_block ?_;refine pwa ?_;(conv=>whnf);refine pbr_ogrd h7 (fun g9 h7 => ?_);(conv=>whnf);refine nth_o (l := a0) h7 (fun x10 _ h7 => ?_);(conv=>whnf);refine pw_cond ?_;(conv=>whnf);refine pbr_oite h7 (fun g11 h7 => ?_) (fun g11 h7 => ?_)
        · (conv=>whnf);refine pwa ?_;(conv=>whnf);refine pw_ret ?_;(conv=>whnf);cases h7;refine ⟨_, rfl, ?_⟩; rintro rfl;(conv=>whnf);obtain rfl := h4 _ rfl; rfl
        · (conv=>whnf);refine pw_skip ?_;(conv=>whnf);refine pw_ops ?_;refine po_all ?_;(conv=>whnf);cases h7;refine ⟨_, rfl, ?_⟩;exact .sub' (nl rfl) (.cons rfl (.cons rfl (.cons rfl .nil)))
      · (conv=>whnf);refine pw_exit ?_;(conv=>whnf);cases h7;refine ⟨_, rfl, ?_⟩; rintro rfl;(conv=>whnf);exact ⟨_, rfl, ⟨.nil, rfl⟩⟩
  · intro r14 hr; have H := h3 _ hr;refine pwa ?_;(conv=>whnf);refine pw_ret ?_;(conv=>whnf);cases H; rfl

/-- guidevane/guidevaneref08.modeErr -/
noncomputable def f354 [LO]  (a0 : ByteArray) (a1 : Int) (a2 : Int) (a3 : Int) (a4 : List ByteArray) : Option Int :=
  obnd (f91 a0) fun (y1 : Bool) =>
  oite (!y1) (
   some (4 : Int)
    ) (
   obnd (f364 a4 a0) fun (y4 : Bool) =>
   oite y4 (
    some (5 : Int)
     ) (
    obnd (
     obnd (f15 a1 (-10000 : Int) (10000 : Int)) fun (y11 : Bool) =>
     obnd (
      oite (!y11) (
       some true
        ) (
       obnd (f15 a2 (-10000 : Int) (10000 : Int)) fun (y16 : Bool) =>
       some (!y16)
        )
       ) fun (r13 : Bool) =>
     oite r13 (
      some true
       ) (
      obnd (f15 a3 (0 : Int) (10000 : Int)) fun (y19 : Bool) =>
      some (!y19)
       )
      ) fun (r7 : Bool) =>
    oite r7 (
     some (2 : Int)
      ) (
     some (0 : Int)
      )
     )
    )
set_option maxHeartbeats 1000000 in
theorem c354 [LO]  {a0 : ByteArray} {a1 : Int} {a2 : Int} {a3 : Int} {a4 : List ByteArray} {x : Int} (H : f354 a0 a1 a2 a3 a4 = some x) : ICalls E 354 [(.agg ⟨[(.string a0), (.int .i64 a1), (.int .i64 a2), (.int .i64 a3)]⟩), (VS 1 (a4.map eS))] AHeap.none fun v _ => v = (.int .i64 x) := by
  refine icalls_fn (pfnw ?_); unfold f354 at H;(conv=>whnf);refine pwa ?_;(conv=>whnf);refine pw_seq ?_;refine pwa ?_;(conv=>whnf);obtain ⟨y1, h2, H⟩ := obnd_some H;refine (c91 h2).go ?_;(conv=>whnf);refine pw_cond ?_;(conv=>whnf);refine pbr_oite H (fun g3 H => ?_) (fun g3 H => ?_)
  · (conv=>whnf);refine pwa ?_;(conv=>whnf);refine pw_ret ?_;(conv=>whnf);cases H; rfl
  · (conv=>whnf);refine pw_skip ?_;(conv=>whnf);refine pw_seq ?_;refine pwa ?_;(conv=>whnf);obtain ⟨y4, h5, H⟩ := obnd_some H;refine (c364 h5).go ?_;(conv=>whnf);refine pw_cond ?_;(conv=>whnf);refine pbr_oite H (fun g6 H => ?_) (fun g6 H => ?_)
    · (conv=>whnf);refine pwa ?_;(conv=>whnf);refine pw_ret ?_;(conv=>whnf);cases H; rfl
    · (conv=>whnf);refine pw_skip ?_;(conv=>whnf);refine pw_seq ?_;obtain ⟨r7, h8, H⟩ := obnd_some H;refine pw_join (ρ := Bool) (fun e => ⟨[(28, (.bool e))], ⟨1, [(0, .rw [(.string a0), (.int .i64 a1), (.int .i64 a2), (.int .i64 a3)])], false⟩⟩) r7 ?_ ?_
      · refine pw_ops ?_;refine po_ops 5 ?_;(conv=>whnf);obtain ⟨y11, h12, h8⟩ := obnd_some h8;refine (c15 h12).go ?_;(conv=>whnf);obtain ⟨r13, h14, h8⟩ := obnd_some h8;refine po_seg (τ := Bool) 5 (fun e => ⟨[(2, (.pointer (some ⟨0, 0, none⟩))), (22, (.bool e))], ⟨1, [(0, .rw [(.string a0), (.int .i64 a1), (.int .i64 a2), (.int .i64 a3)])], false⟩⟩) r13 ?_ ?_
        · refine po_all ?_;(conv=>whnf);refine pbr_oite h14 (fun g15 h14 => ?_) (fun g15 h14 => ?_)
          · (conv=>whnf);(iterate 4 refine pbr_t g15 ?_;(conv=>whnf));cases h14;exact ⟨(.cons rfl (.cons rfl .nil)), rfl⟩
          · (conv=>whnf);refine pbr_f g15 ?_;(conv=>whnf);refine pbr_f g15 ?_;(conv=>whnf);obtain ⟨y16, h17, h14⟩ := obnd_some h14;refine (c15 h17).go ?_;(conv=>whnf);refine pbr_f g15 ?_;(conv=>whnf);refine pbr_f g15 ?_;(conv=>whnf);cases h14;exact ⟨(.cons rfl (.cons rfl .nil)), rfl⟩
        · refine po_all ?_;(conv=>whnf);refine pbr_oite h8 (fun g18 h8 => ?_) (fun g18 h8 => ?_)
          · (conv=>whnf);(iterate 4 refine pbr_t g18 ?_;(conv=>whnf));cases h8;exact ⟨(.cons rfl .nil), rfl⟩
          · (conv=>whnf);refine pbr_f g18 ?_;(conv=>whnf);refine pbr_f g18 ?_;(conv=>whnf);obtain ⟨y19, h20, h8⟩ := obnd_some h8;refine (c15 h20).go ?_;(conv=>whnf);refine pbr_f g18 ?_;(conv=>whnf);refine pbr_f g18 ?_;(conv=>whnf);cases h8;exact ⟨(.cons rfl .nil), rfl⟩
      · refine pw_cond ?_;(conv=>whnf);refine pbr_oite H (fun g21 H => ?_) (fun g21 H => ?_)
        · (conv=>whnf);refine pwa ?_;(conv=>whnf);refine pw_ret ?_;(conv=>whnf);cases H; rfl
        · (conv=>whnf);refine pw_skip ?_;(conv=>whnf);refine pwa ?_;(conv=>whnf);refine pw_ret ?_;(conv=>whnf);cases H; rfl

/-- guidevane/guidevaneref08.CheckPlant -/
noncomputable def f325 [LO]  (a0 : Int) (a1 : Int) (a2 : List (ByteArray × Int × Int × Int)) : Option (Int × Int) :=
  obnd (
   obnd (f15 a0 (0 : Int) (1000000 : Int)) fun (y5 : Bool) =>
   oite (!y5) (
    some true
     ) (
    obnd (f15 a1 (0 : Int) (1000000 : Int)) fun (y8 : Bool) =>
    some (!y8)
     )
    ) fun (r1 : Bool) =>
  oite r1 (
   some ((0 : Int), (2 : Int))
    ) (
   oite ((ilt a1 a0)) (
    some ((0 : Int), (9 : Int))
     ) (
    oite ((ile (40 : Int) (IntKind.i64.wrap (a1 - a0)))) (
     some ((0 : Int), (8 : Int))
      ) (
     oite ((ieq ((a2.map e_SIII).length : Int) (0 : Int))) (
      some ((0 : Int), (10 : Int))
       ) (
      oite ((ilt (5 : Int) ((a2.map e_SIII).length : Int))) (
       some ((0 : Int), (8 : Int))
        ) (
       obndS (
        oloop (τ := (List ByteArray) × Int) (ρ := (Unit) ⊕ (Int × Int)) (fun e19 =>
         oite ((ilt e19.2 ((a2.map e_SIII).length : Int))) (
          ogrd ((ile 0 e19.2)) (
          obnd (a2[e19.2.toNat]?) fun (x24 : ByteArray × Int × Int × Int) =>
          obnd (f354 x24.1 x24.2.1 x24.2.2.1 x24.2.2.2 e19.1) fun (y25 : Int) =>
          oite ((!(ieq y25 (0 : Int)))) (
           some (.inr (.inr ((e19.2, y25))))
            ) (
           obnd (a2[e19.2.toNat]?) fun (x29 : ByteArray × Int × Int × Int) =>
           ogrd (fits 16 (e19.1.length + ([x29.1] : List ByteArray).length)) (
           some (.inl (((e19.1 ++ ([x29.1] : List ByteArray)), (IntKind.i64.wrap (e19.2 + (1 : Int))))))
           )
            )
          )
           ) (
          some (.inr (.inl ()))
           )
          ) ((([] : List ByteArray), (0 : Int)))
         ) fun (_ : Unit) =>
       some ((0 : Int), (0 : Int))
        )
       )
      )
     )
    )
set_option maxHeartbeats 1000000 in
theorem c325 [LO]  {a0 : Int} {a1 : Int} {a2 : List (ByteArray × Int × Int × Int)} {x : Int × Int} (H : f325 a0 a1 a2 = some x) : ICalls E 325 [(.agg ⟨[(.int .i64 a0), (.int .i64 a1), (VS 4 (a2.map e_SIII))]⟩)] AHeap.none fun v _ => v = (.tuple ⟨[(.int .i64 x.1), (.int .i64 x.2)]⟩) := by
  refine icalls_fn (pfnw ?_); unfold f325 at H;(conv=>whnf);refine pwa ?_;(conv=>whnf);refine pw_seq ?_;obtain ⟨r1, h2, H⟩ := obnd_some H;refine pw_join (ρ := Bool) (fun e => ⟨[(1, (.pointer (some ⟨0, 0, none⟩))), (16, (.bool e))], ⟨1, [(0, .rw [(.int .i64 a0), (.int .i64 a1), (VS 4 (a2.map e_SIII))])], false⟩⟩) r1 ?_ ?_
  · refine pw_ops ?_;refine po_all ?_;(conv=>whnf);obtain ⟨y5, h6, h2⟩ := obnd_some h2;refine (c15 h6).go ?_;(conv=>whnf);refine pbr_oite h2 (fun g7 h2 => ?_) (fun g7 h2 => ?_)
    · (conv=>whnf);(iterate 4 refine pbr_t g7 ?_;(conv=>whnf));cases h2;exact ⟨(.cons rfl (.cons rfl .nil)), rfl⟩
    · (conv=>whnf);refine pbr_f g7 ?_;(conv=>whnf);refine pbr_f g7 ?_;(conv=>whnf);obtain ⟨y8, h9, h2⟩ := obnd_some h2;refine (c15 h9).go ?_;(conv=>whnf);refine pbr_f g7 ?_;(conv=>whnf);refine pbr_f g7 ?_;(conv=>whnf);cases h2;exact ⟨(.cons rfl (.cons rfl .nil)), rfl⟩
  · refine pw_cond ?_;(conv=>whnf);refine pbr_oite H (fun g10 H => ?_) (fun g10 H => ?_)
    · (conv=>whnf);refine pwa ?_;(conv=>whnf);refine pw_ret ?_;(conv=>whnf);cases H; rfl
    · (conv=>whnf);refine pw_skip ?_;(conv=>whnf);refine pw_seq ?_;refine pwa ?_;(conv=>whnf);refine pw_cond ?_;(conv=>whnf);refine pbr_oite H (fun g11 H => ?_) (fun g11 H => ?_)
      · (conv=>whnf);refine pwa ?_;(conv=>whnf);refine pw_ret ?_;(conv=>whnf);cases H; rfl
      · (conv=>whnf);refine pw_skip ?_;(conv=>whnf);refine pw_seq ?_;refine pwa ?_;(conv=>whnf);refine pw_cond ?_;(conv=>whnf);refine pbr_oite H (fun g12 H => ?_) (fun g12 H => ?_)
        · (conv=>whnf);refine pwa ?_;(conv=>whnf);refine pw_ret ?_;(conv=>whnf);cases H; rfl
        · (conv=>whnf);refine pw_skip ?_;(conv=>whnf);refine pw_seq ?_;refine pwa ?_;(conv=>whnf);refine pw_cond ?_;(conv=>whnf);refine pbr_oite H (fun g13 H => ?_) (fun g13 H => ?_)
          · (conv=>whnf);refine pwa ?_;(conv=>whnf);refine pw_ret ?_;(conv=>whnf);cases H; rfl
          · (conv=>whnf);refine pw_skip ?_;(conv=>whnf);refine pw_seq ?_;refine pwa ?_;(conv=>whnf);refine pw_cond ?_;(conv=>whnf);refine pbr_oite H (fun g14 H => ?_) (fun g14 H => ?_)
            · (conv=>whnf);refine pwa ?_;(conv=>whnf);refine pw_ret ?_;(conv=>whnf);cases H; rfl
            · (conv=>whnf);refine pw_skip ?_;(conv=>whnf);refine pwa ?_;(conv=>whnf);obtain ⟨r15, h16, h17, h18⟩ := obndS_some H;refine pw_joinSR (ρ := Unit) (fun e => ⟨[], ⟨1, [(0, .rw [(.int .i64 a0), (.int .i64 a1), (VS 4 (a2.map e_SIII))])], false⟩⟩) r15 ?_ ?_
              · refine pwa ?_;(conv=>whnf);refine pw_block ?_;refine pw_loop (τ := (List ByteArray) × Int) (fun e => ⟨[(1, (.pointer (some ⟨0, 0, none⟩))), (4, (VT 1 (e.1.map eS) 1)), (5, (.int .i64 e.2))], ⟨2, [(1, .tail (e.1.map eS).length 1), (0, .rw [(.int .i64 a0), (.int .i64 a1), (VS 4 (a2.map e_SIII))])], false⟩⟩) h16 ?_ (fun _ => nl rfl) ?_
                · exact (Recast.nilTs 1 (nl rfl) (.same rfl (.turn rfl (.same rfl .nil))))
                · intro e19 x20 h21;refine pw_seq ?_;refine pwa ?_;(conv=>whnf);refine pw_cond ?_;(conv=>whnf);refine pbr_oite h21 (fun g22 h21 => ?_) (fun g22 h21 => ?_)
                  · (conv=>whnf);refine pw_skip ?_;(conv=>whnf);refine pw_seq ?_;refine pw_block ?_;refine pw_seq ?_;refine pwa ?_;(conv=>whnf);refine pbr_ogrd h21 (fun g23 h21 => ?_);(conv=>whnf);refine nth_o (l := a2) h21 (fun x24 _ h21 => ?_);(conv=>whnf);obtain ⟨y25, h26, h21⟩ := obnd_some h21;refine ICalls.goW (c354 h26) (.cons (.refl _) (.cons (.vt _ _ _) .nil)) ?_;(conv=>whnf);refine pwa ?_;(conv=>whnf);refine pw_cond ?_;(conv=>whnf);refine pbr_oite h21 (fun g27 h21 => ?_) (fun g27 h21 => ?_)
                    · (conv=>whnf);refine pwa ?_;(conv=>whnf);refine pw_ret ?_;(conv=>whnf);cases h21;refine ⟨_, rfl, ?_⟩; rintro rfl;(conv=>whnf);obtain rfl := h18 _ rfl; rfl
                    · (conv=>whnf);refine pw_skip ?_;(conv=>whnf);refine pw_ops ?_;refine po_all ?_;(conv=>whnf);refine pbr_t g23 ?_;(conv=>whnf);refine nth_o (l := a2) h21 (fun x29 _ h21 => ?_);(conv=>whnf);refine app_o (l := e19.1) (m := ([x29.1] : List ByteArray)) (f := eS) h21 (by rfl) (by rfl) (by rfl) (fun h21 => ?_);(conv=>whnf);refine pw_ops ?_;refine po_all ?_;(conv=>whnf);cases h21;refine ⟨_, rfl, ?_⟩;refine Recast.trunc (nl rfl) ?_ ?_
                      · repeat (first | exact .nil | refine .cons rfl (by first | exact OBnd.rwc (nl rfl) rfl | exact OBnd.tail (nl rfl) | trivial) ?_)
                      · repeat (first | exact .nil | refine .cons rfl (by first | exact Bnd.ptr (nl rfl) | exact Bnd.vt (nl rfl) | exact Bnd.cl) ?_)
                  · (conv=>whnf);refine pw_exit ?_;(conv=>whnf);cases h21;refine ⟨_, rfl, ?_⟩; rintro rfl;(conv=>whnf);refine ⟨_, rfl, ?_⟩;exact Recast.fz (fun _ => false) (nl rfl) (.cons (.same rfl rfl (OBnd.rwl (nl rfl) rfl (.cons .cl (.cons .cl (.cons .cl .nil))))) .nil) .nil
              · intro r31 hr; have H := h17 _ hr;refine pwa ?_;(conv=>whnf);refine pw_ret ?_;(conv=>whnf);cases H; rfl

/-- guidevane/guidevaneref08.PlantErr -/
noncomputable def f347 [LO]  (a0 : Int) (a1 : Int) (a2 : List (ByteArray × Int × Int × Int)) : Option Int :=
  obnd (f325 a0 a1 a2) fun (y1 : Int × Int) =>
  some y1.2
set_option maxHeartbeats 1000000 in
theorem c347 [LO]  {a0 : Int} {a1 : Int} {a2 : List (ByteArray × Int × Int × Int)} {x : Int} (H : f347 a0 a1 a2 = some x) : ICalls E 347 [(.agg ⟨[(.int .i64 a0), (.int .i64 a1), (VS 4 (a2.map e_SIII))]⟩)] AHeap.none fun v _ => v = (.int .i64 x) := by
  refine icalls_fn (pfnw ?_); unfold f347 at H;(conv=>whnf);refine pwa ?_;(conv=>whnf);refine pwa ?_;(conv=>whnf);obtain ⟨y1, h2, H⟩ := obnd_some H;refine (c325 h2).go ?_;(conv=>whnf);refine pwa ?_;(conv=>whnf);refine pw_ret ?_;(conv=>whnf);cases H; rfl

/-- guidevane/guidevaneref08.isPrice -/
noncomputable def f355  (a0 : Int) : Option Bool :=
  obnd (f15 a0 (-10000 : Int) (10000 : Int)) fun (y1 : Bool) =>
  some y1
set_option maxHeartbeats 1000000 in
theorem c355  {a0 : Int} {x : Bool} (H : f355 a0 = some x) : ICalls E 355 [(.int .i64 a0)] AHeap.none fun v _ => v = (.bool x) := by
  refine icalls_fn (pfnw ?_); unfold f355 at H;(conv=>whnf);refine pwa ?_;(conv=>whnf);refine pwa ?_;(conv=>whnf);obtain ⟨y1, h2, H⟩ := obnd_some H;refine (c15 h2).go ?_;(conv=>whnf);refine pw_ret ?_;(conv=>whnf);cases H; rfl

/-- guidevane/guidevaneref08.CheckTask -/
noncomputable def f326 [LO]  (a0 : Int) (a1 : Int) (a2 : List (ByteArray × Int × Int × Int)) (a3 : Int) (a4 : Int) (a5 : Int) (a6 : List (Int × Int × Int)) : Option (Int × Int) :=
  obnd (f347 a0 a1 a2) fun (y1 : Int) =>
  oite ((!(ieq y1 (0 : Int)))) (
   some ((0 : Int), y1)
    ) (
   obnd (f15 a3 a0 a1) fun (y4 : Bool) =>
   oite (!y4) (
    some ((0 : Int), (2 : Int))
     ) (
    obnd (f15 a4 (0 : Int) ((IntKind.i64.wrap (((a2.map e_SIII).length : Int) - (1 : Int))))) fun (y7 : Bool) =>
    oite (!y7) (
     some ((0 : Int), (6 : Int))
      ) (
     obnd (f355 a5) fun (y10 : Bool) =>
     oite (!y10) (
      some ((0 : Int), (2 : Int))
       ) (
      oite ((ieq ((a6.map e_III).length : Int) (0 : Int))) (
       some ((0 : Int), (10 : Int))
        ) (
       oite ((ilt (10 : Int) ((a6.map e_III).length : Int))) (
        some ((0 : Int), (8 : Int))
         ) (
        obndS (
         oloop (τ := Int) (ρ := (Unit) ⊕ (Int × Int)) (fun e19 =>
          oite ((ilt e19 ((a6.map e_III).length : Int))) (
           ogrd ((ile 0 e19)) (
           obnd (a6[e19.toNat]?) fun (x24 : Int × Int × Int) =>
           obnd (
            obnd (f355 x24.1) fun (y29 : Bool) =>
            obnd (
             oite (!y29) (
              some true
               ) (
              obnd (f355 x24.2.1) fun (y34 : Bool) =>
              some (!y34)
               )
              ) fun (r31 : Bool) =>
            oite r31 (
             some true
              ) (
             obnd (f355 x24.2.2) fun (y37 : Bool) =>
             some (!y37)
              )
             ) fun (r25 : Bool) =>
           oite r25 (
            some (.inr (.inr ((e19, (2 : Int)))))
             ) (
            oite ((ilt x24.1 x24.2.1)) (
             some (.inr (.inr ((e19, (9 : Int)))))
              ) (
             some (.inl (IntKind.i64.wrap (e19 + (1 : Int))))
              )
             )
           )
            ) (
           some (.inr (.inl ()))
            )
           ) (0 : Int)
          ) fun (_ : Unit) =>
        some ((0 : Int), (0 : Int))
         )
        )
       )
      )
     )
    )
set_option maxHeartbeats 1000000 in
theorem c326 [LO]  {a0 : Int} {a1 : Int} {a2 : List (ByteArray × Int × Int × Int)} {a3 : Int} {a4 : Int} {a5 : Int} {a6 : List (Int × Int × Int)} {x : Int × Int} (H : f326 a0 a1 a2 a3 a4 a5 a6 = some x) : ICalls E 326 [(.agg ⟨[(.int .i64 a0), (.int .i64 a1), (VS 4 (a2.map e_SIII))]⟩), (.agg ⟨[(.int .i64 a3), (.int .i64 a4), (.int .i64 a5), (VS 3 (a6.map e_III))]⟩)] AHeap.none fun v _ => v = (.tuple ⟨[(.int .i64 x.1), (.int .i64 x.2)]⟩) := by
  refine icalls_fn (pfnw ?_); unfold f326 at H;(conv=>whnf);refine pwa ?_;(conv=>whnf);refine pw_seq ?_;refine pwa ?_;(conv=>whnf);obtain ⟨y1, h2, H⟩ := obnd_some H;refine (c347 h2).go ?_;(conv=>whnf);refine pwa ?_;(conv=>whnf);refine pw_cond ?_;(conv=>whnf);refine pbr_oite H (fun g3 H => ?_) (fun g3 H => ?_)
  · (conv=>whnf);refine pwa ?_;(conv=>whnf);refine pw_ret ?_;(conv=>whnf);cases H; rfl
  · (conv=>whnf);refine pw_skip ?_;(conv=>whnf);refine pw_seq ?_;refine pwa ?_;(conv=>whnf);obtain ⟨y4, h5, H⟩ := obnd_some H;refine (c15 h5).go ?_;(conv=>whnf);refine pw_cond ?_;(conv=>whnf);refine pbr_oite H (fun g6 H => ?_) (fun g6 H => ?_)
    · (conv=>whnf);refine pwa ?_;(conv=>whnf);refine pw_ret ?_;(conv=>whnf);cases H; rfl
    · (conv=>whnf);refine pw_skip ?_;(conv=>whnf);refine pw_seq ?_;refine pwa ?_;(conv=>whnf);obtain ⟨y7, h8, H⟩ := obnd_some H;refine (c15 h8).go ?_;(conv=>whnf);refine pw_cond ?_;(conv=>whnf);refine pbr_oite H (fun g9 H => ?_) (fun g9 H => ?_)
      · (conv=>whnf);refine pwa ?_;(conv=>whnf);refine pw_ret ?_;(conv=>whnf);cases H; rfl
      · (conv=>whnf);refine pw_skip ?_;(conv=>whnf);refine pw_seq ?_;refine pwa ?_;(conv=>whnf);obtain ⟨y10, h11, H⟩ := obnd_some H;refine (c355 h11).go ?_;(conv=>whnf);refine pw_cond ?_;(conv=>whnf);refine pbr_oite H (fun g12 H => ?_) (fun g12 H => ?_)
        · (conv=>whnf);refine pwa ?_;(conv=>whnf);refine pw_ret ?_;(conv=>whnf);cases H; rfl
        · (conv=>whnf);refine pw_skip ?_;(conv=>whnf);refine pw_seq ?_;refine pwa ?_;(conv=>whnf);refine pw_cond ?_;(conv=>whnf);refine pbr_oite H (fun g13 H => ?_) (fun g13 H => ?_)
          · (conv=>whnf);refine pwa ?_;(conv=>whnf);refine pw_ret ?_;(conv=>whnf);cases H; rfl
          · (conv=>whnf);refine pw_skip ?_;(conv=>whnf);refine pw_seq ?_;refine pwa ?_;(conv=>whnf);refine pw_cond ?_;(conv=>whnf);refine pbr_oite H (fun g14 H => ?_) (fun g14 H => ?_)
            · (conv=>whnf);refine pwa ?_;(conv=>whnf);refine pw_ret ?_;(conv=>whnf);cases H; rfl
            · (conv=>whnf);refine pw_skip ?_;(conv=>whnf);obtain ⟨r15, h16, h17, h18⟩ := obndS_some H;refine pw_joinS (ρ := Unit) (fun e => ⟨[], ⟨2, [(1, .rw [(.int .i64 a3), (.int .i64 a4), (.int .i64 a5), (VS 3 (a6.map e_III))]), (0, .rw [(.int .i64 a0), (.int .i64 a1), (VS 4 (a2.map e_SIII))])], false⟩⟩) r15 ?_ ?_
              · refine pwa ?_;(conv=>whnf);refine pw_block ?_;refine pw_loop (τ := Int) (fun e => ⟨[(3, (.pointer (some ⟨1, 0, none⟩))), (7, (.int .i64 e))], ⟨2, [(1, .rw [(.int .i64 a3), (.int .i64 a4), (.int .i64 a5), (VS 3 (a6.map e_III))]), (0, .rw [(.int .i64 a0), (.int .i64 a1), (VS 4 (a2.map e_SIII))])], false⟩⟩) h16 ?_ (fun _ => nl rfl) ?_
                · exact .sub' (nl rfl) (.cons rfl (.cons rfl .nil))
                · intro e19 x20 h21;refine pw_seq ?_;refine pwa ?_;(conv=>whnf);refine pw_cond ?_;(conv=>whnf);refine pbr_oite h21 (fun g22 h21 => ?_) (fun g22 h21 => ?_)
                  · (conv=>whnf);refine pw_skip ?_;(conv=>whnf);refine pw_seq ?_;refine pw_block ?_;refine pwa ?_;(conv=>whnf);refine pbr_ogrd h21 (fun g23 h21 => ?_);(conv=>whnf);refine nth_o (l := a6) h21 (fun x24 _ h21 => ?_);(conv=>whnf);refine pw_seq ?_;obtain ⟨r25, h26, h21⟩ := obnd_some h21;refine pw_join (ρ := Bool) (fun e => ⟨[(3, (.pointer (some ⟨1, 0, none⟩))), (7, (.int .i64 e19)), (8, (.pointer (some ⟨2, 0, none⟩))), (69, (.bool e))], ⟨3, [(2, .rw [(.int .i64 x24.1), (.int .i64 x24.2.1), (.int .i64 x24.2.2)]), (1, .rw [(.int .i64 a3), (.int .i64 a4), (.int .i64 a5), (VS 3 (a6.map e_III))]), (0, .rw [(.int .i64 a0), (.int .i64 a1), (VS 4 (a2.map e_SIII))])], false⟩⟩) r25 ?_ ?_
                    · refine pw_ops ?_;refine po_ops 5 ?_;(conv=>whnf);obtain ⟨y29, h30, h26⟩ := obnd_some h26;refine (c355 h30).go ?_;(conv=>whnf);obtain ⟨r31, h32, h26⟩ := obnd_some h26;refine po_seg (τ := Bool) 5 (fun e => ⟨[(3, (.pointer (some ⟨1, 0, none⟩))), (7, (.int .i64 e19)), (8, (.pointer (some ⟨2, 0, none⟩))), (63, (.bool e))], ⟨3, [(2, .rw [(.int .i64 x24.1), (.int .i64 x24.2.1), (.int .i64 x24.2.2)]), (1, .rw [(.int .i64 a3), (.int .i64 a4), (.int .i64 a5), (VS 3 (a6.map e_III))]), (0, .rw [(.int .i64 a0), (.int .i64 a1), (VS 4 (a2.map e_SIII))])], false⟩⟩) r31 ?_ ?_
                      · refine po_all ?_;(conv=>whnf);refine pbr_oite h32 (fun g33 h32 => ?_) (fun g33 h32 => ?_)
                        · (conv=>whnf);(iterate 4 refine pbr_t g33 ?_;(conv=>whnf));cases h32;exact ⟨(.cons rfl (.cons rfl (.cons rfl (.cons rfl .nil)))), rfl⟩
                        · (conv=>whnf);refine pbr_f g33 ?_;(conv=>whnf);refine pbr_f g33 ?_;(conv=>whnf);obtain ⟨y34, h35, h32⟩ := obnd_some h32;refine (c355 h35).go ?_;(conv=>whnf);refine pbr_f g33 ?_;(conv=>whnf);refine pbr_f g33 ?_;(conv=>whnf);cases h32;exact ⟨(.cons rfl (.cons rfl (.cons rfl (.cons rfl .nil)))), rfl⟩
                      · refine po_all ?_;(conv=>whnf);refine pbr_oite h26 (fun g36 h26 => ?_) (fun g36 h26 => ?_)
                        · (conv=>whnf);(iterate 4 refine pbr_t g36 ?_;(conv=>whnf));cases h26;exact ⟨(.cons rfl (.cons rfl (.cons rfl (.cons rfl .nil)))), rfl⟩
                        · (conv=>whnf);refine pbr_f g36 ?_;(conv=>whnf);refine pbr_f g36 ?_;(conv=>whnf);obtain ⟨y37, h38, h26⟩ := obnd_some h26;refine (c355 h38).go ?_;(conv=>whnf);refine pbr_f g36 ?_;(conv=>whnf);refine pbr_f g36 ?_;(conv=>whnf);cases h26;exact ⟨(.cons rfl (.cons rfl (.cons rfl (.cons rfl .nil)))), rfl⟩
                    · refine pw_cond ?_;(conv=>whnf);refine pbr_oite h21 (fun g39 h21 => ?_) (fun g39 h21 => ?_)
                      · (conv=>whnf);refine pwa ?_;(conv=>whnf);refine pw_ret ?_;(conv=>whnf);cases h21;refine ⟨_, rfl, ?_⟩; rintro rfl;(conv=>whnf);obtain rfl := h18 _ rfl; rfl
                      · (conv=>whnf);refine pw_skip ?_;(conv=>whnf);refine pwa ?_;(conv=>whnf);refine pw_cond ?_;(conv=>whnf);refine pbr_oite h21 (fun g41 h21 => ?_) (fun g41 h21 => ?_)
                        · (conv=>whnf);refine pwa ?_;(conv=>whnf);refine pw_ret ?_;(conv=>whnf);cases h21;refine ⟨_, rfl, ?_⟩; rintro rfl;(conv=>whnf);obtain rfl := h18 _ rfl; rfl
                        · (conv=>whnf);refine pw_skip ?_;(conv=>whnf);refine pw_ops ?_;refine po_all ?_;(conv=>whnf);cases h21;refine ⟨_, rfl, ?_⟩;refine Recast.trunc (nl rfl) ?_ ?_
                          · repeat (first | exact .nil | refine .cons rfl (by first | exact OBnd.rwc (nl rfl) rfl | exact OBnd.tail (nl rfl) | trivial) ?_)
                          · repeat (first | exact .nil | refine .cons rfl (by first | exact Bnd.ptr (nl rfl) | exact Bnd.vt (nl rfl) | exact Bnd.cl) ?_)
                  · (conv=>whnf);refine pw_exit ?_;(conv=>whnf);cases h21;refine ⟨_, rfl, ?_⟩; rintro rfl;(conv=>whnf);exact ⟨_, rfl, ⟨.nil, rfl⟩⟩
              · intro r44 hr; have H := h17 _ hr;refine pwa ?_;(conv=>whnf);refine pw_ret ?_;(conv=>whnf);cases H; rfl

/-- guidevane/guidevaneref08.TaskErr -/
noncomputable def f311 [LO]  (a0 : Int) (a1 : Int) (a2 : List (ByteArray × Int × Int × Int)) (a3 : Int) (a4 : Int) (a5 : Int) (a6 : List (Int × Int × Int)) : Option Int :=
  obnd (f326 a0 a1 a2 a3 a4 a5 a6) fun (y1 : Int × Int) =>
  some y1.2
set_option maxHeartbeats 1000000 in
theorem c311 [LO]  {a0 : Int} {a1 : Int} {a2 : List (ByteArray × Int × Int × Int)} {a3 : Int} {a4 : Int} {a5 : Int} {a6 : List (Int × Int × Int)} {x : Int} (H : f311 a0 a1 a2 a3 a4 a5 a6 = some x) : ICalls E 311 [(.agg ⟨[(.int .i64 a0), (.int .i64 a1), (VS 4 (a2.map e_SIII))]⟩), (.agg ⟨[(.int .i64 a3), (.int .i64 a4), (.int .i64 a5), (VS 3 (a6.map e_III))]⟩)] AHeap.none fun v _ => v = (.int .i64 x) := by
  refine icalls_fn (pfnw ?_); unfold f311 at H;(conv=>whnf);refine pwa ?_;(conv=>whnf);refine pwa ?_;(conv=>whnf);obtain ⟨y1, h2, H⟩ := obnd_some H;refine (c326 h2).go ?_;(conv=>whnf);refine pwa ?_;(conv=>whnf);refine pw_ret ?_;(conv=>whnf);cases H; rfl

/-- guidevane/guidevaneref08.CopyPlant -/
noncomputable def f309  (a0 : Int) (a1 : Int) (a2 : List (ByteArray × Int × Int × Int)) : Option (Int × Int × (List (ByteArray × Int × Int × Int))) :=
  ogrd (fits 40 (([] : List (ByteArray × Int × Int × Int)).length + a2.length)) (
  some (a0, a1, (([] : List (ByteArray × Int × Int × Int)) ++ a2))
  )
set_option maxHeartbeats 1000000 in
theorem c309  {a0 : Int} {a1 : Int} {a2 : List (ByteArray × Int × Int × Int)} {x : Int × Int × (List (ByteArray × Int × Int × Int))} (H : f309 a0 a1 a2 = some x) : ICalls E 309 [(.agg ⟨[(.int .i64 a0), (.int .i64 a1), (VS 4 (a2.map e_SIII))]⟩)] AHeap.none fun v _ => v = (.agg ⟨[(.int .i64 x.1), (.int .i64 x.2.1), (VS 4 (x.2.2.map e_SIII))]⟩) := by
  refine ICalls.frz ?_;refine icalls_fn (pfnw ?_); unfold f309 at H;(conv=>whnf);refine pwa ?_;(conv=>whnf);refine pwa ?_;(conv=>whnf);refine app_o (l := ([] : List (ByteArray × Int × Int × Int))) (m := a2) (f := e_SIII) H (by rfl) (by rfl) (by rfl) (fun H => ?_);(conv=>whnf);refine pwa ?_;(conv=>whnf);refine pw_ret ?_;(conv=>whnf);cases H; show ∃ D, Fz _ D 0 (.agg ⟨[(.int .i64 a0), (.int .i64 a1), (VT 4 _ 2)]⟩) _;exact ⟨fun _ => false, .aggl (.cons .cl (.cons .cl (.cons .vtc (.nil))))⟩

/-- guidevane/guidevaneref08.CopyTask -/
noncomputable def f310  (a0 : Int) (a1 : Int) (a2 : Int) (a3 : List (Int × Int × Int)) : Option (Int × Int × Int × (List (Int × Int × Int))) :=
  ogrd (fits 24 (([] : List (Int × Int × Int)).length + a3.length)) (
  some (a0, a1, a2, (([] : List (Int × Int × Int)) ++ a3))
  )
set_option maxHeartbeats 1000000 in
theorem c310  {a0 : Int} {a1 : Int} {a2 : Int} {a3 : List (Int × Int × Int)} {x : Int × Int × Int × (List (Int × Int × Int))} (H : f310 a0 a1 a2 a3 = some x) : ICalls E 310 [(.agg ⟨[(.int .i64 a0), (.int .i64 a1), (.int .i64 a2), (VS 3 (a3.map e_III))]⟩)] AHeap.none fun v _ => v = (.agg ⟨[(.int .i64 x.1), (.int .i64 x.2.1), (.int .i64 x.2.2.1), (VS 3 (x.2.2.2.map e_III))]⟩) := by
  refine ICalls.frz ?_;refine icalls_fn (pfnw ?_); unfold f310 at H;(conv=>whnf);refine pwa ?_;(conv=>whnf);refine pwa ?_;(conv=>whnf);refine app_o (l := ([] : List (Int × Int × Int))) (m := a3) (f := e_III) H (by rfl) (by rfl) (by rfl) (fun H => ?_);(conv=>whnf);refine pwa ?_;(conv=>whnf);refine pw_ret ?_;(conv=>whnf);cases H; show ∃ D, Fz _ D 0 (.agg ⟨[(.int .i64 a0), (.int .i64 a1), (.int .i64 a2), (VT 3 _ 2)]⟩) _;exact ⟨fun _ => false, .aggl (.cons .cl (.cons .cl (.cons .cl (.cons .vtc (.nil)))))⟩

/-- guidevane/dispatch.PotentialsOf -/
noncomputable def f345  (a0 : Int) (a1 : Int) (a2 : List (ByteArray × Int × Int × Int)) (a3 : Int) (a4 : Int) (a5 : Int) (a6 : List (Int × Int × Int)) : Option ((List ((List Int))) × Int) :=
  obnd (f206 a0 a1 a2 a3 a4 a5 a6) fun (y1 : (List Int) × Int × Int) =>
  oite ((!(ieq y1.2.2 (0 : Int)))) (
   some (([] : List ((List Int))), y1.2.2)
    ) (
   obnd (f229 a0 a1 a2 a3 a4 a5 a6 (-1 : Int) (0 : Int)) fun (y4 : (List ((List Int)))) =>
   some (y4, (0 : Int))
    )
set_option maxHeartbeats 1000000 in
theorem c345  {a0 : Int} {a1 : Int} {a2 : List (ByteArray × Int × Int × Int)} {a3 : Int} {a4 : Int} {a5 : Int} {a6 : List (Int × Int × Int)} {x : (List ((List Int))) × Int} (H : f345 a0 a1 a2 a3 a4 a5 a6 = some x) : ICalls E 345 [(.agg ⟨[(.int .i64 a0), (.int .i64 a1), (VS 4 (a2.map e_SIII))]⟩), (.agg ⟨[(.int .i64 a3), (.int .i64 a4), (.int .i64 a5), (VS 3 (a6.map e_III))]⟩)] AHeap.none fun v _ => v = (.tuple ⟨[(VS 1 (x.1.map e_L1I)), (.int .i64 x.2)]⟩) := by
  refine ICalls.frz ?_;refine icalls_fn (pfnw ?_); unfold f345 at H;(conv=>whnf);refine pwa ?_;(conv=>whnf);refine pw_seq ?_;refine pwa ?_;(conv=>whnf);obtain ⟨y1, h2, H⟩ := obnd_some H;refine (c206 h2).go ?_;(conv=>whnf);refine pwa ?_;(conv=>whnf);refine pw_cond ?_;(conv=>whnf);refine pbr_oite H (fun g3 H => ?_) (fun g3 H => ?_)
  · (conv=>whnf);refine pwa ?_;(conv=>whnf);refine pw_ret ?_;(conv=>whnf);cases H; show ∃ D, Fz _ D 0 (.tuple ⟨[(.slice none 0 0), (.int .i64 y1.2.2)]⟩) _;exact ⟨fun _ => false, .tuplel (.cons (.nil _) (.cons .cl (.nil)))⟩
  · (conv=>whnf);refine pw_skip ?_;(conv=>whnf);refine pwa ?_;(conv=>whnf);obtain ⟨y4, h5, H⟩ := obnd_some H;refine (c229 h5).go ?_;(conv=>whnf);refine pw_ret ?_;(conv=>whnf);cases H; show ∃ D, Fz _ D 0 (.tuple ⟨[(VS 1 _), (.int .i64 0)]⟩) _;exact ⟨fun _ => false, .tuplel (.cons .cl (.cons .cl (.nil)))⟩

/-- guidevane/guidevanebase.CopyInts -/
noncomputable def f38  (a0 : List Int) : Option ((List Int)) :=
  ogrd (fits 8 (([] : List Int).length + a0.length)) (
  some (([] : List Int) ++ a0)
  )
set_option maxHeartbeats 1000000 in
theorem c38  {a0 : List Int} {x : (List Int)} (H : f38 a0 = some x) : ICalls E 38 [(VS 1 (a0.map eI))] AHeap.none fun v _ => v = (VS 1 (x.map eI)) := by
  refine ICalls.frz ?_;refine icalls_fn (pfnw ?_); unfold f38 at H;(conv=>whnf);refine pwa ?_;(conv=>whnf);refine pwa ?_;(conv=>whnf);refine app_o (l := ([] : List Int)) (m := a0) (f := eI) H (by rfl) (by rfl) (by rfl) (fun H => ?_);(conv=>whnf);refine pw_ret ?_;(conv=>whnf);cases H; show ∃ D, Fz _ D 0 (VT 1 _ 0) _;exact ⟨fun _ => false, .vtc⟩

/-- (guidevane/dispatch.work).value -/
noncomputable def f352 [LO]  (a0 : Int) (a1 : Int) (a2 : List (ByteArray × Int × Int × Int)) (a3 : Int) (a4 : Int) (a5 : Int) (a6 : List (Int × Int × Int)) (a7 : List Int) (a8 : List Int) : Option Int :=
  ogrd ((ile 0 (IntKind.i64.wrap (((a8.map eI).length : Int) - (1 : Int))))) (
  obnd (a8[(IntKind.i64.wrap (((a8.map eI).length : Int) - (1 : Int))).toNat]?) fun (x2 : Int) =>
  obnd (
   oloop (τ := Int × Int × Int) (ρ := Int) (fun e7 =>
    oite ((ilt e7.2.1 ((a7.map eI).length : Int))) (
     ogrd ((ile 0 e7.2.1)) (
     obnd (a7[e7.2.1.toNat]?) fun (x12 : Int) =>
     obnd (f239 a0 a1 a2 a3 a4 a5 a6 e7.2.1 e7.1 x12) fun (y13 : Int) =>
     some (.inl ((x12, (IntKind.i64.wrap (e7.2.1 + (1 : Int))), (IntKind.i64.wrap (e7.2.2 + y13)))))
     )
      ) (
     some (.inr (e7.2.2))
      )
     ) ((a4, (0 : Int), (IntKind.i64.wrap (a5 * x2))))
    ) fun (r3 : Int) =>
  some r3
  )
set_option maxHeartbeats 1000000 in
theorem c352 [LO]  {a0 : Int} {a1 : Int} {a2 : List (ByteArray × Int × Int × Int)} {a3 : Int} {a4 : Int} {a5 : Int} {a6 : List (Int × Int × Int)} {a7 : List Int} {a8 : List Int} {x : Int} (H : f352 a0 a1 a2 a3 a4 a5 a6 a7 a8 = some x) : ICalls E 352 [(.agg ⟨[(.int .i64 a0), (.int .i64 a1), (VS 4 (a2.map e_SIII)), (.int .i64 a3), (.int .i64 a4), (.int .i64 a5), (VS 3 (a6.map e_III))]⟩), (VS 1 (a7.map eI)), (VS 1 (a8.map eI))] AHeap.none fun v _ => v = (.int .i64 x) := by
  refine icalls_fn (pfnw ?_); unfold f352 at H;(conv=>whnf);refine pwa ?_;(conv=>whnf);refine pw_sd ?_;(conv=>whnf);refine pbr_ogrd H (fun g1 H => ?_);(conv=>whnf);refine nth_o (l := a8) H (fun x2 _ H => ?_);(conv=>whnf);refine ⟨?_, trivial⟩;(conv=>whnf);refine ⟨by repeat (first | exact trivial | refine And.intro rfl ?_), ?_⟩;(conv=>whnf);refine ⟨?_, trivial⟩;(conv=>whnf);refine ⟨by repeat (first | exact trivial | refine And.intro rfl ?_), ?_⟩;(conv=>whnf);obtain ⟨r3, h4, H⟩ := obnd_some H;refine pw_join (ρ := Int) (fun e => ⟨[(7, (.pointer (some ⟨1, 0, none⟩)))], ⟨5, [(4, .dead), (3, .rw [(VS 1 (a7.map eI))]), (2, .rw [(.int .i64 a0), (.int .i64 a1), (VS 4 (a2.map e_SIII)), (.int .i64 a3), (.int .i64 a4), (.int .i64 a5), (VS 3 (a6.map e_III))]), (1, .rw [(.int .i64 e)]), (0, .rw [(.int .i64 a0), (.int .i64 a1), (VS 4 (a2.map e_SIII)), (.int .i64 a3), (.int .i64 a4), (.int .i64 a5), (VS 3 (a6.map e_III))])], false⟩⟩) r3 ?_ ?_
  · refine pwa ?_;(conv=>whnf);refine pcalls_in ?_;(conv=>whnf);refine pwa ?_;(conv=>whnf);refine pwa ?_;(conv=>whnf);refine pw_ret ?_;(conv=>whnf);refine pw_block ?_;refine pw_range [3, 7, 22] ?_;(conv=>whnf);refine pcallv_in ?_;(conv=>whnf);refine pwa ?_;(conv=>whnf);refine pwa ?_;(conv=>whnf);refine pw_block ?_;refine pw_loop (τ := Int × Int × Int) (fun e => ⟨[(0, (.func (.yield 4) #[] #[])), (4, (.int .i64 e.1)), (10, (VS 1 (a7.map eI))), (11, (.int .i64 ((a7.map eI).length : Int))), (12, (.int .i64 e.2.1))], ⟨5, [(4, .loop ⟨.ready, none, [(3, (.pointer (some ⟨0, 0, none⟩))), (7, (.pointer (some ⟨1, 0, none⟩))), (22, (.func (.func (E.id 367)) ⟨[]⟩ ⟨[(.pointer (some ⟨2, 0, none⟩)), (.pointer (some ⟨3, 0, none⟩))]⟩))], 35, #[23, 24], (rng 92 0).1, (rng 92 0).2⟩), (3, .rw [(VS 1 (a7.map eI))]), (2, .rw [(.int .i64 a0), (.int .i64 a1), (VS 4 (a2.map e_SIII)), (.int .i64 a3), (.int .i64 a4), (.int .i64 a5), (VS 3 (a6.map e_III))]), (1, .rw [(.int .i64 e.2.2)]), (0, .rw [(.int .i64 a0), (.int .i64 a1), (VS 4 (a2.map e_SIII)), (.int .i64 a3), (.int .i64 a4), (.int .i64 a5), (VS 3 (a6.map e_III))])], false⟩⟩) h4 ?_ (fun _ => nl rfl) ?_
    · exact .sub' (nl rfl) (.cons rfl (.cons rfl (.cons rfl (.cons rfl (.cons rfl .nil)))))
    · intro e7 x8 h9;refine pwa ?_;(conv=>whnf);refine pw_seq ?_;refine pw_cond ?_;(conv=>whnf);refine pbr_oite h9 (fun g10 h9 => ?_) (fun g10 h9 => ?_)
      · (conv=>whnf);refine pw_skip ?_;(conv=>whnf);refine pw_seq ?_;refine pw_block ?_;refine pwa ?_;(conv=>whnf);refine pbr_ogrd h9 (fun g11 h9 => ?_);(conv=>whnf);refine nth_o (l := a7) h9 (fun x12 _ h9 => ?_);(conv=>whnf);refine pw_seq ?_;refine pwa ?_;(conv=>whnf);refine pcallv_yield ir352a0 ir352b0 rfl rfl ra352_0 rb352_0 ⟨_, _, _, _, rfl⟩ ?_;(conv=>whnf);refine pwa ?_;(conv=>whnf);refine pw_ops ?_;refine po_all ?_;(conv=>whnf);refine pw_block ?_;refine pw_draw ?_;(conv=>whnf);refine ⟨?_, trivial⟩;(conv=>whnf);obtain ⟨y13, h14, h9⟩ := obnd_some h9
        refine (c239 h14).go ?_;(conv=>whnf);refine ⟨by repeat (first | exact trivial | refine And.intro rfl ?_), ?_⟩;(conv=>whnf);refine ⟨?_, trivial⟩;(conv=>whnf);refine ⟨by repeat (first | exact trivial | refine And.intro rfl ?_), ?_⟩;(conv=>whnf);refine pw_cond ?_;(conv=>whnf);refine pw_skip ?_;(conv=>whnf);refine pw_ops ?_;refine po_all ?_;(conv=>whnf);refine pw_ops ?_;refine po_all ?_;(conv=>whnf);cases h9;refine ⟨_, rfl, ?_⟩;exact Recast.fz (fun _ => false) (nl rfl) (.cons (.same rfl rfl (OBnd.loop (nl rfl) (.cons (.ptr (nl rfl)) (.cons (.ptr (nl rfl)) (.cons (.funcl .nil (.cons (.ptr (nl rfl)) (.cons (.ptr (nl rfl)) .nil))) .nil))))) (.cons (.same rfl rfl (OBnd.rwl (nl rfl) rfl (.cons .cl .nil))) (.cons (.same rfl rfl (OBnd.rwl (nl rfl) rfl (.cons .cl (.cons .cl (.cons .cl (.cons .cl (.cons .cl (.cons .cl (.cons .cl .nil))))))))) (.cons (.same rfl rfl (OBnd.rwl (nl rfl) rfl (.cons .cl .nil))) (.cons (.same rfl rfl (OBnd.rwl (nl rfl) rfl (.cons .cl (.cons .cl (.cons .cl (.cons .cl (.cons .cl (.cons .cl (.cons .cl .nil))))))))) .nil))))) (.cons rfl (.same _ (.yield (nl rfl))) (.cons rfl (.same _ .cl) (.cons rfl (.same _ .cl) (.cons rfl (.same _ .cl) (.cons rfl (.same _ .cl) .nil)))))
      · (conv=>whnf);refine pw_exit ?_;(conv=>whnf);cases h9;refine ⟨_, rfl, ?_⟩; rintro rfl;(conv=>whnf);exact ⟨(.cons rfl .nil), rfl⟩
  · refine pwa ?_;(conv=>whnf);refine pw_ret ?_;(conv=>whnf);cases H; rfl

/-- guidevane/dispatch.ValueOf -/
noncomputable def f323 [LO]  (a0 : Int) (a1 : Int) (a2 : List (ByteArray × Int × Int × Int)) (a3 : Int) (a4 : Int) (a5 : Int) (a6 : List (Int × Int × Int)) (a7 : List Int) : Option (Int × Int) :=
  obnd (f221 a0 a1 a2 a3 a4 a5 a6 a7) fun (y1 : Int × Int × (List (ByteArray × Int × Int × Int)) × Int × Int × Int × (List (Int × Int × Int)) × (List Int) × Int) =>
  oite ((!(ieq y1.2.2.2.2.2.2.2.2 (0 : Int)))) (
   some ((0 : Int), y1.2.2.2.2.2.2.2.2)
    ) (
   obnd (f352 y1.1 y1.2.1 y1.2.2.1 y1.2.2.2.1 y1.2.2.2.2.1 y1.2.2.2.2.2.1 y1.2.2.2.2.2.2.1 a7 y1.2.2.2.2.2.2.2.1) fun (y4 : Int) =>
   some (y4, (0 : Int))
    )
set_option maxHeartbeats 1000000 in
theorem c323 [LO]  {a0 : Int} {a1 : Int} {a2 : List (ByteArray × Int × Int × Int)} {a3 : Int} {a4 : Int} {a5 : Int} {a6 : List (Int × Int × Int)} {a7 : List Int} {x : Int × Int} (H : f323 a0 a1 a2 a3 a4 a5 a6 a7 = some x) : ICalls E 323 [(.agg ⟨[(.int .i64 a0), (.int .i64 a1), (VS 4 (a2.map e_SIII))]⟩), (.agg ⟨[(.int .i64 a3), (.int .i64 a4), (.int .i64 a5), (VS 3 (a6.map e_III))]⟩), (VS 1 (a7.map eI))] AHeap.none fun v _ => v = (.tuple ⟨[(.int .i64 x.1), (.int .i64 x.2)]⟩) := by
  refine icalls_fn (pfnw ?_); unfold f323 at H;(conv=>whnf);refine pwa ?_;(conv=>whnf);refine pwa ?_;(conv=>whnf);obtain ⟨y1, h2, H⟩ := obnd_some H;refine (c221 h2).go ?_;(conv=>whnf);refine pw_seq ?_;refine pwa ?_;(conv=>whnf);refine pw_cond ?_;(conv=>whnf);refine pbr_oite H (fun g3 H => ?_) (fun g3 H => ?_)
  · (conv=>whnf);refine pwa ?_;(conv=>whnf);refine pw_ret ?_;(conv=>whnf);cases H; rfl
  · (conv=>whnf);refine pw_skip ?_;(conv=>whnf);refine pwa ?_;(conv=>whnf);obtain ⟨y4, h5, H⟩ := obnd_some H;refine (c352 h5).go ?_;(conv=>whnf);refine pw_ret ?_;(conv=>whnf);cases H; rfl

/-- guidevane/guidevanebase.CopyLists -/
noncomputable def f332 [LO]  (a0 : List ((List Int))) : Option ((List ((List Int)))) :=
  obnd (
   oloop (τ := (List ((List Int))) × Int) (ρ := (List ((List Int)))) (fun e5 =>
    oite ((ilt e5.2 ((a0.map e_L1I).length : Int))) (
     ogrd ((ile 0 e5.2)) (
     obnd (a0[e5.2.toNat]?) fun (x10 : (List Int)) =>
     obnd (f38 x10) fun (y11 : (List Int)) =>
     ogrd (fits 24 (e5.1.length + ([y11] : List ((List Int))).length)) (
     some (.inl (((e5.1 ++ ([y11] : List ((List Int)))), (IntKind.i64.wrap (e5.2 + (1 : Int))))))
     )
     )
      ) (
     some (.inr (e5.1))
      )
     ) ((([] : List ((List Int))), (0 : Int)))
    ) fun (r1 : (List ((List Int)))) =>
  some r1
set_option maxHeartbeats 1000000 in
theorem c332 [LO]  {a0 : List ((List Int))} {x : (List ((List Int)))} (H : f332 a0 = some x) : ICalls E 332 [(VS 1 (a0.map e_L1I))] AHeap.none fun v _ => v = (VS 1 (x.map e_L1I)) := by
  refine ICalls.frz ?_;refine icalls_fn (pfnw ?_); unfold f332 at H;(conv=>whnf);refine pwa ?_;(conv=>whnf);refine pwa ?_;(conv=>whnf);obtain ⟨r1, h2, H⟩ := obnd_some H;refine pw_join (ρ := (List ((List Int)))) (fun e => ⟨[(3, (VT 1 (e.map e_L1I) 0))], ⟨1, [(0, .tail (e.map e_L1I).length 1)], false⟩⟩) r1 ?_ ?_
  · refine pwa ?_;(conv=>whnf);refine pw_block ?_;refine pw_loop (τ := (List ((List Int))) × Int) (fun e => ⟨[(0, (VS 1 (a0.map e_L1I))), (3, (VT 1 (e.1.map e_L1I) 0)), (4, (.int .i64 e.2))], ⟨1, [(0, .tail (e.1.map e_L1I).length 1)], false⟩⟩) h2 ?_ (fun _ => nl rfl) ?_
    · exact (Recast.nilTs 1 (nl rfl) (.same rfl (.turn rfl (.same rfl .nil))))
    · intro e5 x6 h7;refine pw_seq ?_;refine pwa ?_;(conv=>whnf);refine pw_cond ?_;(conv=>whnf);refine pbr_oite h7 (fun g8 h7 => ?_) (fun g8 h7 => ?_)
      · (conv=>whnf);refine pw_skip ?_;(conv=>whnf);refine pw_seq ?_;refine pw_block ?_;refine pw_ops ?_;refine po_all ?_;(conv=>whnf);refine pbr_ogrd h7 (fun g9 h7 => ?_);(conv=>whnf);refine nth_o (l := a0) h7 (fun x10 _ h7 => ?_);(conv=>whnf);obtain ⟨y11, h12, h7⟩ := obnd_some h7;refine (c38 h12).go ?_;(conv=>whnf);refine app_o (l := e5.1) (m := ([y11] : List ((List Int)))) (f := e_L1I) h7 (by rfl) (by rfl) (by rfl) (fun h7 => ?_);(conv=>whnf);refine pw_ops ?_;refine po_all ?_;(conv=>whnf);cases h7;refine ⟨_, rfl, ?_⟩;refine Recast.trunc (nl rfl) ?_ ?_
        · repeat (first | exact .nil | refine .cons rfl (by first | exact OBnd.rwc (nl rfl) rfl | exact OBnd.tail (nl rfl) | trivial) ?_)
        · repeat (first | exact .nil | refine .cons rfl (by first | exact Bnd.ptr (nl rfl) | exact Bnd.vt (nl rfl) | exact Bnd.cl) ?_)
      · (conv=>whnf);refine pw_exit ?_;(conv=>whnf);cases h7;refine ⟨_, rfl, ?_⟩; rintro rfl;(conv=>whnf);exact ⟨(.cons rfl .nil), rfl⟩
  · refine pwa ?_;(conv=>whnf);refine pw_ret ?_;(conv=>whnf);cases H; show ∃ D, Fz _ D 0 (VT 1 _ 0) _;exact ⟨fun _ => false, .vtc⟩

/-- slices.IndexFunc[[][]int,[]int] -/
noncomputable def f368 [LO] (p0 : (List Int) → Option Bool) (a0 : List ((List Int))) : Option Int :=
  obndS (
   oloop (τ := Int) (ρ := (Unit) ⊕ Int) (fun e5 =>
    oite ((ilt e5 ((a0.map e_L1I).length : Int))) (
     ogrd ((ile 0 e5)) (
     obnd (a0[e5.toNat]?) fun (x10 : (List Int)) =>
     obnd (p0 x10) fun (y11 : Bool) =>
     oite y11 (
      some (.inr (.inr (e5)))
       ) (
      some (.inl (IntKind.i64.wrap (e5 + (1 : Int))))
       )
     )
      ) (
     some (.inr (.inl ()))
      )
     ) (0 : Int)
    ) fun (_ : Unit) =>
  some (-1 : Int)
set_option maxHeartbeats 1000000 in
theorem c368 [LO] {p0 : (List Int) → Option Bool} {a0 : List ((List Int))} {g0 : Value} [Cl g0] (hp0 : ∀ y0 y, p0 y0 = some y → ICallV E g0 [(VS 1 (y0.map eI))] AHeap.none fun v _ => v = (.bool y)) {x : Int} (H : f368 p0 a0 = some x) : ICalls E 368 [(VS 1 (a0.map e_L1I)), g0] AHeap.none fun v _ => v = (.int .i64 x) := by
  refine icalls_fn (pfnw ?_); unfold f368 at H;(conv=>whnf);refine pwa ?_;(conv=>whnf);obtain ⟨r1, h2, h3, h4⟩ := obndS_some H;refine pw_joinS (ρ := Unit) (fun e => ⟨[], ⟨0, [], false⟩⟩) r1 ?_ ?_
  · refine pwa ?_;(conv=>whnf);refine pw_block ?_;refine pw_loop (τ := Int) (fun e => ⟨[(0, (VS 1 (a0.map e_L1I))), (1, g0), (7, (.int .i64 ((a0.map e_L1I).length : Int))), (8, (.int .i64 e))], ⟨0, [], false⟩⟩) h2 ?_ (fun _ => nl rfl) ?_
    · exact .sub' (nl rfl) (.cons rfl (.cons rfl (.cons rfl (.cons rfl .nil))))
    · intro e5 x6 h7;refine pwa ?_;(conv=>whnf);refine pw_seq ?_;refine pw_cond ?_;(conv=>whnf);refine pbr_oite h7 (fun g8 h7 => ?_) (fun g8 h7 => ?_)
      · (conv=>whnf);refine pw_skip ?_;(conv=>whnf);refine pw_seq ?_;refine pw_block ?_;refine pwa ?_;(conv=>whnf);refine pwa ?_;(conv=>whnf);refine pbr_ogrd h7 (fun g9 h7 => ?_);(conv=>whnf);refine nth_o (l := a0) h7 (fun x10 _ h7 => ?_);(conv=>whnf);obtain ⟨y11, h12, h7⟩ := obnd_some h7;refine ICallV.go (hp0 _ _ h12) ?_;(conv=>whnf);refine pw_cond ?_;(conv=>whnf);refine pbr_oite h7 (fun g13 h7 => ?_) (fun g13 h7 => ?_)
        · (conv=>whnf);refine pwa ?_;(conv=>whnf);refine pw_ret ?_;(conv=>whnf);cases h7;refine ⟨_, rfl, ?_⟩; rintro rfl;(conv=>whnf);obtain rfl := h4 _ rfl; rfl
        · (conv=>whnf);refine pw_skip ?_;(conv=>whnf);refine pw_ops ?_;refine po_all ?_;(conv=>whnf);cases h7;refine ⟨_, rfl, ?_⟩;exact .sub' (nl rfl) (.cons rfl (.cons rfl (.cons rfl (.cons rfl .nil))))
      · (conv=>whnf);refine pw_exit ?_;(conv=>whnf);cases h7;refine ⟨_, rfl, ?_⟩; rintro rfl;(conv=>whnf);exact ⟨_, rfl, ⟨.nil, rfl⟩⟩
  · intro r16 hr; have H := h3 _ hr;refine pwa ?_;(conv=>whnf);refine pw_ret ?_;(conv=>whnf);cases H; rfl

/-- slices.ContainsFunc[[][]int,[]int] -/
noncomputable def f357 [LO] (p0 : (List Int) → Option Bool) (a0 : List ((List Int))) : Option Bool :=
  obnd (f368 p0 a0) fun (y1 : Int) =>
  some (ile (0 : Int) y1)
set_option maxHeartbeats 1000000 in
theorem c357 [LO] {p0 : (List Int) → Option Bool} {a0 : List ((List Int))} {g0 : Value} [Cl g0] (hp0 : ∀ y0 y, p0 y0 = some y → ICallV E g0 [(VS 1 (y0.map eI))] AHeap.none fun v _ => v = (.bool y)) {x : Bool} (H : f357 p0 a0 = some x) : ICalls E 357 [(VS 1 (a0.map e_L1I)), g0] AHeap.none fun v _ => v = (.bool x) := by
  refine icalls_fn (pfnw ?_); unfold f357 at H;(conv=>whnf);refine pwa ?_;(conv=>whnf);refine pwa ?_;(conv=>whnf);obtain ⟨y1, h2, H⟩ := obnd_some H;refine (c368 hp0 h2).go ?_;(conv=>whnf);refine pw_ret ?_;(conv=>whnf);cases H; rfl

/-- guidevane/dispatch.CheckBound$1 -/
noncomputable def f358  (a0 : List Int) (a1 : Int) : Option Bool :=
  some (!(ieq ((a0.map eI).length : Int) a1))
set_option maxHeartbeats 1000000 in
theorem c358  {a0 : List Int} {a1 : Int} {x : Bool} (H : f358 a0 a1 = some x) : ICallV E (.func (.func (E.id 358)) ⟨[]⟩ ⟨[(VP (.agg ⟨[(.int .i64 a1)]⟩) 0)]⟩) [(VS 1 (a0.map eI))] AHeap.none fun v _ => v = (.bool x) := by
  refine icallv_fn (pfnw ?_); unfold f358 at H;(conv=>whnf);refine pwa ?_;(conv=>whnf);refine pwa ?_;(conv=>whnf);refine pw_ret ?_;(conv=>whnf);cases H; rfl

/-- slices.Concat[[]int,int] -/
noncomputable def f359 [LO]  (a0 : List ((List Int))) : Option ((List Int)) :=
  obnd (
   oloop (τ := Int × Int) (ρ := Int) (fun e5 =>
    oite ((ilt e5.2 ((a0.map e_L1I).length : Int))) (
     ogrd ((ile 0 e5.2)) (
     obnd (a0[e5.2.toNat]?) fun (x10 : (List Int)) =>
     oite ((ilt (IntKind.i64.wrap (e5.1 + ((x10.map eI).length : Int))) (0 : Int))) (
      none
       ) (
      some (.inl (((IntKind.i64.wrap (e5.1 + ((x10.map eI).length : Int))), (IntKind.i64.wrap (e5.2 + (1 : Int))))))
       )
     )
      ) (
     some (.inr (e5.1))
      )
     ) (((0 : Int), (0 : Int)))
    ) fun (r1 : Int) =>
  oite ((ilt r1 (0 : Int))) (
   none
    ) (
   oite ((ilt (0 : Int) (IntKind.i64.wrap (r1 - (0 : Int))))) (
    ogrd (mfits 8 (IntKind.i64.wrap (r1 - (0 : Int))) (IntKind.i64.wrap (r1 - (0 : Int)))) (
    ogrd (ile 1 (IntKind.i64.wrap (r1 - (0 : Int)))) (
    obnd (
     oloop (τ := Nat × Int × (List Int)) (ρ := Nat × (List Int)) (fun e21 =>
      oite ((ilt e21.2.1 ((a0.map e_L1I).length : Int))) (
       ogrd ((ile 0 e21.2.1)) (
       obnd (a0[e21.2.1.toNat]?) fun (x26 : (List Int)) =>
       ogrd (fits 8 (e21.1 + x26.length)) (
       ogrd (Nat.ble (e21.1 + x26.length) e21.2.2.length) (
       some (.inl (((e21.1 + x26.length), (IntKind.i64.wrap (e21.2.1 + (1 : Int))), (e21.2.2.take e21.1 ++ x26 ++ e21.2.2.drop (e21.1 + x26.length)))))
       )
       )
       )
        ) (
       some (.inr ((e21.1, e21.2.2)))
        )
       ) ((0, (0 : Int), (List.replicate (IntKind.i64.wrap (r1 - (0 : Int))).toNat (0 : Int))))
      ) fun (r17 : Nat × (List Int)) =>
    ogrd (Nat.beq r17.1 r17.2.length) (
    some r17.2
    )
    )
    )
     ) (
    obnd (
     oloop (τ := (List Int) × Int) (ρ := (List Int)) (fun e33 =>
      oite ((ilt e33.2 ((a0.map e_L1I).length : Int))) (
       ogrd ((ile 0 e33.2)) (
       obnd (a0[e33.2.toNat]?) fun (x38 : (List Int)) =>
       ogrd (fits 8 (e33.1.length + x38.length)) (
       some (.inl (((e33.1 ++ x38), (IntKind.i64.wrap (e33.2 + (1 : Int))))))
       )
       )
        ) (
       some (.inr (e33.1))
        )
       ) ((([] : List Int), (0 : Int)))
      ) fun (r29 : (List Int)) =>
    some r29
     )
    )
set_option maxHeartbeats 1000000 in
theorem c359 [LO]  {a0 : List ((List Int))} {x : (List Int)} (H : f359 a0 = some x) : ICalls E 359 [(VS 1 (a0.map e_L1I))] AHeap.none fun v _ => v = (VS 1 (x.map eI)) := by
  refine ICalls.frz ?_;refine icalls_fn (pfnw ?_); unfold f359 at H;(conv=>whnf);refine pwa ?_;(conv=>whnf);refine pwa ?_;(conv=>whnf);obtain ⟨r1, h2, H⟩ := obnd_some H;refine pw_join (ρ := Int) (fun e => ⟨[(0, (VS 1 (a0.map e_L1I))), (3, (.int .i64 e))], ⟨0, [], false⟩⟩) r1 ?_ ?_
  · refine pwa ?_;(conv=>whnf);refine pw_block ?_;refine pw_loop (τ := Int × Int) (fun e => ⟨[(0, (VS 1 (a0.map e_L1I))), (3, (.int .i64 e.1)), (9, (VS 1 (a0.map e_L1I))), (10, (.int .i64 ((a0.map e_L1I).length : Int))), (11, (.int .i64 e.2))], ⟨0, [], false⟩⟩) h2 ?_ (fun _ => nl rfl) ?_
    · exact .sub' (nl rfl) (.cons rfl (.cons rfl (.cons rfl (.cons rfl (.cons rfl .nil)))))
    · intro e5 x6 h7;refine pwa ?_;(conv=>whnf);refine pw_seq ?_;refine pw_cond ?_;(conv=>whnf);refine pbr_oite h7 (fun g8 h7 => ?_) (fun g8 h7 => ?_)
      · (conv=>whnf);refine pw_skip ?_;(conv=>whnf);refine pw_seq ?_;refine pw_block ?_;refine pwa ?_;(conv=>whnf);refine pbr_ogrd h7 (fun g9 h7 => ?_);(conv=>whnf);refine nth_o (l := a0) h7 (fun x10 _ h7 => ?_);(conv=>whnf);refine pwa ?_;(conv=>whnf);refine pwa ?_;(conv=>whnf);refine pw_cond ?_;(conv=>whnf);refine pbr_oite h7 (fun g11 h7 => ?_) (fun g11 h7 => ?_)
        · (conv=>whnf);cases h7
        · (conv=>whnf);refine pw_skip ?_;(conv=>whnf);refine pw_ops ?_;refine po_all ?_;(conv=>whnf);cases h7;refine ⟨_, rfl, ?_⟩;exact .sub' (nl rfl) (.cons rfl (.cons rfl (.cons rfl (.cons rfl (.cons rfl .nil)))))
      · (conv=>whnf);refine pw_exit ?_;(conv=>whnf);cases h7;refine ⟨_, rfl, ?_⟩; rintro rfl;(conv=>whnf);exact ⟨(.cons rfl (.cons rfl .nil)), rfl⟩
  · refine pwa ?_;(conv=>whnf);refine pcalls_in ?_;(conv=>whnf);refine pwa ?_;(conv=>whnf);refine pw_seq ?_;refine pwa ?_;(conv=>whnf);refine pw_cond ?_;(conv=>whnf);refine pbr_oite H (fun g13 H => ?_) (fun g13 H => ?_)
    · (conv=>whnf);cases H
    · (conv=>whnf);refine pw_skip ?_;(conv=>whnf);refine pw_seq ?_;refine pwa ?_;(conv=>whnf);refine pwa ?_;(conv=>whnf);refine pw_cond ?_;(conv=>whnf);refine pbr_oite H (fun g14 H => ?_) (fun g14 H => ?_)
      · (conv=>whnf);refine pw_ops ?_;refine po_all ?_;(conv=>whnf);obtain ⟨g15, H⟩ := ogrd_some H;obtain ⟨g16, H⟩ := ogrd_some H;refine mkz_o (x := (0 : Int)) rfl g15 g16 ?_;(conv=>whnf);refine shz_o (by rfl) ?_;(conv=>whnf);refine pwa ?_;(conv=>whnf);refine pw_ret ?_;(conv=>whnf);obtain ⟨r17, h18, H⟩ := obnd_some H;refine pw_join (ρ := Nat × (List Int)) (fun e => ⟨[(6, (.slice (some ⟨0, 0, none⟩) e.1 2))], ⟨1, [(0, .rw (e.2.map eI))], false⟩⟩) r17 ?_ ?_
        · refine pwa ?_;(conv=>whnf);refine pw_block ?_;refine pw_loop (τ := Nat × Int × (List Int)) (fun e => ⟨[(6, (.slice (some ⟨0, 0, none⟩) e.1 2)), (25, (VS 1 (a0.map e_L1I))), (26, (.int .i64 ((a0.map e_L1I).length : Int))), (27, (.int .i64 e.2.1))], ⟨1, [(0, .rw (e.2.2.map eI))], false⟩⟩) h18 ?_ (fun _ => nl rfl) ?_
          · exact .sub' (nl rfl) (.cons rfl (.cons rfl (.cons rfl (.cons rfl .nil))))
          · intro e21 x22 h23;refine pwa ?_;(conv=>whnf);refine pw_seq ?_;refine pw_cond ?_;(conv=>whnf);refine pbr_oite h23 (fun g24 h23 => ?_) (fun g24 h23 => ?_)
            · (conv=>whnf);refine pw_skip ?_;(conv=>whnf);refine pw_seq ?_;refine pw_block ?_;refine pwa ?_;(conv=>whnf);refine pbr_ogrd h23 (fun g25 h23 => ?_);(conv=>whnf);refine nth_o (l := a0) h23 (fun x26 _ h23 => ?_);(conv=>whnf);refine pw_ops ?_;refine po_all ?_;(conv=>whnf);refine appin_o (l := e21.2.2) (m := x26) (n := e21.1) h23 (by rfl) (fun h23 => ?_);(conv=>whnf);refine pw_ops ?_;refine po_all ?_;(conv=>whnf);cases h23;refine ⟨_, rfl, ?_⟩;exact .sub' (nl rfl) (.cons rfl (.cons rfl (.cons rfl (.cons rfl .nil))))
            · (conv=>whnf);refine pw_exit ?_;(conv=>whnf);cases h23;refine ⟨_, rfl, ?_⟩; rintro rfl;(conv=>whnf);exact ⟨(.cons rfl .nil), rfl⟩
        · refine pwa ?_;(conv=>whnf);refine pw_ret ?_;(conv=>whnf);obtain ⟨g28, H⟩ := ogrd_some H;cases H;exact ⟨fun b => Nat.beq b 0, .slm rfl rfl g28 (fun _ => rfl)⟩
      · (conv=>whnf);refine pw_skip ?_;(conv=>whnf);refine pwa ?_;(conv=>whnf);refine pw_ret ?_;(conv=>whnf);obtain ⟨r29, h30, H⟩ := obnd_some H;refine pw_join (ρ := (List Int)) (fun e => ⟨[(6, (VT 1 (e.map eI) 0))], ⟨1, [(0, .tail (e.map eI).length 1)], false⟩⟩) r29 ?_ ?_
        · refine pwa ?_;(conv=>whnf);refine pw_block ?_;refine pw_loop (τ := (List Int) × Int) (fun e => ⟨[(6, (VT 1 (e.1.map eI) 0)), (25, (VS 1 (a0.map e_L1I))), (26, (.int .i64 ((a0.map e_L1I).length : Int))), (27, (.int .i64 e.2))], ⟨1, [(0, .tail (e.1.map eI).length 1)], false⟩⟩) h30 ?_ (fun _ => nl rfl) ?_
          · exact (Recast.nilTs 1 (nl rfl) (.turn rfl (.same rfl (.same rfl (.same rfl .nil)))))
          · intro e33 x34 h35;refine pwa ?_;(conv=>whnf);refine pw_seq ?_;refine pw_cond ?_;(conv=>whnf);refine pbr_oite h35 (fun g36 h35 => ?_) (fun g36 h35 => ?_)
            · (conv=>whnf);refine pw_skip ?_;(conv=>whnf);refine pw_seq ?_;refine pw_block ?_;refine pwa ?_;(conv=>whnf);refine pbr_ogrd h35 (fun g37 h35 => ?_);(conv=>whnf);refine nth_o (l := a0) h35 (fun x38 _ h35 => ?_);(conv=>whnf);refine pw_ops ?_;refine po_all ?_;(conv=>whnf);refine app_o (l := e33.1) (m := x38) (f := eI) h35 (by rfl) (by rfl) (by rfl) (fun h35 => ?_);(conv=>whnf);refine pw_ops ?_;refine po_all ?_;(conv=>whnf);cases h35;refine ⟨_, rfl, ?_⟩;exact .sub' (nl rfl) (.cons rfl (.cons rfl (.cons rfl (.cons rfl .nil))))
            · (conv=>whnf);refine pw_exit ?_;(conv=>whnf);cases h35;refine ⟨_, rfl, ?_⟩; rintro rfl;(conv=>whnf);exact ⟨(.cons rfl .nil), rfl⟩
        · refine pwa ?_;(conv=>whnf);refine pw_ret ?_;(conv=>whnf);cases H; show ∃ D, Fz _ D 0 (VT 1 _ 0) _;exact ⟨fun _ => false, .vtc⟩

/-- guidevane/dispatch.CheckBound$2 -/
noncomputable def f360  (a0 : Int) : Option Bool :=
  obnd (f235 a0 (1000000000000 : Int)) fun (y1 : Bool) =>
  some (!y1)
set_option maxHeartbeats 1000000 in
theorem c360  {a0 : Int} {x : Bool} (H : f360 a0 = some x) : ICalls E 360 [(.int .i64 a0)] AHeap.none fun v _ => v = (.bool x) := by
  refine icalls_fn (pfnw ?_); unfold f360 at H;(conv=>whnf);refine pwa ?_;(conv=>whnf);refine pwa ?_;(conv=>whnf);obtain ⟨y1, h2, H⟩ := obnd_some H;refine (c235 h2).go ?_;(conv=>whnf);refine pw_ret ?_;(conv=>whnf);cases H; rfl

/-- (guidevane/dispatch.work).valid -/
noncomputable def f361 [LO]  (a0 : Int) (a1 : Int) (a2 : List (ByteArray × Int × Int × Int)) (a3 : Int) (a4 : Int) (a5 : Int) (a6 : List (Int × Int × Int)) (a7 : List ((List Int))) (a8 : Int) (a9 : Int) (a10 : Int) (a11 : Int) : Option Bool :=
  oite ((ieq a8 ((a6.map e_III).length : Int))) (
   some (ile (IntKind.i64.wrap (a5 * a9)) a11)
    ) (
   obndS (
    oloop (τ := Int) (ρ := (Unit) ⊕ Bool) (fun e6 =>
     oite ((ilt e6 ((a2.map e_SIII).length : Int))) (
      obnd (f242 a0 a1 a2 a3 a4 a5 a6 a9 a8 e6) fun (y10 : Int) =>
      obnd (f243 a0 a1 a2 a3 a4 a5 a6 y10) fun (y12 : Bool) =>
      oite y12 (
       ogrd ((ile 0 (IntKind.i64.wrap (a8 + (1 : Int))))) (
       obnd (a7[(IntKind.i64.wrap (a8 + (1 : Int))).toNat]?) fun (x16 : (List Int)) =>
       obnd (f239 a0 a1 a2 a3 a4 a5 a6 a8 a10 e6) fun (y17 : Int) =>
       obnd (f234 a0 a1 a2 a3 a4 a5 a6 y10 e6) fun (y19 : Int) =>
       ogrd ((ile 0 y19)) (
       obnd (x16[y19.toNat]?) fun (x22 : Int) =>
       oite ((ilt a11 (IntKind.i64.wrap (y17 + x22)))) (
        some (.inr (.inr (false)))
         ) (
        some (.inl (IntKind.i64.wrap (e6 + (1 : Int))))
         )
       )
       )
        ) (
       some (.inl (IntKind.i64.wrap (e6 + (1 : Int))))
        )
       ) (
      some (.inr (.inl ()))
       )
      ) (0 : Int)
     ) fun (_ : Unit) =>
   some true
    )
set_option maxHeartbeats 1000000 in
theorem c361 [LO]  {a0 : Int} {a1 : Int} {a2 : List (ByteArray × Int × Int × Int)} {a3 : Int} {a4 : Int} {a5 : Int} {a6 : List (Int × Int × Int)} {a7 : List ((List Int))} {a8 : Int} {a9 : Int} {a10 : Int} {a11 : Int} {x : Bool} (H : f361 a0 a1 a2 a3 a4 a5 a6 a7 a8 a9 a10 a11 = some x) : ICalls E 361 [(.agg ⟨[(.int .i64 a0), (.int .i64 a1), (VS 4 (a2.map e_SIII)), (.int .i64 a3), (.int .i64 a4), (.int .i64 a5), (VS 3 (a6.map e_III))]⟩), (VS 1 (a7.map e_L1I)), (.int .i64 a8), (.int .i64 a9), (.int .i64 a10), (.int .i64 a11)] AHeap.none fun v _ => v = (.bool x) := by
  refine icalls_fn (pfnw ?_); unfold f361 at H;(conv=>whnf);refine pwa ?_;(conv=>whnf);refine pw_seq ?_;refine pwa ?_;(conv=>whnf);refine pw_cond ?_;(conv=>whnf);refine pbr_oite H (fun g1 H => ?_) (fun g1 H => ?_)
  · (conv=>whnf);refine pwa ?_;(conv=>whnf);refine pw_ret ?_;(conv=>whnf);cases H; rfl
  · (conv=>whnf);refine pw_skip ?_;(conv=>whnf);obtain ⟨r2, h3, h4, h5⟩ := obndS_some H;refine pw_joinS (ρ := Unit) (fun e => ⟨[(12, (.pointer (some ⟨5, 0, none⟩)))], ⟨10, [(9, .dead), (8, .rw [(.int .i64 a8)]), (7, .rw [(.int .i64 a9)]), (6, .rw [(.int .i64 a0), (.int .i64 a1), (VS 4 (a2.map e_SIII)), (.int .i64 a3), (.int .i64 a4), (.int .i64 a5), (VS 3 (a6.map e_III))]), (5, .rw [(.bool false)]), (4, .rw [(.int .i64 a11)]), (3, .rw [(.int .i64 a10)]), (2, .rw [(.int .i64 a8)]), (1, .rw [(VS 1 (a7.map e_L1I))]), (0, .rw [(.int .i64 a0), (.int .i64 a1), (VS 4 (a2.map e_SIII)), (.int .i64 a3), (.int .i64 a4), (.int .i64 a5), (VS 3 (a6.map e_III))])], false⟩⟩) r2 ?_ ?_
    · refine pwa ?_;(conv=>whnf);refine pcalls_in ?_;(conv=>whnf);refine pwa ?_;(conv=>whnf);refine pwa ?_;(conv=>whnf);refine pw_ret ?_;(conv=>whnf);refine pw_block ?_;refine pw_range [6, 7, 8, 10, 11, 12, 31] ?_;(conv=>whnf);refine pcallv_in ?_;(conv=>whnf);refine pwa ?_;(conv=>whnf);refine pw_block ?_;refine pw_loop (τ := Int) (fun e => ⟨[(0, (.func (.yield 9) #[] #[])), (1, (.pointer (some ⟨6, 0, none⟩))), (2, (.pointer (some ⟨7, 0, none⟩))), (3, (.pointer (some ⟨8, 0, none⟩))), (10, (.int .i64 ((a2.map e_SIII).length : Int))), (11, (.int .i64 e))], ⟨10, [(9, .loop ⟨.ready, none, [(6, (.pointer (some ⟨0, 0, none⟩))), (7, (.pointer (some ⟨1, 0, none⟩))), (8, (.pointer (some ⟨2, 0, none⟩))), (10, (.pointer (some ⟨3, 0, none⟩))), (11, (.pointer (some ⟨4, 0, none⟩))), (12, (.pointer (some ⟨5, 0, none⟩))), (31, (.func (.func (E.id 251)) ⟨[]⟩ ⟨[(.pointer (some ⟨6, 0, none⟩)), (.pointer (some ⟨7, 0, none⟩)), (.pointer (some ⟨8, 0, none⟩))]⟩))], 53, #[32, 33], (rng 102 0).1, (rng 102 0).2⟩), (8, .rw [(.int .i64 a8)]), (7, .rw [(.int .i64 a9)]), (6, .rw [(.int .i64 a0), (.int .i64 a1), (VS 4 (a2.map e_SIII)), (.int .i64 a3), (.int .i64 a4), (.int .i64 a5), (VS 3 (a6.map e_III))]), (5, .rw [(.bool false)]), (4, .rw [(.int .i64 a11)]), (3, .rw [(.int .i64 a10)]), (2, .rw [(.int .i64 a8)]), (1, .rw [(VS 1 (a7.map e_L1I))]), (0, .rw [(.int .i64 a0), (.int .i64 a1), (VS 4 (a2.map e_SIII)), (.int .i64 a3), (.int .i64 a4), (.int .i64 a5), (VS 3 (a6.map e_III))])], false⟩⟩) h3 ?_ (fun _ => nl rfl) ?_
      · exact .sub' (nl rfl) (.cons rfl (.cons rfl (.cons rfl (.cons rfl (.cons rfl (.cons rfl .nil))))))
      · intro e6 x7 h8;refine pwa ?_;(conv=>whnf);refine pw_seq ?_;refine pw_cond ?_;(conv=>whnf);refine pbr_oite h8 (fun g9 h8 => ?_) (fun g9 h8 => ?_)
        · (conv=>whnf);refine pw_skip ?_;(conv=>whnf);refine pw_seq ?_;refine pw_block ?_;refine pwa ?_;(conv=>whnf);refine pwa ?_;(conv=>whnf);obtain ⟨y10, h11, h8⟩ := obnd_some h8;refine (c242 h11).go ?_;(conv=>whnf);refine pwa ?_;(conv=>whnf);obtain ⟨y12, h13, h8⟩ := obnd_some h8;refine (c243 h13).go ?_;(conv=>whnf);refine pbr_oite h8 (fun g14 h8 => ?_) (fun g14 h8 => ?_)
          · (conv=>whnf);(iterate 3 refine pbr_t g14 ?_;(conv=>whnf));refine pcallv_yield ir361a0 ir361b0 rfl rfl ra361_0 rb361_0 ⟨_, _, _, _, rfl⟩ ?_;(conv=>whnf);refine pwa ?_;(conv=>whnf);refine pw_ops ?_;refine po_all ?_;(conv=>whnf);refine pw_block ?_;refine pw_sd ?_;(conv=>whnf);refine pbr_ogrd h8 (fun g15 h8 => ?_);(conv=>whnf);refine nth_o (l := a7) h8 (fun x16 _ h8 => ?_);(conv=>whnf);refine ⟨?_, trivial⟩;(conv=>whnf);obtain ⟨y17, h18, h8⟩ := obnd_some h8;refine (c239 h18).go ?_;(conv=>whnf);refine ⟨by repeat (first | exact trivial | refine And.intro rfl ?_), ?_⟩
            (conv=>whnf);refine ⟨?_, trivial⟩;(conv=>whnf);obtain ⟨y19, h20, h8⟩ := obnd_some h8;refine (c234 h20).go ?_;(conv=>whnf);refine ⟨by repeat (first | exact trivial | refine And.intro rfl ?_), ?_⟩;(conv=>whnf);refine pbr_ogrd h8 (fun g21 h8 => ?_);(conv=>whnf);refine nth_o (l := x16) h8 (fun x22 _ h8 => ?_);(conv=>whnf);refine pw_cond ?_;(conv=>whnf);refine pbr_oite h8 (fun g23 h8 => ?_) (fun g23 h8 => ?_)
            · (conv=>whnf);refine pwa ?_;(conv=>whnf);refine pw_ret ?_;(conv=>whnf);refine pbr_t g14 ?_;(conv=>whnf);refine pbr_t g14 ?_;(conv=>whnf);refine pw_cond ?_;(conv=>whnf);refine pw_ret ?_;(conv=>whnf);cases h8;refine ⟨_, rfl, ?_⟩; rintro rfl;(conv=>whnf);obtain rfl := h5 _ rfl; rfl
            · (conv=>whnf);refine pw_skip ?_;(conv=>whnf);refine pbr_t g14 ?_;(conv=>whnf);refine pbr_t g14 ?_;(conv=>whnf);refine pw_cond ?_;(conv=>whnf);refine pw_skip ?_;(conv=>whnf);refine pw_ops ?_;refine po_all ?_;(conv=>whnf);cases h8;refine ⟨_, rfl, ?_⟩;exact .sub' (nl rfl) (.cons rfl (.cons rfl (.cons rfl (.cons rfl (.cons rfl (.cons rfl .nil))))))
          · (conv=>whnf);(iterate 5 refine pbr_f g14 ?_;(conv=>whnf));refine pw_cond ?_;(conv=>whnf);refine pw_skip ?_;(conv=>whnf);refine pw_ops ?_;refine po_all ?_;(conv=>whnf);cases h8;refine ⟨_, rfl, ?_⟩;exact .sub' (nl rfl) (.cons rfl (.cons rfl (.cons rfl (.cons rfl (.cons rfl (.cons rfl .nil))))))
        · (conv=>whnf);refine pw_exit ?_;(conv=>whnf);cases h8;refine ⟨_, rfl, ?_⟩; rintro rfl;(conv=>whnf);exact ⟨_, rfl, ⟨(.cons rfl .nil), rfl⟩⟩
    · intro r26 hr; have H := h4 _ hr;refine pwa ?_;(conv=>whnf);refine pw_ret ?_;(conv=>whnf);cases H; rfl

/-- guidevane/dispatch.CheckBound -/
noncomputable def f331 [LO]  (a0 : Int) (a1 : Int) (a2 : List (ByteArray × Int × Int × Int)) (a3 : Int) (a4 : Int) (a5 : Int) (a6 : List (Int × Int × Int)) (a7 : List ((List Int))) : Option (Int × Int) :=
  obnd (f219 a0 a1 a2 a3 a4 a5 a6) fun (y1 : Int × Int × (List (ByteArray × Int × Int × Int)) × Int × Int × Int × (List (Int × Int × Int)) × Int) =>
  oite ((!(ieq y1.2.2.2.2.2.2.2 (0 : Int)))) (
   some ((0 : Int), y1.2.2.2.2.2.2.2)
    ) (
   obnd (f234 y1.1 y1.2.1 y1.2.2.1 y1.2.2.2.1 y1.2.2.2.2.1 y1.2.2.2.2.2.1 y1.2.2.2.2.2.2.1 y1.2.1 ((IntKind.i64.wrap (((y1.2.2.1.map e_SIII).length : Int) - (1 : Int))))) fun (y4 : Int) =>
   obnd (f357 (fun (z0 : List Int) => f358 z0 (IntKind.i64.wrap (y4 + (1 : Int)))) a7) fun (y6 : Bool) =>
   obnd (f359 a7) fun (y8 : (List Int)) =>
   obnd (f80 (fun (z0 : Int) => f360 z0) y8) fun (y10 : Bool) =>
   obnd (
    oite ((ieq ((a7.map e_L1I).length : Int) (IntKind.i64.wrap (((a6.map e_III).length : Int) + (1 : Int))))) (
     some (!y6)
      ) (
     some false
      )
     ) fun (r12 : Bool) =>
   obnd (f214 r12 (10 : Int)) fun (y15 : Int) =>
   obnd (f214 (!y10) (2 : Int)) fun (y17 : Int) =>
   obnd (f213 ([y15, y17] : List Int)) fun (y19 : Int) =>
   oite ((!(ieq y19 (0 : Int)))) (
    some ((0 : Int), y19)
     ) (
    obndS (
     oloop (τ := Int) (ρ := (Unit) ⊕ (Int × Int)) (fun e26 =>
      oite ((ilt e26 ((a7.map e_L1I).length : Int))) (
       obndS (
        ogrd ((ile 0 e26)) (
        obnd (a7[e26.toNat]?) fun (x35 : (List Int)) =>
        oloop (τ := Int) (ρ := (Unit) ⊕ ((Int) ⊕ ((Unit) ⊕ (Int × Int)))) (fun e36 =>
         oite ((ile e36 y1.2.1)) (
          obndS (
           oloop (τ := Int) (ρ := (Unit) ⊕ ((Int) ⊕ ((Unit) ⊕ ((Int) ⊕ ((Unit) ⊕ (Int × Int)))))) (fun e44 =>
            oite ((ilt e44 ((y1.2.2.1.map e_SIII).length : Int))) (
             obnd (f234 y1.1 y1.2.1 y1.2.2.1 y1.2.2.2.1 y1.2.2.2.2.1 y1.2.2.2.2.2.1 y1.2.2.2.2.2.2.1 e36 e44) fun (y48 : Int) =>
             ogrd ((ile 0 y48)) (
             obnd (x35[y48.toNat]?) fun (x51 : Int) =>
             obnd (f361 y1.1 y1.2.1 y1.2.2.1 y1.2.2.2.1 y1.2.2.2.2.1 y1.2.2.2.2.2.1 y1.2.2.2.2.2.2.1 a7 e26 e36 e44 x51) fun (y52 : Bool) =>
             oite (!y52) (
              some (.inr (.inr (.inr (.inr (.inr (.inr (((0 : Int), (19 : Int)))))))))
               ) (
              some (.inl (IntKind.i64.wrap (e44 + (1 : Int))))
               )
             )
              ) (
             some (.inr (.inl ()))
              )
             ) (0 : Int)
            ) fun (_ : Unit) =>
          some (.inl (IntKind.i64.wrap (e36 + (1 : Int))))
           ) (
          some (.inr (.inl ()))
           )
          ) y1.1
        )
         ) fun (_ : Unit) =>
       some (.inl (IntKind.i64.wrap (e26 + (1 : Int))))
        ) (
       some (.inr (.inl ()))
        )
       ) (0 : Int)
      ) fun (_ : Unit) =>
    obnd (a7[(0 : Int).toNat]?) fun (x64 : (List Int)) =>
    obnd (f234 y1.1 y1.2.1 y1.2.2.1 y1.2.2.2.1 y1.2.2.2.2.1 y1.2.2.2.2.2.1 y1.2.2.2.2.2.2.1 a3 a4) fun (y65 : Int) =>
    ogrd ((ile 0 y65)) (
    obnd (x64[y65.toNat]?) fun (x68 : Int) =>
    some (x68, (0 : Int))
    )
     )
    )
set_option maxHeartbeats 1000000 in
theorem c331 [LO]  {a0 : Int} {a1 : Int} {a2 : List (ByteArray × Int × Int × Int)} {a3 : Int} {a4 : Int} {a5 : Int} {a6 : List (Int × Int × Int)} {a7 : List ((List Int))} {x : Int × Int} (H : f331 a0 a1 a2 a3 a4 a5 a6 a7 = some x) : ICalls E 331 [(.agg ⟨[(.int .i64 a0), (.int .i64 a1), (VS 4 (a2.map e_SIII))]⟩), (.agg ⟨[(.int .i64 a3), (.int .i64 a4), (.int .i64 a5), (VS 3 (a6.map e_III))]⟩), (VS 1 (a7.map e_L1I))] AHeap.none fun v _ => v = (.tuple ⟨[(.int .i64 x.1), (.int .i64 x.2)]⟩) := by
  refine icalls_fn (pfnw ?_); unfold f331 at H;(conv=>whnf);refine pwa ?_;(conv=>whnf);refine pwa ?_;(conv=>whnf);obtain ⟨y1, h2, H⟩ := obnd_some H;refine (c219 h2).go ?_;(conv=>whnf);refine pw_seq ?_;refine pwa ?_;(conv=>whnf);refine pw_cond ?_;(conv=>whnf);refine pbr_oite H (fun g3 H => ?_) (fun g3 H => ?_)
  · (conv=>whnf);refine pwa ?_;(conv=>whnf);refine pw_ret ?_;(conv=>whnf);cases H; rfl
  · (conv=>whnf);refine pw_skip ?_;(conv=>whnf);refine pwa ?_;(conv=>whnf);obtain ⟨y4, h5, H⟩ := obnd_some H;refine (c234 h5).go ?_;(conv=>whnf);refine pwa ?_;(conv=>whnf);obtain ⟨y6, h7, H⟩ := obnd_some H;refine ICalls.goD (c357 (fun _ _ h => (c358 h)) h7) (.cons .cl (.cons (.func .nil (.cons (.ptr rfl (by intro v hv; simp only [List.mem_cons, List.not_mem_nil, or_false] at hv; rcases hv with rfl <;> rfl)) .nil)) .nil)) rfl ?_;(conv=>whnf);refine pwa ?_;(conv=>whnf);obtain ⟨y8, h9, H⟩ := obnd_some H;refine (c359 h9).go ?_;(conv=>whnf);obtain ⟨y10, h11, H⟩ := obnd_some H
    refine (c80 (fun _ _ h => (c360 h).asV) h11).go ?_;(conv=>whnf);refine pw_so ?_;refine po_ops 8 ?_;(conv=>whnf);obtain ⟨r12, h13, H⟩ := obnd_some H;refine po_seg (τ := Bool) 3 (fun e => ⟨[(2, (VS 1 (a7.map e_L1I))), (4, (.pointer (some ⟨1, 0, none⟩))), (8, (.pointer (some ⟨2, 0, none⟩))), (12, (.bool y10)), (53, (.bool e))], ⟨4, [(3, .rw [(.int .i64 (IntKind.i64.wrap (y4 + (1 : Int))))]), (2, .rw [(.int .i64 y1.1), (.int .i64 y1.2.1), (VS 4 (y1.2.2.1.map e_SIII)), (.int .i64 y1.2.2.2.1), (.int .i64 y1.2.2.2.2.1), (.int .i64 y1.2.2.2.2.2.1), (VS 3 (y1.2.2.2.2.2.2.1.map e_III))]), (1, .rw [(.int .i64 a3), (.int .i64 a4), (.int .i64 a5), (VS 3 (a6.map e_III))]), (0, .rw [(.int .i64 a0), (.int .i64 a1), (VS 4 (a2.map e_SIII))])], false⟩⟩) r12 ?_ ?_
    · refine po_all ?_;(conv=>whnf);refine pbr_oite h13 (fun g14 h13 => ?_) (fun g14 h13 => ?_)
      · (conv=>whnf);refine pbr_t g14 ?_;(conv=>whnf);refine pbr_t g14 ?_;(conv=>whnf);cases h13;exact ⟨(.cons rfl (.cons rfl (.cons rfl (.cons rfl (.cons rfl .nil))))), rfl⟩
      · (conv=>whnf);refine pbr_f g14 ?_;(conv=>whnf);refine pbr_f g14 ?_;(conv=>whnf);cases h13;exact ⟨(.cons rfl (.cons rfl (.cons rfl (.cons rfl (.cons rfl .nil))))), rfl⟩
    · refine po_all ?_;(conv=>whnf);obtain ⟨y15, h16, H⟩ := obnd_some H;refine (c214 h16).go ?_;(conv=>whnf);obtain ⟨y17, h18, H⟩ := obnd_some H;refine (c214 h18).go ?_;(conv=>whnf);obtain ⟨y19, h20, H⟩ := obnd_some H;refine ICalls.goW (c213 h20) (.cons (.vt _ _ _) .nil) ?_;(conv=>whnf);refine pw_seq ?_;refine pwa ?_;(conv=>whnf);refine pw_cond ?_;(conv=>whnf);refine pbr_oite H (fun g21 H => ?_) (fun g21 H => ?_)
      · (conv=>whnf);refine pwa ?_;(conv=>whnf);refine pw_ret ?_;(conv=>whnf);cases H; rfl
      · (conv=>whnf);refine pw_skip ?_;(conv=>whnf);obtain ⟨r22, h23, h24, h25⟩ := obndS_some H;refine pw_joinS (ρ := Unit) (fun e => ⟨[(2, (VS 1 (a7.map e_L1I))), (4, (.pointer (some ⟨1, 0, none⟩))), (8, (.pointer (some ⟨2, 0, none⟩)))], ⟨5, [(4, .tail 2 1), (3, .rw [(.int .i64 (IntKind.i64.wrap (y4 + (1 : Int))))]), (2, .rw [(.int .i64 y1.1), (.int .i64 y1.2.1), (VS 4 (y1.2.2.1.map e_SIII)), (.int .i64 y1.2.2.2.1), (.int .i64 y1.2.2.2.2.1), (.int .i64 y1.2.2.2.2.2.1), (VS 3 (y1.2.2.2.2.2.2.1.map e_III))]), (1, .rw [(.int .i64 a3), (.int .i64 a4), (.int .i64 a5), (VS 3 (a6.map e_III))]), (0, .rw [(.int .i64 a0), (.int .i64 a1), (VS 4 (a2.map e_SIII))])], false⟩⟩) r22 ?_ ?_
        · refine pwa ?_;(conv=>whnf);refine pw_block ?_;refine pw_loop (τ := Int) (fun e => ⟨[(2, (VS 1 (a7.map e_L1I))), (4, (.pointer (some ⟨1, 0, none⟩))), (8, (.pointer (some ⟨2, 0, none⟩))), (63, (VS 1 (a7.map e_L1I))), (64, (.int .i64 ((a7.map e_L1I).length : Int))), (65, (.int .i64 e))], ⟨5, [(4, .tail 2 1), (3, .rw [(.int .i64 (IntKind.i64.wrap (y4 + (1 : Int))))]), (2, .rw [(.int .i64 y1.1), (.int .i64 y1.2.1), (VS 4 (y1.2.2.1.map e_SIII)), (.int .i64 y1.2.2.2.1), (.int .i64 y1.2.2.2.2.1), (.int .i64 y1.2.2.2.2.2.1), (VS 3 (y1.2.2.2.2.2.2.1.map e_III))]), (1, .rw [(.int .i64 a3), (.int .i64 a4), (.int .i64 a5), (VS 3 (a6.map e_III))]), (0, .rw [(.int .i64 a0), (.int .i64 a1), (VS 4 (a2.map e_SIII))])], false⟩⟩) h23 ?_ (fun _ => nl rfl) ?_
          · exact .sub' (nl rfl) (.cons rfl (.cons rfl (.cons rfl (.cons rfl (.cons rfl (.cons rfl .nil))))))
          · intro e26 x27 h28;refine pwa ?_;(conv=>whnf);refine pw_seq ?_;refine pw_cond ?_;(conv=>whnf);refine pbr_oite h28 (fun g29 h28 => ?_) (fun g29 h28 => ?_)
            · (conv=>whnf);refine pw_skip ?_;(conv=>whnf);obtain ⟨r30, h31, h32, h33⟩ := obndS_some h28;refine pw_joinS (ρ := Unit) (fun e => ⟨[(2, (VS 1 (a7.map e_L1I))), (4, (.pointer (some ⟨1, 0, none⟩))), (8, (.pointer (some ⟨2, 0, none⟩))), (63, (VS 1 (a7.map e_L1I))), (64, (.int .i64 ((a7.map e_L1I).length : Int))), (65, (.int .i64 e26))], ⟨5, [(4, .tail 2 1), (3, .rw [(.int .i64 (IntKind.i64.wrap (y4 + (1 : Int))))]), (2, .rw [(.int .i64 y1.1), (.int .i64 y1.2.1), (VS 4 (y1.2.2.1.map e_SIII)), (.int .i64 y1.2.2.2.1), (.int .i64 y1.2.2.2.2.1), (.int .i64 y1.2.2.2.2.2.1), (VS 3 (y1.2.2.2.2.2.2.1.map e_III))]), (1, .rw [(.int .i64 a3), (.int .i64 a4), (.int .i64 a5), (VS 3 (a6.map e_III))]), (0, .rw [(.int .i64 a0), (.int .i64 a1), (VS 4 (a2.map e_SIII))])], false⟩⟩) r30 ?_ ?_
              · refine pw_block ?_;refine pwa ?_;(conv=>whnf);refine pbr_ogrd h31 (fun g34 h31 => ?_);(conv=>whnf);refine nth_o (l := a7) h31 (fun x35 _ h31 => ?_);(conv=>whnf);refine pwa ?_;(conv=>whnf);refine pw_block ?_;refine pw_loop (τ := Int) (fun e => ⟨[(2, (VS 1 (a7.map e_L1I))), (4, (.pointer (some ⟨1, 0, none⟩))), (8, (.pointer (some ⟨2, 0, none⟩))), (13, (.int .i64 e26)), (14, (VS 1 (x35.map eI))), (15, (.int .i64 e)), (63, (VS 1 (a7.map e_L1I))), (64, (.int .i64 ((a7.map e_L1I).length : Int))), (65, (.int .i64 e26))], ⟨5, [(4, .tail 2 1), (3, .rw [(.int .i64 (IntKind.i64.wrap (y4 + (1 : Int))))]), (2, .rw [(.int .i64 y1.1), (.int .i64 y1.2.1), (VS 4 (y1.2.2.1.map e_SIII)), (.int .i64 y1.2.2.2.1), (.int .i64 y1.2.2.2.2.1), (.int .i64 y1.2.2.2.2.2.1), (VS 3 (y1.2.2.2.2.2.2.1.map e_III))]), (1, .rw [(.int .i64 a3), (.int .i64 a4), (.int .i64 a5), (VS 3 (a6.map e_III))]), (0, .rw [(.int .i64 a0), (.int .i64 a1), (VS 4 (a2.map e_SIII))])], false⟩⟩) h31 ?_ (fun _ => nl rfl) ?_
                · exact .sub' (nl rfl) (.cons rfl (.cons rfl (.cons rfl (.cons rfl (.cons rfl (.cons rfl (.cons rfl (.cons rfl (.cons rfl .nil)))))))))
                · intro e36 x37 h38;refine pw_seq ?_;refine pwa ?_;(conv=>whnf);refine pw_cond ?_;(conv=>whnf);refine pbr_oite h38 (fun g39 h38 => ?_) (fun g39 h38 => ?_)
                  · (conv=>whnf);refine pw_skip ?_;(conv=>whnf);obtain ⟨r40, h41, h42, h43⟩ := obndS_some h38;refine pw_joinS (ρ := Unit) (fun e => ⟨[(2, (VS 1 (a7.map e_L1I))), (4, (.pointer (some ⟨1, 0, none⟩))), (8, (.pointer (some ⟨2, 0, none⟩))), (13, (.int .i64 e26)), (14, (VS 1 (x35.map eI))), (15, (.int .i64 e36)), (63, (VS 1 (a7.map e_L1I))), (64, (.int .i64 ((a7.map e_L1I).length : Int))), (65, (.int .i64 e26))], ⟨5, [(4, .tail 2 1), (3, .rw [(.int .i64 (IntKind.i64.wrap (y4 + (1 : Int))))]), (2, .rw [(.int .i64 y1.1), (.int .i64 y1.2.1), (VS 4 (y1.2.2.1.map e_SIII)), (.int .i64 y1.2.2.2.1), (.int .i64 y1.2.2.2.2.1), (.int .i64 y1.2.2.2.2.2.1), (VS 3 (y1.2.2.2.2.2.2.1.map e_III))]), (1, .rw [(.int .i64 a3), (.int .i64 a4), (.int .i64 a5), (VS 3 (a6.map e_III))]), (0, .rw [(.int .i64 a0), (.int .i64 a1), (VS 4 (a2.map e_SIII))])], false⟩⟩) r40 ?_ ?_
                    · refine pw_block ?_;refine pwa ?_;(conv=>whnf);refine pw_block ?_;refine pw_loop (τ := Int) (fun e => ⟨[(2, (VS 1 (a7.map e_L1I))), (4, (.pointer (some ⟨1, 0, none⟩))), (8, (.pointer (some ⟨2, 0, none⟩))), (13, (.int .i64 e26)), (14, (VS 1 (x35.map eI))), (15, (.int .i64 e36)), (63, (VS 1 (a7.map e_L1I))), (64, (.int .i64 ((a7.map e_L1I).length : Int))), (65, (.int .i64 e26)), (83, (.int .i64 ((y1.2.2.1.map e_SIII).length : Int))), (84, (.int .i64 e))], ⟨5, [(4, .tail 2 1), (3, .rw [(.int .i64 (IntKind.i64.wrap (y4 + (1 : Int))))]), (2, .rw [(.int .i64 y1.1), (.int .i64 y1.2.1), (VS 4 (y1.2.2.1.map e_SIII)), (.int .i64 y1.2.2.2.1), (.int .i64 y1.2.2.2.2.1), (.int .i64 y1.2.2.2.2.2.1), (VS 3 (y1.2.2.2.2.2.2.1.map e_III))]), (1, .rw [(.int .i64 a3), (.int .i64 a4), (.int .i64 a5), (VS 3 (a6.map e_III))]), (0, .rw [(.int .i64 a0), (.int .i64 a1), (VS 4 (a2.map e_SIII))])], false⟩⟩) h41 ?_ (fun _ => nl rfl) ?_
                      · exact .sub' (nl rfl) (.cons rfl (.cons rfl (.cons rfl (.cons rfl (.cons rfl (.cons rfl (.cons rfl (.cons rfl (.cons rfl (.cons rfl (.cons rfl .nil)))))))))))
                      · intro e44 x45 h46;refine pwa ?_;(conv=>whnf);refine pw_seq ?_;refine pw_cond ?_;(conv=>whnf);refine pbr_oite h46 (fun g47 h46 => ?_) (fun g47 h46 => ?_)
                        · (conv=>whnf);refine pw_skip ?_;(conv=>whnf);refine pw_seq ?_;refine pw_block ?_;refine pwa ?_;(conv=>whnf);refine pw_sd ?_;(conv=>whnf);refine ⟨?_, trivial⟩;(conv=>whnf);obtain ⟨y48, h49, h46⟩ := obnd_some h46;refine (c234 h49).go ?_;(conv=>whnf);refine ⟨by repeat (first | exact trivial | refine And.intro rfl ?_), ?_⟩;(conv=>whnf);refine pbr_ogrd h46 (fun g50 h46 => ?_);(conv=>whnf);refine nth_o (l := x35) h46 (fun x51 _ h46 => ?_);(conv=>whnf);refine ⟨?_, trivial⟩;(conv=>whnf);obtain ⟨y52, h53, h46⟩ := obnd_some h46;refine (c361 h53).go ?_;(conv=>whnf);refine ⟨by repeat (first | exact trivial | refine And.intro rfl ?_), ?_⟩
                          (conv=>whnf);refine pw_cond ?_;(conv=>whnf);refine pbr_oite h46 (fun g54 h46 => ?_) (fun g54 h46 => ?_)
                          · (conv=>whnf);refine pwa ?_;(conv=>whnf);refine pw_ret ?_;(conv=>whnf);cases h46;refine ⟨_, rfl, ?_⟩; rintro rfl;(conv=>whnf);obtain rfl := h43 _ rfl;refine ⟨_, rfl, ?_⟩; rintro rfl;(conv=>whnf);obtain rfl := h33 _ rfl;refine ⟨_, rfl, ?_⟩; rintro rfl;(conv=>whnf);obtain rfl := h25 _ rfl; rfl
                          · (conv=>whnf);refine pw_skip ?_;(conv=>whnf);refine pw_ops ?_;refine po_all ?_;(conv=>whnf);cases h46;refine ⟨_, rfl, ?_⟩;exact .sub' (nl rfl) (.cons rfl (.cons rfl (.cons rfl (.cons rfl (.cons rfl (.cons rfl (.cons rfl (.cons rfl (.cons rfl (.cons rfl (.cons rfl .nil)))))))))))
                        · (conv=>whnf);refine pw_exit ?_;(conv=>whnf);cases h46;refine ⟨_, rfl, ?_⟩; rintro rfl;(conv=>whnf);exact ⟨_, rfl, ⟨(.cons rfl (.cons rfl (.cons rfl (.cons rfl (.cons rfl (.cons rfl (.cons rfl (.cons rfl (.cons rfl .nil))))))))), rfl⟩⟩
                    · intro r59 hr; have h38 := h42 _ hr;refine pw_ops ?_;refine po_all ?_;(conv=>whnf);cases h38;refine ⟨_, rfl, ?_⟩;exact .sub' (nl rfl) (.cons rfl (.cons rfl (.cons rfl (.cons rfl (.cons rfl (.cons rfl (.cons rfl (.cons rfl (.cons rfl .nil)))))))))
                  · (conv=>whnf);refine pw_exit ?_;(conv=>whnf);cases h38;refine ⟨_, rfl, ?_⟩; rintro rfl;(conv=>whnf);exact ⟨_, rfl, ⟨(.cons rfl (.cons rfl (.cons rfl (.cons rfl (.cons rfl (.cons rfl .nil)))))), rfl⟩⟩
              · intro r61 hr; have h28 := h32 _ hr;refine pw_ops ?_;refine po_all ?_;(conv=>whnf);cases h28;refine ⟨_, rfl, ?_⟩;exact .sub' (nl rfl) (.cons rfl (.cons rfl (.cons rfl (.cons rfl (.cons rfl (.cons rfl .nil))))))
            · (conv=>whnf);refine pw_exit ?_;(conv=>whnf);cases h28;refine ⟨_, rfl, ?_⟩; rintro rfl;(conv=>whnf);exact ⟨_, rfl, ⟨(.cons rfl (.cons rfl (.cons rfl .nil))), rfl⟩⟩
        · intro r63 hr; have H := h24 _ hr;refine pw_sd ?_;(conv=>whnf);refine nth_o (l := a7) H (fun x64 _ H => ?_);(conv=>whnf);refine ⟨?_, trivial⟩;(conv=>whnf);obtain ⟨y65, h66, H⟩ := obnd_some H;refine (c234 h66).go ?_;(conv=>whnf);refine ⟨by repeat (first | exact trivial | refine And.intro rfl ?_), ?_⟩;(conv=>whnf);refine pbr_ogrd H (fun g67 H => ?_);(conv=>whnf);refine nth_o (l := x64) H (fun x68 _ H => ?_);(conv=>whnf);refine pw_ret ?_;(conv=>whnf);cases H; rfl

/-- guidevane/guidevanebase.Mod -/
noncomputable def f346  (a0 : Int) (a1 : Int) : Option Int :=
  ogrd (!((ieq a1 0))) (
  oite ((ilt (a0.tmod a1) (0 : Int))) (
   some (IntKind.i64.wrap ((a0.tmod a1) + a1))
    ) (
   some (a0.tmod a1)
    )
  )
set_option maxHeartbeats 1000000 in
theorem c346  {a0 : Int} {a1 : Int} {x : Int} (H : f346 a0 a1 = some x) : ICalls E 346 [(.int .i64 a0), (.int .i64 a1)] AHeap.none fun v _ => v = (.int .i64 x) := by
  refine icalls_fn (pfnw ?_); unfold f346 at H;(conv=>whnf);refine pwa ?_;(conv=>whnf);refine pwa ?_;(conv=>whnf);refine pbr_ogrdn H (fun g1 H => ?_);(conv=>whnf);refine pw_seq ?_;refine pwa ?_;(conv=>whnf);refine pw_cond ?_;(conv=>whnf);refine pbr_oite H (fun g2 H => ?_) (fun g2 H => ?_)
  · (conv=>whnf);refine pw_ops ?_;refine po_all ?_;(conv=>whnf);refine pwa ?_;(conv=>whnf);refine pw_ret ?_;(conv=>whnf);cases H; rfl
  · (conv=>whnf);refine pw_skip ?_;(conv=>whnf);refine pwa ?_;(conv=>whnf);refine pw_ret ?_;(conv=>whnf);cases H; rfl

/-- guidevane/guidevanelaw08.DispatchNoMore -/
noncomputable def l306_1 [LO] (a8 : List ((List Int))) (e29 : Int) : Option ((Int) ⊕ ((Unit) ⊕ Bool)) :=
  oite ((ilt e29 ((a8.map e_L1I).length : Int))) (
   ogrd ((ile 0 e29)) (
   obnd (a8[e29.toNat]?) fun (x34 : (List Int)) =>
   oite ((ilt (210 : Int) ((x34.map eI).length : Int))) (
    some (.inr (.inr (true)))
     ) (
    some (.inl (IntKind.i64.wrap (e29 + (1 : Int))))
     )
   )
    ) (
   some (.inr (.inl ()))
    )
noncomputable def f306 [LO]  (a0 : Int) (a1 : Int) (a2 : List (ByteArray × Int × Int × Int)) (a3 : Int) (a4 : Int) (a5 : Int) (a6 : List (Int × Int × Int)) (a7 : List Int) (a8 : List ((List Int))) (a9 : Int) : Option Bool :=
  obnd (f198) fun (y1 : Bool) =>
  oite (!y1) (
   some false
    ) (
   obnd (
    obnd (f307 a0 a1 a2) fun (y8 : Bool) =>
    obnd (
     oite (!y8) (
      some true
       ) (
      obnd (f308 a3 a4 a5 a6) fun (y13 : Bool) =>
      some (!y13)
       )
      ) fun (r10 : Bool) =>
    obnd (
     oite r10 (
      some true
       ) (
      obnd (f311 a0 a1 a2 a3 a4 a5 a6) fun (y18 : Int) =>
      some (!(ieq y18 (0 : Int)))
       )
      ) fun (r15 : Bool) =>
    obnd (
     oite r15 (
      some true
       ) (
      some (ilt (12 : Int) ((a7.map eI).length : Int))
       )
      ) fun (r20 : Bool) =>
    oite r20 (
     some true
      ) (
     some (ilt (13 : Int) ((a8.map e_L1I).length : Int))
      )
     ) fun (r4 : Bool) =>
   oite r4 (
    some true
     ) (
    obndS (
     oloop (τ := Int) (ρ := (Unit) ⊕ Bool) (l306_1 a8) (0 : Int)
      ) fun (_ : Unit) =>
    obnd (f309 a0 a1 a2) fun (y39 : Int × Int × (List (ByteArray × Int × Int × Int))) =>
    obnd (f310 a3 a4 a5 a6) fun (y41 : Int × Int × Int × (List (Int × Int × Int))) =>
    obnd (f206 y39.1 y39.2.1 y39.2.2 y41.1 y41.2.1 y41.2.2.1 y41.2.2.2) fun (y43 : (List Int) × Int × Int) =>
    obnd (f309 a0 a1 a2) fun (y45 : Int × Int × (List (ByteArray × Int × Int × Int))) =>
    obnd (f310 a3 a4 a5 a6) fun (y47 : Int × Int × Int × (List (Int × Int × Int))) =>
    obnd (f345 y45.1 y45.2.1 y45.2.2 y47.1 y47.2.1 y47.2.2.1 y47.2.2.2) fun (y49 : (List ((List Int))) × Int) =>
    obnd (
     oite ((!(ieq y43.2.2 y49.2))) (
      some true
       ) (
      obnd (
       oite ((!(ieq y43.2.2 (0 : Int)))) (
        some (!(ieq y43.2.2 (12 : Int)))
         ) (
        some false
         )
        ) fun (r56 : Bool) =>
      some r56
       )
      ) fun (r51 : Bool) =>
    oite r51 (
     some false
      ) (
     obnd (f309 a0 a1 a2) fun (y60 : Int × Int × (List (ByteArray × Int × Int × Int))) =>
     obnd (f310 a3 a4 a5 a6) fun (y62 : Int × Int × Int × (List (Int × Int × Int))) =>
     obnd (f38 a7) fun (y64 : (List Int)) =>
     obnd (f323 y60.1 y60.2.1 y60.2.2 y62.1 y62.2.1 y62.2.2.1 y62.2.2.2 y64) fun (y66 : Int × Int) =>
     oite ((ieq y43.2.2 (12 : Int))) (
      obnd (
       oite ((!(ieq y66.2 (0 : Int)))) (
        some (ieq (IntKind.i64.wrap (((y43.1.map eI).length : Int) + ((y49.1.map e_L1I).length : Int))) (0 : Int))
         ) (
        some false
         )
        ) fun (r69 : Bool) =>
      obnd (
       oite r69 (
        some (ieq y43.2.1 (0 : Int))
         ) (
        some false
         )
        ) fun (r72 : Bool) =>
      some r72
       ) (
      obnd (f309 a0 a1 a2) fun (y75 : Int × Int × (List (ByteArray × Int × Int × Int))) =>
      obnd (f310 a3 a4 a5 a6) fun (y77 : Int × Int × Int × (List (Int × Int × Int))) =>
      obnd (f38 y43.1) fun (y79 : (List Int)) =>
      obnd (f323 y75.1 y75.2.1 y75.2.2 y77.1 y77.2.1 y77.2.2.1 y77.2.2.2 y79) fun (y81 : Int × Int) =>
      obnd (f309 a0 a1 a2) fun (y83 : Int × Int × (List (ByteArray × Int × Int × Int))) =>
      obnd (f310 a3 a4 a5 a6) fun (y85 : Int × Int × Int × (List (Int × Int × Int))) =>
      obnd (f332 y49.1) fun (y87 : (List ((List Int)))) =>
      obnd (f331 y83.1 y83.2.1 y83.2.2 y85.1 y85.2.1 y85.2.2.1 y85.2.2.2 y87) fun (y89 : Int × Int) =>
      obnd (
       obnd (
        oite ((!(ieq y81.2 (0 : Int)))) (
         some true
          ) (
         some (!(ieq y81.1 y43.2.1))
          )
         ) fun (r95 : Bool) =>
       obnd (
        oite r95 (
         some true
          ) (
         some (!(ieq y89.2 (0 : Int)))
          )
         ) fun (r98 : Bool) =>
       obnd (
        oite r98 (
         some true
          ) (
         some (!(ieq y89.1 y43.2.1))
          )
         ) fun (r101 : Bool) =>
       oite r101 (
        some true
         ) (
        obnd (
         oite ((ieq y66.2 (0 : Int))) (
          some (ilt y43.2.1 y66.1)
           ) (
          some false
           )
          ) fun (r105 : Bool) =>
        some r105
         )
        ) fun (r91 : Bool) =>
      oite r91 (
       some false
        ) (
       obnd (f309 a0 a1 a2) fun (y109 : Int × Int × (List (ByteArray × Int × Int × Int))) =>
       obnd (f310 a3 a4 a5 a6) fun (y111 : Int × Int × Int × (List (Int × Int × Int))) =>
       obnd (f332 a8) fun (y113 : (List ((List Int)))) =>
       obnd (f331 y109.1 y109.2.1 y109.2.2 y111.1 y111.2.1 y111.2.2.1 y111.2.2.2 y113) fun (y115 : Int × Int) =>
       obnd (
        oite ((ieq y115.2 (0 : Int))) (
         obnd (
          oite ((ilt y115.1 y43.2.1)) (
           some true
            ) (
           oite ((ieq y66.2 (0 : Int))) (
            some (ilt y115.1 y66.1)
             ) (
            some false
             )
            )
           ) fun (r122 : Bool) =>
         some r122
          ) (
         some false
          )
         ) fun (r117 : Bool) =>
       oite r117 (
        some false
         ) (
        obnd (f346 a9 (1000 : Int)) fun (y127 : Int) =>
        obnd (
         obnd (f309 a0 a1 a2) fun (y133 : Int × Int × (List (ByteArray × Int × Int × Int))) =>
         obnd (f310 a3 a4 a5 a6) fun (y135 : Int × Int × Int × (List (Int × Int × Int))) =>
         some (y133.1, y133.2.1, y133.2.2, y135.1, y135.2.1, y135.2.2.1, y135.2.2.2)
          ) fun (r129 : Int × Int × (List (ByteArray × Int × Int × Int)) × Int × Int × Int × (List (Int × Int × Int))) =>
        obnd (f347 (IntKind.i64.wrap (a0 + y127)) (IntKind.i64.wrap (a1 + y127)) r129.2.2.1) fun (y137 : Int) =>
        oite ((!(ieq y137 (0 : Int)))) (
         some true
          ) (
         obnd (f206 (IntKind.i64.wrap (a0 + y127)) (IntKind.i64.wrap (a1 + y127)) r129.2.2.1 (IntKind.i64.wrap (a3 + y127)) r129.2.2.2.2.1 r129.2.2.2.2.2.1 r129.2.2.2.2.2.2) fun (y140 : (List Int) × Int × Int) =>
         obnd (
          oite ((ieq y140.2.2 (0 : Int))) (
           obnd (f26 y140.1 y43.1) fun (y145 : Bool) =>
           some y145
            ) (
           some false
            )
           ) fun (r142 : Bool) =>
         obnd (
          oite r142 (
           obnd (f15 y43.2.1 (-1000000000000 : Int) (1000000000000 : Int)) fun (y150 : Bool) =>
           some y150
            ) (
           some false
            )
           ) fun (r147 : Bool) =>
         obnd (
          oite r147 (
           some (ieq y140.2.1 (IntKind.i64.wrap (y43.2.1 + (IntKind.i64.wrap (a5 * y127)))))
            ) (
           some false
            )
           ) fun (r152 : Bool) =>
         some r152
          )
         )
        )
       )
      )
     )
    )
set_option maxHeartbeats 1000000 in
theorem c306 [LO]  {a0 : Int} {a1 : Int} {a2 : List (ByteArray × Int × Int × Int)} {a3 : Int} {a4 : Int} {a5 : Int} {a6 : List (Int × Int × Int)} {a7 : List Int} {a8 : List ((List Int))} {a9 : Int} {x : Bool} (H : f306 a0 a1 a2 a3 a4 a5 a6 a7 a8 a9 = some x) : ICalls E 306 [(.agg ⟨[(.int .i64 a0), (.int .i64 a1), (VS 4 (a2.map e_SIII))]⟩), (.agg ⟨[(.int .i64 a3), (.int .i64 a4), (.int .i64 a5), (VS 3 (a6.map e_III))]⟩), (.agg ⟨[(VS 1 (a7.map eI)), (VS 1 (a8.map e_L1I)), (.int .i64 a9)]⟩)] AHeap.none fun v _ => v = (.bool x) := by
  refine icalls_fn (pfnw ?_); unfold f306 at H;(conv=>whnf);refine pwa ?_;(conv=>whnf);refine pw_seq ?_;refine pwa ?_;(conv=>whnf);obtain ⟨y1, h2, H⟩ := obnd_some H;refine (c198 h2).go ?_;(conv=>whnf);refine pw_cond ?_;(conv=>whnf);refine pbr_oite H (fun g3 H => ?_) (fun g3 H => ?_)
  · (conv=>whnf);refine pwa ?_;(conv=>whnf);refine pw_ret ?_;(conv=>whnf);cases H; rfl
  · (conv=>whnf);refine pw_skip ?_;(conv=>whnf);refine pw_seq ?_;obtain ⟨r4, h5, H⟩ := obnd_some H;refine pw_join (ρ := Bool) (fun e => ⟨[(3, (.pointer (some ⟨0, 0, none⟩))), (4, (.pointer (some ⟨1, 0, none⟩))), (5, (.pointer (some ⟨2, 0, none⟩))), (54, (.bool e))], ⟨3, [(2, .rw [(VS 1 (a7.map eI)), (VS 1 (a8.map e_L1I)), (.int .i64 a9)]), (1, .rw [(.int .i64 a3), (.int .i64 a4), (.int .i64 a5), (VS 3 (a6.map e_III))]), (0, .rw [(.int .i64 a0), (.int .i64 a1), (VS 4 (a2.map e_SIII))])], false⟩⟩) r4 ?_ ?_
    · refine pw_ops ?_;refine po_ops 4 ?_;(conv=>whnf);obtain ⟨y8, h9, h5⟩ := obnd_some h5;refine (c307 h9).go ?_;(conv=>whnf);obtain ⟨r10, h11, h5⟩ := obnd_some h5;refine po_seg (τ := Bool) 4 (fun e => ⟨[(3, (.pointer (some ⟨0, 0, none⟩))), (4, (.pointer (some ⟨1, 0, none⟩))), (5, (.pointer (some ⟨2, 0, none⟩))), (36, (.bool e))], ⟨3, [(2, .rw [(VS 1 (a7.map eI)), (VS 1 (a8.map e_L1I)), (.int .i64 a9)]), (1, .rw [(.int .i64 a3), (.int .i64 a4), (.int .i64 a5), (VS 3 (a6.map e_III))]), (0, .rw [(.int .i64 a0), (.int .i64 a1), (VS 4 (a2.map e_SIII))])], false⟩⟩) r10 ?_ ?_
      · refine po_all ?_;(conv=>whnf);refine pbr_oite h11 (fun g12 h11 => ?_) (fun g12 h11 => ?_)
        · (conv=>whnf);(iterate 3 refine pbr_t g12 ?_;(conv=>whnf));cases h11;exact ⟨(.cons rfl (.cons rfl (.cons rfl (.cons rfl .nil)))), rfl⟩
        · (conv=>whnf);refine pbr_f g12 ?_;(conv=>whnf);obtain ⟨y13, h14, h11⟩ := obnd_some h11;refine (c308 h14).go ?_;(conv=>whnf);refine pbr_f g12 ?_;(conv=>whnf);refine pbr_f g12 ?_;(conv=>whnf);cases h11;exact ⟨(.cons rfl (.cons rfl (.cons rfl (.cons rfl .nil)))), rfl⟩
      · refine po_ops 1 ?_;(conv=>whnf);obtain ⟨r15, h16, h5⟩ := obnd_some h5;refine po_seg (τ := Bool) 5 (fun e => ⟨[(3, (.pointer (some ⟨0, 0, none⟩))), (4, (.pointer (some ⟨1, 0, none⟩))), (5, (.pointer (some ⟨2, 0, none⟩))), (42, (.bool e))], ⟨3, [(2, .rw [(VS 1 (a7.map eI)), (VS 1 (a8.map e_L1I)), (.int .i64 a9)]), (1, .rw [(.int .i64 a3), (.int .i64 a4), (.int .i64 a5), (VS 3 (a6.map e_III))]), (0, .rw [(.int .i64 a0), (.int .i64 a1), (VS 4 (a2.map e_SIII))])], false⟩⟩) r15 ?_ ?_
        · refine po_all ?_;(conv=>whnf);refine pbr_oite h16 (fun g17 h16 => ?_) (fun g17 h16 => ?_)
          · (conv=>whnf);(iterate 4 refine pbr_t g17 ?_;(conv=>whnf));cases h16;exact ⟨(.cons rfl (.cons rfl (.cons rfl (.cons rfl .nil)))), rfl⟩
          · (conv=>whnf);refine pbr_f g17 ?_;(conv=>whnf);refine pbr_f g17 ?_;(conv=>whnf);obtain ⟨y18, h19, h16⟩ := obnd_some h16;refine (c311 h19).go ?_;(conv=>whnf);refine pbr_f g17 ?_;(conv=>whnf);refine pbr_f g17 ?_;(conv=>whnf);cases h16;exact ⟨(.cons rfl (.cons rfl (.cons rfl (.cons rfl .nil)))), rfl⟩
        · refine po_ops 1 ?_;(conv=>whnf);obtain ⟨r20, h21, h5⟩ := obnd_some h5;refine po_seg (τ := Bool) 5 (fun e => ⟨[(3, (.pointer (some ⟨0, 0, none⟩))), (4, (.pointer (some ⟨1, 0, none⟩))), (5, (.pointer (some ⟨2, 0, none⟩))), (48, (.bool e))], ⟨3, [(2, .rw [(VS 1 (a7.map eI)), (VS 1 (a8.map e_L1I)), (.int .i64 a9)]), (1, .rw [(.int .i64 a3), (.int .i64 a4), (.int .i64 a5), (VS 3 (a6.map e_III))]), (0, .rw [(.int .i64 a0), (.int .i64 a1), (VS 4 (a2.map e_SIII))])], false⟩⟩) r20 ?_ ?_
          · refine po_all ?_;(conv=>whnf);refine pbr_oite h21 (fun g22 h21 => ?_) (fun g22 h21 => ?_)
            · (conv=>whnf);(iterate 4 refine pbr_t g22 ?_;(conv=>whnf));cases h21;exact ⟨(.cons rfl (.cons rfl (.cons rfl (.cons rfl .nil)))), rfl⟩
            · (conv=>whnf);(iterate 4 refine pbr_f g22 ?_;(conv=>whnf));cases h21;exact ⟨(.cons rfl (.cons rfl (.cons rfl (.cons rfl .nil)))), rfl⟩
          · refine po_all ?_;(conv=>whnf);refine pbr_oite h5 (fun g23 h5 => ?_) (fun g23 h5 => ?_)
            · (conv=>whnf);(iterate 4 refine pbr_t g23 ?_;(conv=>whnf));cases h5;exact ⟨(.cons rfl (.cons rfl (.cons rfl (.cons rfl .nil)))), rfl⟩
            · (conv=>whnf);(iterate 4 refine pbr_f g23 ?_;(conv=>whnf));cases h5;exact ⟨(.cons rfl (.cons rfl (.cons rfl (.cons rfl .nil)))), rfl⟩
    · refine pw_cond ?_;(conv=>whnf);refine pbr_oite H (fun g24 H => ?_) (fun g24 H => ?_)
      · (conv=>whnf);refine pwa ?_;(conv=>whnf);refine pw_ret ?_;(conv=>whnf);cases H; rfl
      · (conv=>whnf);refine pw_skip ?_;(conv=>whnf);obtain ⟨r25, h26, h27, h28⟩ := obndS_some H;refine pw_joinS (ρ := Unit) (fun e => ⟨[(3, (.pointer (some ⟨0, 0, none⟩))), (4, (.pointer (some ⟨1, 0, none⟩))), (5, (.pointer (some ⟨2, 0, none⟩)))], ⟨3, [(2, .rw [(VS 1 (a7.map eI)), (VS 1 (a8.map e_L1I)), (.int .i64 a9)]), (1, .rw [(.int .i64 a3), (.int .i64 a4), (.int .i64 a5), (VS 3 (a6.map e_III))]), (0, .rw [(.int .i64 a0), (.int .i64 a1), (VS 4 (a2.map e_SIII))])], false⟩⟩) r25 ?_ ?_
        · refine pwa ?_;(conv=>whnf);refine pw_block ?_;refine pw_loop (τ := Int) (fun e => ⟨[(3, (.pointer (some ⟨0, 0, none⟩))), (4, (.pointer (some ⟨1, 0, none⟩))), (5, (.pointer (some ⟨2, 0, none⟩))), (7, (.int .i64 e))], ⟨3, [(2, .rw [(VS 1 (a7.map eI)), (VS 1 (a8.map e_L1I)), (.int .i64 a9)]), (1, .rw [(.int .i64 a3), (.int .i64 a4), (.int .i64 a5), (VS 3 (a6.map e_III))]), (0, .rw [(.int .i64 a0), (.int .i64 a1), (VS 4 (a2.map e_SIII))])], false⟩⟩) h26 ?_ (fun _ => nl rfl) ?_
          · exact .sub' (nl rfl) (.cons rfl (.cons rfl (.cons rfl (.cons rfl .nil))))
          · intro e29 x30 h31; unfold l306_1 at h31;refine pw_seq ?_;refine pwa ?_;(conv=>whnf);refine pw_cond ?_;(conv=>whnf);refine pbr_oite h31 (fun g32 h31 => ?_) (fun g32 h31 => ?_)
            · (conv=>whnf);refine pw_skip ?_;(conv=>whnf);refine pw_seq ?_;refine pw_block ?_;refine pwa ?_;(conv=>whnf);refine pbr_ogrd h31 (fun g33 h31 => ?_);(conv=>whnf);refine nth_o (l := a8) h31 (fun x34 _ h31 => ?_);(conv=>whnf);refine pw_cond ?_;(conv=>whnf);refine pbr_oite h31 (fun g35 h31 => ?_) (fun g35 h31 => ?_)
              · (conv=>whnf);refine pwa ?_;(conv=>whnf);refine pw_ret ?_;(conv=>whnf);cases h31;refine ⟨_, rfl, ?_⟩; rintro rfl;(conv=>whnf);obtain rfl := h28 _ rfl; rfl
              · (conv=>whnf);refine pw_skip ?_;(conv=>whnf);refine pw_ops ?_;refine po_all ?_;(conv=>whnf);cases h31;refine ⟨_, rfl, ?_⟩;exact .sub' (nl rfl) (.cons rfl (.cons rfl (.cons rfl (.cons rfl .nil))))
            · (conv=>whnf);refine pw_exit ?_;(conv=>whnf);cases h31;refine ⟨_, rfl, ?_⟩; rintro rfl;(conv=>whnf);exact ⟨_, rfl, ⟨(.cons rfl (.cons rfl (.cons rfl .nil))), rfl⟩⟩
        · intro r38 hr; have H := h27 _ hr;refine pw_sd ?_;(conv=>whnf);refine ⟨?_, trivial⟩;(conv=>whnf);obtain ⟨y39, h40, H⟩ := obnd_some H;refine (c309 h40).go ?_;(conv=>whnf);refine ⟨by repeat (first | exact trivial | refine And.intro rfl ?_), ?_⟩;(conv=>whnf);refine ⟨?_, trivial⟩;(conv=>whnf);obtain ⟨y41, h42, H⟩ := obnd_some H;refine (c310 h42).go ?_;(conv=>whnf);refine ⟨by repeat (first | exact trivial | refine And.intro rfl ?_), ?_⟩;(conv=>whnf);refine ⟨?_, trivial⟩;(conv=>whnf);obtain ⟨y43, h44, H⟩ := obnd_some H;refine (c206 h44).go ?_;(conv=>whnf);refine ⟨by repeat (first | exact trivial | refine And.intro rfl ?_), ?_⟩
          (conv=>whnf);refine pw_sd ?_;(conv=>whnf);refine ⟨?_, trivial⟩;(conv=>whnf);obtain ⟨y45, h46, H⟩ := obnd_some H;refine (c309 h46).go ?_;(conv=>whnf);refine ⟨by repeat (first | exact trivial | refine And.intro rfl ?_), ?_⟩;(conv=>whnf);refine ⟨?_, trivial⟩;(conv=>whnf);obtain ⟨y47, h48, H⟩ := obnd_some H;refine (c310 h48).go ?_;(conv=>whnf);refine ⟨by repeat (first | exact trivial | refine And.intro rfl ?_), ?_⟩;(conv=>whnf);refine ⟨?_, trivial⟩;(conv=>whnf);obtain ⟨y49, h50, H⟩ := obnd_some H;refine (c345 h50).go ?_;(conv=>whnf);refine ⟨by repeat (first | exact trivial | refine And.intro rfl ?_), ?_⟩
          (conv=>whnf);refine pw_seq ?_;obtain ⟨r51, h52, H⟩ := obnd_some H;refine pw_join (ρ := Bool) (fun e => ⟨[(3, (.pointer (some ⟨0, 0, none⟩))), (4, (.pointer (some ⟨1, 0, none⟩))), (5, (.pointer (some ⟨2, 0, none⟩))), (8, (VS 1 (y43.1.map eI))), (9, (.int .i64 y43.2.1)), (10, (.int .i64 y43.2.2)), (11, (VS 1 (y49.1.map e_L1I))), (96, (.bool e))], ⟨3, [(2, .rw [(VS 1 (a7.map eI)), (VS 1 (a8.map e_L1I)), (.int .i64 a9)]), (1, .rw [(.int .i64 a3), (.int .i64 a4), (.int .i64 a5), (VS 3 (a6.map e_III))]), (0, .rw [(.int .i64 a0), (.int .i64 a1), (VS 4 (a2.map e_SIII))])], false⟩⟩) r51 ?_ ?_
          · refine pw_ops ?_;refine po_ops 7 ?_;(conv=>whnf);refine pbr_oite h52 (fun g55 h52 => ?_) (fun g55 h52 => ?_)
            · (conv=>whnf);refine pbr_t g55 ?_;(conv=>whnf);refine pbr_t g55 ?_;(conv=>whnf);refine po_ops 3 ?_;(conv=>whnf);refine pbr_t g55 ?_;(conv=>whnf);refine po_all ?_;(conv=>whnf);refine pbr_t g55 ?_;(conv=>whnf);cases h52;exact ⟨(.cons rfl (.cons rfl (.cons rfl (.cons rfl (.cons rfl (.cons rfl (.cons rfl (.cons rfl .nil)))))))), rfl⟩
            · (conv=>whnf);refine pbr_f g55 ?_;(conv=>whnf);refine pbr_f g55 ?_;(conv=>whnf);obtain ⟨r56, h57, h52⟩ := obnd_some h52;refine po_seg (τ := Bool) 3 (fun e => ⟨[(3, (.pointer (some ⟨0, 0, none⟩))), (4, (.pointer (some ⟨1, 0, none⟩))), (5, (.pointer (some ⟨2, 0, none⟩))), (8, (VS 1 (y43.1.map eI))), (9, (.int .i64 y43.2.1)), (10, (.int .i64 y43.2.2)), (11, (VS 1 (y49.1.map e_L1I))), (89, (.bool (!(ieq y43.2.2 y49.2)))), (95, (.bool e))], ⟨3, [(2, .rw [(VS 1 (a7.map eI)), (VS 1 (a8.map e_L1I)), (.int .i64 a9)]), (1, .rw [(.int .i64 a3), (.int .i64 a4), (.int .i64 a5), (VS 3 (a6.map e_III))]), (0, .rw [(.int .i64 a0), (.int .i64 a1), (VS 4 (a2.map e_SIII))])], false⟩⟩) r56 ?_ ?_
              · refine po_all ?_;(conv=>whnf);refine pbr_oite h57 (fun g58 h57 => ?_) (fun g58 h57 => ?_)
                · (conv=>whnf);refine pbr_t g58 ?_;(conv=>whnf);refine pbr_f g55 ?_;(conv=>whnf);refine pbr_t g58 ?_;(conv=>whnf);cases h57;exact ⟨(.cons rfl (.cons rfl (.cons rfl (.cons rfl (.cons rfl (.cons rfl (.cons rfl (.cons rfl (.cons rfl .nil))))))))), rfl⟩
                · (conv=>whnf);refine pbr_f g58 ?_;(conv=>whnf);refine pbr_f g55 ?_;(conv=>whnf);refine pbr_f g58 ?_;(conv=>whnf);cases h57;exact ⟨(.cons rfl (.cons rfl (.cons rfl (.cons rfl (.cons rfl (.cons rfl (.cons rfl (.cons rfl (.cons rfl .nil))))))))), rfl⟩
              · refine po_all ?_;(conv=>whnf);refine pbr_f g55 ?_;(conv=>whnf);cases h52;exact ⟨(.cons rfl (.cons rfl (.cons rfl (.cons rfl (.cons rfl (.cons rfl (.cons rfl (.cons rfl .nil)))))))), rfl⟩
          · refine pw_cond ?_;(conv=>whnf);refine pbr_oite H (fun g59 H => ?_) (fun g59 H => ?_)
            · (conv=>whnf);refine pwa ?_;(conv=>whnf);refine pw_ret ?_;(conv=>whnf);cases H; rfl
            · (conv=>whnf);refine pw_skip ?_;(conv=>whnf);refine pw_sd ?_;(conv=>whnf);refine ⟨?_, trivial⟩;(conv=>whnf);obtain ⟨y60, h61, H⟩ := obnd_some H;refine (c309 h61).go ?_;(conv=>whnf);refine ⟨by repeat (first | exact trivial | refine And.intro rfl ?_), ?_⟩;(conv=>whnf);refine ⟨?_, trivial⟩;(conv=>whnf);obtain ⟨y62, h63, H⟩ := obnd_some H;refine (c310 h63).go ?_;(conv=>whnf);refine ⟨by repeat (first | exact trivial | refine And.intro rfl ?_), ?_⟩;(conv=>whnf);refine ⟨?_, trivial⟩;(conv=>whnf);obtain ⟨y64, h65, H⟩ := obnd_some H;refine (c38 h65).go ?_;(conv=>whnf);refine ⟨by repeat (first | exact trivial | refine And.intro rfl ?_), ?_⟩
              (conv=>whnf);refine ⟨?_, trivial⟩;(conv=>whnf);obtain ⟨y66, h67, H⟩ := obnd_some H;refine (c323 h67).go ?_;(conv=>whnf);refine ⟨by repeat (first | exact trivial | refine And.intro rfl ?_), ?_⟩;(conv=>whnf);refine pw_seq ?_;refine pwa ?_;(conv=>whnf);refine pw_cond ?_;(conv=>whnf);refine pbr_oite H (fun g68 H => ?_) (fun g68 H => ?_)
              · (conv=>whnf);refine pw_so ?_;refine po_ops 3 ?_;(conv=>whnf);obtain ⟨r69, h70, H⟩ := obnd_some H;refine po_seg (τ := Bool) 7 (fun e => ⟨[(9, (.int .i64 y43.2.1)), (119, (.bool e))], ⟨3, [(2, .rw [(VS 1 (a7.map eI)), (VS 1 (a8.map e_L1I)), (.int .i64 a9)]), (1, .rw [(.int .i64 a3), (.int .i64 a4), (.int .i64 a5), (VS 3 (a6.map e_III))]), (0, .rw [(.int .i64 a0), (.int .i64 a1), (VS 4 (a2.map e_SIII))])], false⟩⟩) r69 ?_ ?_
                · refine po_all ?_;(conv=>whnf);refine pbr_oite h70 (fun g71 h70 => ?_) (fun g71 h70 => ?_)
                  · (conv=>whnf);(iterate 6 refine pbr_t g71 ?_;(conv=>whnf));cases h70;exact ⟨(.cons rfl (.cons rfl .nil)), rfl⟩
                  · (conv=>whnf);(iterate 6 refine pbr_f g71 ?_;(conv=>whnf));cases h70;exact ⟨(.cons rfl (.cons rfl .nil)), rfl⟩
                · refine po_ops 1 ?_;(conv=>whnf);obtain ⟨r72, h73, H⟩ := obnd_some H;refine po_seg (τ := Bool) 3 (fun e => ⟨[(123, (.bool e))], ⟨3, [(2, .rw [(VS 1 (a7.map eI)), (VS 1 (a8.map e_L1I)), (.int .i64 a9)]), (1, .rw [(.int .i64 a3), (.int .i64 a4), (.int .i64 a5), (VS 3 (a6.map e_III))]), (0, .rw [(.int .i64 a0), (.int .i64 a1), (VS 4 (a2.map e_SIII))])], false⟩⟩) r72 ?_ ?_
                  · refine po_all ?_;(conv=>whnf);refine pbr_oite h73 (fun g74 h73 => ?_) (fun g74 h73 => ?_)
                    · (conv=>whnf);refine pbr_t g74 ?_;(conv=>whnf);refine pbr_t g74 ?_;(conv=>whnf);cases h73;exact ⟨(.cons rfl .nil), rfl⟩
                    · (conv=>whnf);refine pbr_f g74 ?_;(conv=>whnf);refine pbr_f g74 ?_;(conv=>whnf);cases h73;exact ⟨(.cons rfl .nil), rfl⟩
                  · refine po_all ?_;(conv=>whnf);refine pw_ret ?_;(conv=>whnf);cases H; rfl
              · (conv=>whnf);refine pw_skip ?_;(conv=>whnf);refine pw_sd ?_;(conv=>whnf);refine ⟨?_, trivial⟩;(conv=>whnf);obtain ⟨y75, h76, H⟩ := obnd_some H;refine (c309 h76).go ?_;(conv=>whnf);refine ⟨by repeat (first | exact trivial | refine And.intro rfl ?_), ?_⟩;(conv=>whnf);refine ⟨?_, trivial⟩;(conv=>whnf);obtain ⟨y77, h78, H⟩ := obnd_some H;refine (c310 h78).go ?_;(conv=>whnf);refine ⟨by repeat (first | exact trivial | refine And.intro rfl ?_), ?_⟩;(conv=>whnf);refine ⟨?_, trivial⟩;(conv=>whnf);obtain ⟨y79, h80, H⟩ := obnd_some H;refine (c38 h80).go ?_;(conv=>whnf);refine ⟨by repeat (first | exact trivial | refine And.intro rfl ?_), ?_⟩
                (conv=>whnf);refine ⟨?_, trivial⟩;(conv=>whnf);obtain ⟨y81, h82, H⟩ := obnd_some H;refine (c323 h82).go ?_;(conv=>whnf);refine ⟨by repeat (first | exact trivial | refine And.intro rfl ?_), ?_⟩;(conv=>whnf);refine pw_sd ?_;(conv=>whnf);refine ⟨?_, trivial⟩;(conv=>whnf);obtain ⟨y83, h84, H⟩ := obnd_some H;refine (c309 h84).go ?_;(conv=>whnf);refine ⟨by repeat (first | exact trivial | refine And.intro rfl ?_), ?_⟩;(conv=>whnf);refine ⟨?_, trivial⟩;(conv=>whnf);obtain ⟨y85, h86, H⟩ := obnd_some H;refine (c310 h86).go ?_;(conv=>whnf);refine ⟨by repeat (first | exact trivial | refine And.intro rfl ?_), ?_⟩
                (conv=>whnf);refine ⟨?_, trivial⟩;(conv=>whnf);obtain ⟨y87, h88, H⟩ := obnd_some H;refine (c332 h88).go ?_;(conv=>whnf);refine ⟨by repeat (first | exact trivial | refine And.intro rfl ?_), ?_⟩;(conv=>whnf);refine ⟨?_, trivial⟩;(conv=>whnf);obtain ⟨y89, h90, H⟩ := obnd_some H;refine (c331 h90).go ?_;(conv=>whnf);refine ⟨by repeat (first | exact trivial | refine And.intro rfl ?_), ?_⟩;(conv=>whnf);refine pw_seq ?_;obtain ⟨r91, h92, H⟩ := obnd_some H;refine pw_join (ρ := Bool) (fun e => ⟨[(3, (.pointer (some ⟨0, 0, none⟩))), (4, (.pointer (some ⟨1, 0, none⟩))), (5, (.pointer (some ⟨2, 0, none⟩))), (8, (VS 1 (y43.1.map eI))), (9, (.int .i64 y43.2.1)), (13, (.int .i64 y66.1)), (14, (.int .i64 y66.2)), (168, (.bool e))], ⟨3, [(2, .rw [(VS 1 (a7.map eI)), (VS 1 (a8.map e_L1I)), (.int .i64 a9)]), (1, .rw [(.int .i64 a3), (.int .i64 a4), (.int .i64 a5), (VS 3 (a6.map e_III))]), (0, .rw [(.int .i64 a0), (.int .i64 a1), (VS 4 (a2.map e_SIII))])], false⟩⟩) r91 ?_ ?_
                · refine pw_ops ?_;refine po_ops 3 ?_;(conv=>whnf);obtain ⟨r95, h96, h92⟩ := obnd_some h92;refine po_seg (τ := Bool) 4 (fun e => ⟨[(3, (.pointer (some ⟨0, 0, none⟩))), (4, (.pointer (some ⟨1, 0, none⟩))), (5, (.pointer (some ⟨2, 0, none⟩))), (8, (VS 1 (y43.1.map eI))), (9, (.int .i64 y43.2.1)), (13, (.int .i64 y66.1)), (14, (.int .i64 y66.2)), (17, (.int .i64 y89.1)), (18, (.int .i64 y89.2)), (150, (.bool e))], ⟨3, [(2, .rw [(VS 1 (a7.map eI)), (VS 1 (a8.map e_L1I)), (.int .i64 a9)]), (1, .rw [(.int .i64 a3), (.int .i64 a4), (.int .i64 a5), (VS 3 (a6.map e_III))]), (0, .rw [(.int .i64 a0), (.int .i64 a1), (VS 4 (a2.map e_SIII))])], false⟩⟩) r95 ?_ ?_
                  · refine po_all ?_;(conv=>whnf);refine pbr_oite h96 (fun g97 h96 => ?_) (fun g97 h96 => ?_)
                    · (conv=>whnf);(iterate 3 refine pbr_t g97 ?_;(conv=>whnf));cases h96;exact ⟨(.cons rfl (.cons rfl (.cons rfl (.cons rfl (.cons rfl (.cons rfl (.cons rfl (.cons rfl (.cons rfl (.cons rfl .nil)))))))))), rfl⟩
                    · (conv=>whnf);(iterate 3 refine pbr_f g97 ?_;(conv=>whnf));cases h96;exact ⟨(.cons rfl (.cons rfl (.cons rfl (.cons rfl (.cons rfl (.cons rfl (.cons rfl (.cons rfl (.cons rfl (.cons rfl .nil)))))))))), rfl⟩
                  · refine po_ops 1 ?_;(conv=>whnf);obtain ⟨r98, h99, h92⟩ := obnd_some h92;refine po_seg (τ := Bool) 3 (fun e => ⟨[(3, (.pointer (some ⟨0, 0, none⟩))), (4, (.pointer (some ⟨1, 0, none⟩))), (5, (.pointer (some ⟨2, 0, none⟩))), (8, (VS 1 (y43.1.map eI))), (9, (.int .i64 y43.2.1)), (13, (.int .i64 y66.1)), (14, (.int .i64 y66.2)), (17, (.int .i64 y89.1)), (154, (.bool e))], ⟨3, [(2, .rw [(VS 1 (a7.map eI)), (VS 1 (a8.map e_L1I)), (.int .i64 a9)]), (1, .rw [(.int .i64 a3), (.int .i64 a4), (.int .i64 a5), (VS 3 (a6.map e_III))]), (0, .rw [(.int .i64 a0), (.int .i64 a1), (VS 4 (a2.map e_SIII))])], false⟩⟩) r98 ?_ ?_
                    · refine po_all ?_;(conv=>whnf);refine pbr_oite h99 (fun g100 h99 => ?_) (fun g100 h99 => ?_)
                      · (conv=>whnf);refine pbr_t g100 ?_;(conv=>whnf);refine pbr_t g100 ?_;(conv=>whnf);cases h99;exact ⟨(.cons rfl (.cons rfl (.cons rfl (.cons rfl (.cons rfl (.cons rfl (.cons rfl (.cons rfl (.cons rfl .nil))))))))), rfl⟩
                      · (conv=>whnf);refine pbr_f g100 ?_;(conv=>whnf);refine pbr_f g100 ?_;(conv=>whnf);cases h99;exact ⟨(.cons rfl (.cons rfl (.cons rfl (.cons rfl (.cons rfl (.cons rfl (.cons rfl (.cons rfl (.cons rfl .nil))))))))), rfl⟩
                    · refine po_ops 1 ?_;(conv=>whnf);obtain ⟨r101, h102, h92⟩ := obnd_some h92;refine po_seg (τ := Bool) 4 (fun e => ⟨[(3, (.pointer (some ⟨0, 0, none⟩))), (4, (.pointer (some ⟨1, 0, none⟩))), (5, (.pointer (some ⟨2, 0, none⟩))), (8, (VS 1 (y43.1.map eI))), (9, (.int .i64 y43.2.1)), (13, (.int .i64 y66.1)), (14, (.int .i64 y66.2)), (159, (.bool e))], ⟨3, [(2, .rw [(VS 1 (a7.map eI)), (VS 1 (a8.map e_L1I)), (.int .i64 a9)]), (1, .rw [(.int .i64 a3), (.int .i64 a4), (.int .i64 a5), (VS 3 (a6.map e_III))]), (0, .rw [(.int .i64 a0), (.int .i64 a1), (VS 4 (a2.map e_SIII))])], false⟩⟩) r101 ?_ ?_
                      · refine po_all ?_;(conv=>whnf);refine pbr_oite h102 (fun g103 h102 => ?_) (fun g103 h102 => ?_)
                        · (conv=>whnf);(iterate 3 refine pbr_t g103 ?_;(conv=>whnf));cases h102;exact ⟨(.cons rfl (.cons rfl (.cons rfl (.cons rfl (.cons rfl (.cons rfl (.cons rfl (.cons rfl .nil)))))))), rfl⟩
                        · (conv=>whnf);(iterate 3 refine pbr_f g103 ?_;(conv=>whnf));cases h102;exact ⟨(.cons rfl (.cons rfl (.cons rfl (.cons rfl (.cons rfl (.cons rfl (.cons rfl (.cons rfl .nil)))))))), rfl⟩
                      · refine po_ops 4 ?_;(conv=>whnf);refine pbr_oite h92 (fun g104 h92 => ?_) (fun g104 h92 => ?_)
                        · (conv=>whnf);refine pbr_t g104 ?_;(conv=>whnf);refine pbr_t g104 ?_;(conv=>whnf);refine po_ops 4 ?_;(conv=>whnf);refine pbr_t g104 ?_;(conv=>whnf);refine po_all ?_;(conv=>whnf);refine pbr_t g104 ?_;(conv=>whnf);cases h92;exact ⟨(.cons rfl (.cons rfl (.cons rfl (.cons rfl (.cons rfl (.cons rfl (.cons rfl (.cons rfl .nil)))))))), rfl⟩
                        · (conv=>whnf);refine pbr_f g104 ?_;(conv=>whnf);refine pbr_f g104 ?_;(conv=>whnf);obtain ⟨r105, h106, h92⟩ := obnd_some h92;refine po_seg (τ := Bool) 4 (fun e => ⟨[(3, (.pointer (some ⟨0, 0, none⟩))), (4, (.pointer (some ⟨1, 0, none⟩))), (5, (.pointer (some ⟨2, 0, none⟩))), (8, (VS 1 (y43.1.map eI))), (9, (.int .i64 y43.2.1)), (13, (.int .i64 y66.1)), (14, (.int .i64 y66.2)), (160, (.bool r101)), (167, (.bool e))], ⟨3, [(2, .rw [(VS 1 (a7.map eI)), (VS 1 (a8.map e_L1I)), (.int .i64 a9)]), (1, .rw [(.int .i64 a3), (.int .i64 a4), (.int .i64 a5), (VS 3 (a6.map e_III))]), (0, .rw [(.int .i64 a0), (.int .i64 a1), (VS 4 (a2.map e_SIII))])], false⟩⟩) r105 ?_ ?_
                          · refine po_all ?_;(conv=>whnf);refine pbr_oite h106 (fun g107 h106 => ?_) (fun g107 h106 => ?_)
                            · (conv=>whnf);refine pbr_t g107 ?_;(conv=>whnf);refine pbr_t g107 ?_;(conv=>whnf);refine pbr_f g104 ?_;(conv=>whnf);refine pbr_t g107 ?_;(conv=>whnf);cases h106;exact ⟨(.cons rfl (.cons rfl (.cons rfl (.cons rfl (.cons rfl (.cons rfl (.cons rfl (.cons rfl (.cons rfl .nil))))))))), rfl⟩
                            · (conv=>whnf);refine pbr_f g107 ?_;(conv=>whnf);refine pbr_f g107 ?_;(conv=>whnf);refine pbr_f g104 ?_;(conv=>whnf);refine pbr_f g107 ?_;(conv=>whnf);cases h106;exact ⟨(.cons rfl (.cons rfl (.cons rfl (.cons rfl (.cons rfl (.cons rfl (.cons rfl (.cons rfl (.cons rfl .nil))))))))), rfl⟩
                          · refine po_all ?_;(conv=>whnf);refine pbr_f g104 ?_;(conv=>whnf);cases h92;exact ⟨(.cons rfl (.cons rfl (.cons rfl (.cons rfl (.cons rfl (.cons rfl (.cons rfl (.cons rfl .nil)))))))), rfl⟩
                · refine pw_cond ?_;(conv=>whnf);refine pbr_oite H (fun g108 H => ?_) (fun g108 H => ?_)
                  · (conv=>whnf);refine pwa ?_;(conv=>whnf);refine pw_ret ?_;(conv=>whnf);cases H; rfl
                  · (conv=>whnf);refine pw_skip ?_;(conv=>whnf);refine pw_seq ?_;refine pw_sd ?_;(conv=>whnf);refine ⟨?_, trivial⟩;(conv=>whnf);obtain ⟨y109, h110, H⟩ := obnd_some H;refine (c309 h110).go ?_;(conv=>whnf);refine ⟨by repeat (first | exact trivial | refine And.intro rfl ?_), ?_⟩;(conv=>whnf);refine ⟨?_, trivial⟩;(conv=>whnf);obtain ⟨y111, h112, H⟩ := obnd_some H;refine (c310 h112).go ?_;(conv=>whnf);refine ⟨by repeat (first | exact trivial | refine And.intro rfl ?_), ?_⟩;(conv=>whnf);refine ⟨?_, trivial⟩;(conv=>whnf);obtain ⟨y113, h114, H⟩ := obnd_some H;refine (c332 h114).go ?_;(conv=>whnf);refine ⟨by repeat (first | exact trivial | refine And.intro rfl ?_), ?_⟩
                    (conv=>whnf);refine ⟨?_, trivial⟩;(conv=>whnf);obtain ⟨y115, h116, H⟩ := obnd_some H;refine (c331 h116).go ?_;(conv=>whnf);refine ⟨by repeat (first | exact trivial | refine And.intro rfl ?_), ?_⟩;(conv=>whnf);obtain ⟨r117, h118, H⟩ := obnd_some H;refine pw_join (ρ := Bool) (fun e => ⟨[(3, (.pointer (some ⟨0, 0, none⟩))), (4, (.pointer (some ⟨1, 0, none⟩))), (5, (.pointer (some ⟨2, 0, none⟩))), (8, (VS 1 (y43.1.map eI))), (9, (.int .i64 y43.2.1)), (195, (.bool e))], ⟨3, [(2, .rw [(VS 1 (a7.map eI)), (VS 1 (a8.map e_L1I)), (.int .i64 a9)]), (1, .rw [(.int .i64 a3), (.int .i64 a4), (.int .i64 a5), (VS 3 (a6.map e_III))]), (0, .rw [(.int .i64 a0), (.int .i64 a1), (VS 4 (a2.map e_SIII))])], false⟩⟩) r117 ?_ ?_
                    · refine pw_ops ?_;refine po_ops 7 ?_;(conv=>whnf);refine pbr_oite h118 (fun g121 h118 => ?_) (fun g121 h118 => ?_)
                      · (conv=>whnf);(iterate 3 refine pbr_t g121 ?_;(conv=>whnf));obtain ⟨r122, h123, h118⟩ := obnd_some h118;refine po_seg (τ := Bool) 8 (fun e => ⟨[(3, (.pointer (some ⟨0, 0, none⟩))), (4, (.pointer (some ⟨1, 0, none⟩))), (5, (.pointer (some ⟨2, 0, none⟩))), (8, (VS 1 (y43.1.map eI))), (9, (.int .i64 y43.2.1)), (182, (.bool (ieq y115.2 (0 : Int)))), (194, (.bool e))], ⟨3, [(2, .rw [(VS 1 (a7.map eI)), (VS 1 (a8.map e_L1I)), (.int .i64 a9)]), (1, .rw [(.int .i64 a3), (.int .i64 a4), (.int .i64 a5), (VS 3 (a6.map e_III))]), (0, .rw [(.int .i64 a0), (.int .i64 a1), (VS 4 (a2.map e_SIII))])], false⟩⟩) r122 ?_ ?_
                        · refine po_all ?_;(conv=>whnf);refine pbr_oite h123 (fun g124 h123 => ?_) (fun g124 h123 => ?_)
                          · (conv=>whnf);(iterate 3 refine pbr_t g124 ?_;(conv=>whnf));refine pbr_t g121 ?_;(conv=>whnf);refine pbr_t g124 ?_;(conv=>whnf);cases h123;exact ⟨(.cons rfl (.cons rfl (.cons rfl (.cons rfl (.cons rfl (.cons rfl (.cons rfl .nil))))))), rfl⟩
                          · (conv=>whnf);refine pbr_f g124 ?_;(conv=>whnf);refine pbr_f g124 ?_;(conv=>whnf);refine pbr_oite h123 (fun g125 h123 => ?_) (fun g125 h123 => ?_)
                            · (conv=>whnf);refine pbr_t g125 ?_;(conv=>whnf);refine pbr_t g125 ?_;(conv=>whnf);refine pbr_f g124 ?_;(conv=>whnf);refine pbr_t g125 ?_;(conv=>whnf);refine pbr_t g121 ?_;(conv=>whnf);refine pbr_f g124 ?_;(conv=>whnf);cases h123;exact ⟨(.cons rfl (.cons rfl (.cons rfl (.cons rfl (.cons rfl (.cons rfl (.cons rfl .nil))))))), rfl⟩
                            · (conv=>whnf);refine pbr_f g125 ?_;(conv=>whnf);refine pbr_f g125 ?_;(conv=>whnf);refine pbr_f g124 ?_;(conv=>whnf);refine pbr_f g125 ?_;(conv=>whnf);refine pbr_t g121 ?_;(conv=>whnf);refine pbr_f g124 ?_;(conv=>whnf);cases h123;exact ⟨(.cons rfl (.cons rfl (.cons rfl (.cons rfl (.cons rfl (.cons rfl (.cons rfl .nil))))))), rfl⟩
                        · refine po_all ?_;(conv=>whnf);refine pbr_t g121 ?_;(conv=>whnf);cases h118;exact ⟨(.cons rfl (.cons rfl (.cons rfl (.cons rfl (.cons rfl (.cons rfl .nil)))))), rfl⟩
                      · (conv=>whnf);(iterate 3 refine pbr_f g121 ?_;(conv=>whnf));refine po_ops 8 ?_;(conv=>whnf);refine pbr_f g121 ?_;(conv=>whnf);refine po_all ?_;(conv=>whnf);refine pbr_f g121 ?_;(conv=>whnf);cases h118;exact ⟨(.cons rfl (.cons rfl (.cons rfl (.cons rfl (.cons rfl (.cons rfl .nil)))))), rfl⟩
                    · refine pw_cond ?_;(conv=>whnf);refine pbr_oite H (fun g126 H => ?_) (fun g126 H => ?_)
                      · (conv=>whnf);refine pwa ?_;(conv=>whnf);refine pw_ret ?_;(conv=>whnf);cases H; rfl
                      · (conv=>whnf);refine pw_skip ?_;(conv=>whnf);refine pwa ?_;(conv=>whnf);obtain ⟨y127, h128, H⟩ := obnd_some H;refine (c346 h128).go ?_;(conv=>whnf);obtain ⟨r129, h130, H⟩ := obnd_some H;refine pw_joinR (ρ := Int × Int × (List (ByteArray × Int × Int × Int)) × Int × Int × Int × (List (Int × Int × Int))) (fun e => ⟨[(3, (.pointer (some ⟨0, 0, none⟩))), (4, (.pointer (some ⟨1, 0, none⟩))), (8, (VS 1 (y43.1.map eI))), (9, (.int .i64 y43.2.1)), (21, (.int .i64 y127)), (22, (.pointer (some ⟨3, 0, none⟩))), (23, (.pointer (some ⟨4, 0, none⟩)))], ⟨5, [(4, .rw [(.int .i64 e.2.2.2.1), (.int .i64 e.2.2.2.2.1), (.int .i64 e.2.2.2.2.2.1), (VS 3 (e.2.2.2.2.2.2.map e_III))]), (3, .rw [(.int .i64 e.1), (.int .i64 e.2.1), (VS 4 (e.2.2.1.map e_SIII))]), (2, .rw [(VS 1 (a7.map eI)), (VS 1 (a8.map e_L1I)), (.int .i64 a9)]), (1, .rw [(.int .i64 a3), (.int .i64 a4), (.int .i64 a5), (VS 3 (a6.map e_III))]), (0, .rw [(.int .i64 a0), (.int .i64 a1), (VS 4 (a2.map e_SIII))])], false⟩⟩) r129 ?_ ?_
                        · refine pw_draw ?_;(conv=>whnf);refine ⟨?_, ?_⟩
                          · (conv=>whnf);obtain ⟨y133, h134, h130⟩ := obnd_some h130;refine (c309 h134).go ?_;(conv=>whnf);refine ⟨by repeat (first | exact trivial | refine And.intro rfl ?_), ?_⟩;(conv=>whnf);refine ⟨?_, ?_⟩
                            · (conv=>whnf);obtain ⟨y135, h136, h130⟩ := obnd_some h130;refine (c310 h136).go ?_;(conv=>whnf);refine ⟨by repeat (first | exact trivial | refine And.intro rfl ?_), ?_⟩;(conv=>whnf);refine ⟨?_, ?_⟩
                              · (conv=>whnf);refine ⟨by repeat (first | exact trivial | refine And.intro rfl ?_), ?_⟩;(conv=>whnf);refine ⟨?_, trivial⟩;(conv=>whnf);refine ⟨by repeat (first | exact trivial | refine And.intro rfl ?_), ?_⟩;(conv=>whnf);refine ⟨?_, trivial⟩;(conv=>whnf);refine ⟨by repeat (first | exact trivial | refine And.intro rfl ?_), ?_⟩;(conv=>whnf);refine ⟨?_, trivial⟩;(conv=>whnf);refine ⟨by repeat (first | exact trivial | refine And.intro rfl ?_), ?_⟩;(conv=>whnf);cases h130;exact Recast.fz (fun _ => false) (nl rfl) (.cons (.same rfl rfl (OBnd.rwl (nl rfl) rfl (.cons .cl (.cons .cl (.cons .cl (.cons .cl .nil)))))) (.cons (.same rfl rfl (OBnd.rwl (nl rfl) rfl (.cons .cl (.cons .cl (.cons .cl .nil))))) (.cons (.same rfl rfl (OBnd.rwl (nl rfl) rfl (.cons .cl (.cons .cl (.cons .cl .nil))))) (.cons (.same rfl rfl (OBnd.rwl (nl rfl) rfl (.cons .cl (.cons .cl (.cons .cl (.cons .cl .nil)))))) (.cons (.same rfl rfl (OBnd.rwl (nl rfl) rfl (.cons .cl (.cons .cl (.cons .cl .nil))))) .nil))))) (.cons rfl (.same _ (.ptr (nl rfl))) (.cons rfl (.same _ (.ptr (nl rfl))) (.cons rfl (.same _ .cl) (.cons rfl (.same _ .cl) (.cons rfl (.same _ .cl) (.cons rfl (.same _ (.ptr (nl rfl))) (.cons rfl (.same _ (.ptr (nl rfl))) .nil)))))))
                              · (conv=>whnf);refine ⟨?_, trivial⟩;(conv=>whnf);refine ⟨by repeat (first | exact trivial | refine And.intro rfl ?_), ?_⟩;(conv=>whnf);refine ⟨?_, trivial⟩;(conv=>whnf);refine ⟨by repeat (first | exact trivial | refine And.intro rfl ?_), ?_⟩;(conv=>whnf);refine ⟨?_, trivial⟩;(conv=>whnf);refine ⟨by repeat (first | exact trivial | refine And.intro rfl ?_), ?_⟩;(conv=>whnf);refine ⟨?_, trivial⟩;(conv=>whnf);refine ⟨by repeat (first | exact trivial | refine And.intro rfl ?_), ?_⟩;(conv=>whnf);cases h130;refine Recast.trans (s' := ⟨[(3, (.pointer (some ⟨0, 0, none⟩))), (4, (.pointer (some ⟨1, 0, none⟩))), (8, (VS 1 (y43.1.map eI))), (9, (.int .i64 y43.2.1)), (21, (.int .i64 y127)), (22, (.pointer (some ⟨4, 0, none⟩))), (23, (.pointer (some ⟨5, 0, none⟩)))], ⟨6, [(4, .rw [(.int .i64 y133.1), (.int .i64 y133.2.1), (VS 4 (y133.2.2.map e_SIII))]), (5, .rw [(.int .i64 y135.1), (.int .i64 y135.2.1), (.int .i64 y135.2.2.1), (VS 3 (y135.2.2.2.map e_III))]), (2, .rw [(VS 1 (a7.map eI)), (VS 1 (a8.map e_L1I)), (.int .i64 a9)]), (1, .rw [(.int .i64 a3), (.int .i64 a4), (.int .i64 a5), (VS 3 (a6.map e_III))]), (0, .rw [(.int .i64 a0), (.int .i64 a1), (VS 4 (a2.map e_SIII))])], false⟩⟩) (Recast.mv 3 5 (nl rfl) (nl rfl) (.cons (.rw (nn rfl) (nn rfl) (nl rfl) rfl rfl (.of (.cons .cl (.cons .cl (.cons .cl .nil))))) (.cons (.mv rfl (nl rfl) rfl rfl (.of (.cons .cl (.cons .cl (.cons .cl (.cons .cl .nil)))))) (.cons (.rw (nn rfl) (nn rfl) (nl rfl) rfl rfl (.of (.cons .cl (.cons .cl (.cons .cl .nil))))) (.cons (.rw (nn rfl) (nn rfl) (nl rfl) rfl rfl (.of (.cons .cl (.cons .cl (.cons .cl (.cons .cl .nil)))))) (.cons (.rw (nn rfl) (nn rfl) (nl rfl) rfl rfl (.of (.cons .cl (.cons .cl (.cons .cl .nil))))) .nil))))) (.cons rfl (.ptr (nn rfl) (nl rfl)) (.cons rfl (.ptr (nn rfl) (nl rfl)) (.cons rfl .cl (.cons rfl .cl (.cons rfl .cl (.cons rfl (.ptr (nn rfl) (nl rfl)) (.cons rfl (.ptrm (nl rfl)) .nil)))))))) ?_
                                refine Recast.trans (s' := ⟨[(3, (.pointer (some ⟨0, 0, none⟩))), (4, (.pointer (some ⟨1, 0, none⟩))), (8, (VS 1 (y43.1.map eI))), (9, (.int .i64 y43.2.1)), (21, (.int .i64 y127)), (22, (.pointer (some ⟨6, 0, none⟩))), (23, (.pointer (some ⟨5, 0, none⟩)))], ⟨7, [(6, .rw [(.int .i64 y133.1), (.int .i64 y133.2.1), (VS 4 (y133.2.2.map e_SIII))]), (5, .rw [(.int .i64 y135.1), (.int .i64 y135.2.1), (.int .i64 y135.2.2.1), (VS 3 (y135.2.2.2.map e_III))]), (2, .rw [(VS 1 (a7.map eI)), (VS 1 (a8.map e_L1I)), (.int .i64 a9)]), (1, .rw [(.int .i64 a3), (.int .i64 a4), (.int .i64 a5), (VS 3 (a6.map e_III))]), (0, .rw [(.int .i64 a0), (.int .i64 a1), (VS 4 (a2.map e_SIII))])], false⟩⟩) (Recast.mv 4 6 (nl rfl) (nl rfl) (.cons (.mv rfl (nl rfl) rfl rfl (.of (.cons .cl (.cons .cl (.cons .cl .nil))))) (.cons (.rw (nn rfl) (nn rfl) (nl rfl) rfl rfl (.of (.cons .cl (.cons .cl (.cons .cl (.cons .cl .nil)))))) (.cons (.rw (nn rfl) (nn rfl) (nl rfl) rfl rfl (.of (.cons .cl (.cons .cl (.cons .cl .nil))))) (.cons (.rw (nn rfl) (nn rfl) (nl rfl) rfl rfl (.of (.cons .cl (.cons .cl (.cons .cl (.cons .cl .nil)))))) (.cons (.rw (nn rfl) (nn rfl) (nl rfl) rfl rfl (.of (.cons .cl (.cons .cl (.cons .cl .nil))))) .nil))))) (.cons rfl (.ptr (nn rfl) (nl rfl)) (.cons rfl (.ptr (nn rfl) (nl rfl)) (.cons rfl .cl (.cons rfl .cl (.cons rfl .cl (.cons rfl (.ptrm (nl rfl)) (.cons rfl (.ptr (nn rfl) (nl rfl)) .nil)))))))) ?_
                                refine Recast.trans (s' := ⟨[(3, (.pointer (some ⟨0, 0, none⟩))), (4, (.pointer (some ⟨1, 0, none⟩))), (8, (VS 1 (y43.1.map eI))), (9, (.int .i64 y43.2.1)), (21, (.int .i64 y127)), (22, (.pointer (some ⟨6, 0, none⟩))), (23, (.pointer (some ⟨4, 0, none⟩)))], ⟨7, [(6, .rw [(.int .i64 y133.1), (.int .i64 y133.2.1), (VS 4 (y133.2.2.map e_SIII))]), (4, .rw [(.int .i64 y135.1), (.int .i64 y135.2.1), (.int .i64 y135.2.2.1), (VS 3 (y135.2.2.2.map e_III))]), (2, .rw [(VS 1 (a7.map eI)), (VS 1 (a8.map e_L1I)), (.int .i64 a9)]), (1, .rw [(.int .i64 a3), (.int .i64 a4), (.int .i64 a5), (VS 3 (a6.map e_III))]), (0, .rw [(.int .i64 a0), (.int .i64 a1), (VS 4 (a2.map e_SIII))])], false⟩⟩) (Recast.mv 5 4 (nl rfl) (nl rfl) (.cons (.rw (nn rfl) (nn rfl) (nl rfl) rfl rfl (.of (.cons .cl (.cons .cl (.cons .cl .nil))))) (.cons (.mv rfl (nl rfl) rfl rfl (.of (.cons .cl (.cons .cl (.cons .cl (.cons .cl .nil)))))) (.cons (.rw (nn rfl) (nn rfl) (nl rfl) rfl rfl (.of (.cons .cl (.cons .cl (.cons .cl .nil))))) (.cons (.rw (nn rfl) (nn rfl) (nl rfl) rfl rfl (.of (.cons .cl (.cons .cl (.cons .cl (.cons .cl .nil)))))) (.cons (.rw (nn rfl) (nn rfl) (nl rfl) rfl rfl (.of (.cons .cl (.cons .cl (.cons .cl .nil))))) .nil))))) (.cons rfl (.ptr (nn rfl) (nl rfl)) (.cons rfl (.ptr (nn rfl) (nl rfl)) (.cons rfl .cl (.cons rfl .cl (.cons rfl .cl (.cons rfl (.ptr (nn rfl) (nl rfl)) (.cons rfl (.ptrm (nl rfl)) .nil)))))))) ?_
                                exact (Recast.mv 6 3 (nl rfl) (nl rfl) (.cons (.rw (nn rfl) (nn rfl) (nl rfl) rfl rfl (.of (.cons .cl (.cons .cl (.cons .cl (.cons .cl .nil)))))) (.cons (.mv rfl (nl rfl) rfl rfl (.of (.cons .cl (.cons .cl (.cons .cl .nil))))) (.cons (.rw (nn rfl) (nn rfl) (nl rfl) rfl rfl (.of (.cons .cl (.cons .cl (.cons .cl .nil))))) (.cons (.rw (nn rfl) (nn rfl) (nl rfl) rfl rfl (.of (.cons .cl (.cons .cl (.cons .cl (.cons .cl .nil)))))) (.cons (.rw (nn rfl) (nn rfl) (nl rfl) rfl rfl (.of (.cons .cl (.cons .cl (.cons .cl .nil))))) .nil))))) (.cons rfl (.ptr (nn rfl) (nl rfl)) (.cons rfl (.ptr (nn rfl) (nl rfl)) (.cons rfl .cl (.cons rfl .cl (.cons rfl .cl (.cons rfl (.ptrm (nl rfl)) (.cons rfl (.ptr (nn rfl) (nl rfl)) .nil))))))))
                            · obtain ⟨y135, h136, h130⟩ := obnd_some h130;(conv=>whnf);refine ⟨?_, ?_⟩
                              · (conv=>whnf);refine ⟨by repeat (first | exact trivial | refine And.intro rfl ?_), ?_⟩;(conv=>whnf);refine ⟨?_, ?_⟩
                                · (conv=>whnf);refine (c310 h136).go ?_;(conv=>whnf);refine ⟨by repeat (first | exact trivial | refine And.intro rfl ?_), ?_⟩;(conv=>whnf);refine ⟨?_, trivial⟩;(conv=>whnf);refine ⟨by repeat (first | exact trivial | refine And.intro rfl ?_), ?_⟩;(conv=>whnf);refine ⟨?_, trivial⟩;(conv=>whnf);refine ⟨by repeat (first | exact trivial | refine And.intro rfl ?_), ?_⟩;(conv=>whnf);refine ⟨?_, trivial⟩;(conv=>whnf);refine ⟨by repeat (first | exact trivial | refine And.intro rfl ?_), ?_⟩;(conv=>whnf);cases h130;exact Recast.fz (fun _ => false) (nl rfl) (.cons (.same rfl rfl (OBnd.rwl (nl rfl) rfl (.cons .cl (.cons .cl (.cons .cl (.cons .cl .nil)))))) (.cons (.same rfl rfl (OBnd.rwl (nl rfl) rfl (.cons .cl (.cons .cl (.cons .cl .nil))))) (.cons (.same rfl rfl (OBnd.rwl (nl rfl) rfl (.cons .cl (.cons .cl (.cons .cl .nil))))) (.cons (.same rfl rfl (OBnd.rwl (nl rfl) rfl (.cons .cl (.cons .cl (.cons .cl (.cons .cl .nil)))))) (.cons (.same rfl rfl (OBnd.rwl (nl rfl) rfl (.cons .cl (.cons .cl (.cons .cl .nil))))) .nil))))) (.cons rfl (.same _ (.ptr (nl rfl))) (.cons rfl (.same _ (.ptr (nl rfl))) (.cons rfl (.same _ .cl) (.cons rfl (.same _ .cl) (.cons rfl (.same _ .cl) (.cons rfl (.same _ (.ptr (nl rfl))) (.cons rfl (.same _ (.ptr (nl rfl))) .nil)))))))
                                · (conv=>whnf);refine ⟨?_, trivial⟩;(conv=>whnf);refine ⟨by repeat (first | exact trivial | refine And.intro rfl ?_), ?_⟩;(conv=>whnf);refine ⟨?_, trivial⟩;(conv=>whnf);refine (c310 h136).go ?_;(conv=>whnf);refine ⟨by repeat (first | exact trivial | refine And.intro rfl ?_), ?_⟩;(conv=>whnf);refine ⟨?_, trivial⟩;(conv=>whnf);refine ⟨by repeat (first | exact trivial | refine And.intro rfl ?_), ?_⟩;(conv=>whnf);refine ⟨?_, trivial⟩;(conv=>whnf);refine ⟨by repeat (first | exact trivial | refine And.intro rfl ?_), ?_⟩;(conv=>whnf);cases h130;exact Recast.fz (fun _ => false) (nl rfl) (.cons (.same rfl rfl (OBnd.rwl (nl rfl) rfl (.cons .cl (.cons .cl (.cons .cl (.cons .cl .nil)))))) (.cons (.same rfl rfl (OBnd.rwl (nl rfl) rfl (.cons .cl (.cons .cl (.cons .cl .nil))))) (.cons (.same rfl rfl (OBnd.rwl (nl rfl) rfl (.cons .cl (.cons .cl (.cons .cl .nil))))) (.cons (.same rfl rfl (OBnd.rwl (nl rfl) rfl (.cons .cl (.cons .cl (.cons .cl (.cons .cl .nil)))))) (.cons (.same rfl rfl (OBnd.rwl (nl rfl) rfl (.cons .cl (.cons .cl (.cons .cl .nil))))) .nil))))) (.cons rfl (.same _ (.ptr (nl rfl))) (.cons rfl (.same _ (.ptr (nl rfl))) (.cons rfl (.same _ .cl) (.cons rfl (.same _ .cl) (.cons rfl (.same _ .cl) (.cons rfl (.same _ (.ptr (nl rfl))) (.cons rfl (.same _ (.ptr (nl rfl))) .nil)))))))
                              · (conv=>whnf);refine ⟨?_, trivial⟩;(conv=>whnf);refine ⟨by repeat (first | exact trivial | refine And.intro rfl ?_), ?_⟩;(conv=>whnf);refine ⟨?_, ?_⟩
                                · (conv=>whnf);refine (c310 h136).go ?_;(conv=>whnf);refine ⟨by repeat (first | exact trivial | refine And.intro rfl ?_), ?_⟩;(conv=>whnf);refine ⟨?_, trivial⟩;(conv=>whnf);refine ⟨by repeat (first | exact trivial | refine And.intro rfl ?_), ?_⟩;(conv=>whnf);refine ⟨?_, trivial⟩;(conv=>whnf);refine ⟨by repeat (first | exact trivial | refine And.intro rfl ?_), ?_⟩;(conv=>whnf);refine ⟨?_, trivial⟩;(conv=>whnf);refine ⟨by repeat (first | exact trivial | refine And.intro rfl ?_), ?_⟩;(conv=>whnf);cases h130;refine Recast.trans (s' := ⟨[(3, (.pointer (some ⟨0, 0, none⟩))), (4, (.pointer (some ⟨1, 0, none⟩))), (8, (VS 1 (y43.1.map eI))), (9, (.int .i64 y43.2.1)), (21, (.int .i64 y127)), (22, (.pointer (some ⟨4, 0, none⟩))), (23, (.pointer (some ⟨5, 0, none⟩)))], ⟨6, [(4, .rw [(.int .i64 y133.1), (.int .i64 y133.2.1), (VS 4 (y133.2.2.map e_SIII))]), (5, .rw [(.int .i64 y135.1), (.int .i64 y135.2.1), (.int .i64 y135.2.2.1), (VS 3 (y135.2.2.2.map e_III))]), (2, .rw [(VS 1 (a7.map eI)), (VS 1 (a8.map e_L1I)), (.int .i64 a9)]), (1, .rw [(.int .i64 a3), (.int .i64 a4), (.int .i64 a5), (VS 3 (a6.map e_III))]), (0, .rw [(.int .i64 a0), (.int .i64 a1), (VS 4 (a2.map e_SIII))])], false⟩⟩) (Recast.mv 3 5 (nl rfl) (nl rfl) (.cons (.rw (nn rfl) (nn rfl) (nl rfl) rfl rfl (.of (.cons .cl (.cons .cl (.cons .cl .nil))))) (.cons (.mv rfl (nl rfl) rfl rfl (.of (.cons .cl (.cons .cl (.cons .cl (.cons .cl .nil)))))) (.cons (.rw (nn rfl) (nn rfl) (nl rfl) rfl rfl (.of (.cons .cl (.cons .cl (.cons .cl .nil))))) (.cons (.rw (nn rfl) (nn rfl) (nl rfl) rfl rfl (.of (.cons .cl (.cons .cl (.cons .cl (.cons .cl .nil)))))) (.cons (.rw (nn rfl) (nn rfl) (nl rfl) rfl rfl (.of (.cons .cl (.cons .cl (.cons .cl .nil))))) .nil))))) (.cons rfl (.ptr (nn rfl) (nl rfl)) (.cons rfl (.ptr (nn rfl) (nl rfl)) (.cons rfl .cl (.cons rfl .cl (.cons rfl .cl (.cons rfl (.ptr (nn rfl) (nl rfl)) (.cons rfl (.ptrm (nl rfl)) .nil)))))))) ?_
                                  refine Recast.trans (s' := ⟨[(3, (.pointer (some ⟨0, 0, none⟩))), (4, (.pointer (some ⟨1, 0, none⟩))), (8, (VS 1 (y43.1.map eI))), (9, (.int .i64 y43.2.1)), (21, (.int .i64 y127)), (22, (.pointer (some ⟨6, 0, none⟩))), (23, (.pointer (some ⟨5, 0, none⟩)))], ⟨7, [(6, .rw [(.int .i64 y133.1), (.int .i64 y133.2.1), (VS 4 (y133.2.2.map e_SIII))]), (5, .rw [(.int .i64 y135.1), (.int .i64 y135.2.1), (.int .i64 y135.2.2.1), (VS 3 (y135.2.2.2.map e_III))]), (2, .rw [(VS 1 (a7.map eI)), (VS 1 (a8.map e_L1I)), (.int .i64 a9)]), (1, .rw [(.int .i64 a3), (.int .i64 a4), (.int .i64 a5), (VS 3 (a6.map e_III))]), (0, .rw [(.int .i64 a0), (.int .i64 a1), (VS 4 (a2.map e_SIII))])], false⟩⟩) (Recast.mv 4 6 (nl rfl) (nl rfl) (.cons (.mv rfl (nl rfl) rfl rfl (.of (.cons .cl (.cons .cl (.cons .cl .nil))))) (.cons (.rw (nn rfl) (nn rfl) (nl rfl) rfl rfl (.of (.cons .cl (.cons .cl (.cons .cl (.cons .cl .nil)))))) (.cons (.rw (nn rfl) (nn rfl) (nl rfl) rfl rfl (.of (.cons .cl (.cons .cl (.cons .cl .nil))))) (.cons (.rw (nn rfl) (nn rfl) (nl rfl) rfl rfl (.of (.cons .cl (.cons .cl (.cons .cl (.cons .cl .nil)))))) (.cons (.rw (nn rfl) (nn rfl) (nl rfl) rfl rfl (.of (.cons .cl (.cons .cl (.cons .cl .nil))))) .nil))))) (.cons rfl (.ptr (nn rfl) (nl rfl)) (.cons rfl (.ptr (nn rfl) (nl rfl)) (.cons rfl .cl (.cons rfl .cl (.cons rfl .cl (.cons rfl (.ptrm (nl rfl)) (.cons rfl (.ptr (nn rfl) (nl rfl)) .nil)))))))) ?_
                                  refine Recast.trans (s' := ⟨[(3, (.pointer (some ⟨0, 0, none⟩))), (4, (.pointer (some ⟨1, 0, none⟩))), (8, (VS 1 (y43.1.map eI))), (9, (.int .i64 y43.2.1)), (21, (.int .i64 y127)), (22, (.pointer (some ⟨6, 0, none⟩))), (23, (.pointer (some ⟨4, 0, none⟩)))], ⟨7, [(6, .rw [(.int .i64 y133.1), (.int .i64 y133.2.1), (VS 4 (y133.2.2.map e_SIII))]), (4, .rw [(.int .i64 y135.1), (.int .i64 y135.2.1), (.int .i64 y135.2.2.1), (VS 3 (y135.2.2.2.map e_III))]), (2, .rw [(VS 1 (a7.map eI)), (VS 1 (a8.map e_L1I)), (.int .i64 a9)]), (1, .rw [(.int .i64 a3), (.int .i64 a4), (.int .i64 a5), (VS 3 (a6.map e_III))]), (0, .rw [(.int .i64 a0), (.int .i64 a1), (VS 4 (a2.map e_SIII))])], false⟩⟩) (Recast.mv 5 4 (nl rfl) (nl rfl) (.cons (.rw (nn rfl) (nn rfl) (nl rfl) rfl rfl (.of (.cons .cl (.cons .cl (.cons .cl .nil))))) (.cons (.mv rfl (nl rfl) rfl rfl (.of (.cons .cl (.cons .cl (.cons .cl (.cons .cl .nil)))))) (.cons (.rw (nn rfl) (nn rfl) (nl rfl) rfl rfl (.of (.cons .cl (.cons .cl (.cons .cl .nil))))) (.cons (.rw (nn rfl) (nn rfl) (nl rfl) rfl rfl (.of (.cons .cl (.cons .cl (.cons .cl (.cons .cl .nil)))))) (.cons (.rw (nn rfl) (nn rfl) (nl rfl) rfl rfl (.of (.cons .cl (.cons .cl (.cons .cl .nil))))) .nil))))) (.cons rfl (.ptr (nn rfl) (nl rfl)) (.cons rfl (.ptr (nn rfl) (nl rfl)) (.cons rfl .cl (.cons rfl .cl (.cons rfl .cl (.cons rfl (.ptr (nn rfl) (nl rfl)) (.cons rfl (.ptrm (nl rfl)) .nil)))))))) ?_
                                  exact (Recast.mv 6 3 (nl rfl) (nl rfl) (.cons (.rw (nn rfl) (nn rfl) (nl rfl) rfl rfl (.of (.cons .cl (.cons .cl (.cons .cl (.cons .cl .nil)))))) (.cons (.mv rfl (nl rfl) rfl rfl (.of (.cons .cl (.cons .cl (.cons .cl .nil))))) (.cons (.rw (nn rfl) (nn rfl) (nl rfl) rfl rfl (.of (.cons .cl (.cons .cl (.cons .cl .nil))))) (.cons (.rw (nn rfl) (nn rfl) (nl rfl) rfl rfl (.of (.cons .cl (.cons .cl (.cons .cl (.cons .cl .nil)))))) (.cons (.rw (nn rfl) (nn rfl) (nl rfl) rfl rfl (.of (.cons .cl (.cons .cl (.cons .cl .nil))))) .nil))))) (.cons rfl (.ptr (nn rfl) (nl rfl)) (.cons rfl (.ptr (nn rfl) (nl rfl)) (.cons rfl .cl (.cons rfl .cl (.cons rfl .cl (.cons rfl (.ptrm (nl rfl)) (.cons rfl (.ptr (nn rfl) (nl rfl)) .nil))))))))
                                · (conv=>whnf);refine ⟨?_, trivial⟩;(conv=>whnf);refine ⟨by repeat (first | exact trivial | refine And.intro rfl ?_), ?_⟩;(conv=>whnf);refine ⟨?_, trivial⟩;(conv=>whnf);refine (c310 h136).go ?_;(conv=>whnf);refine ⟨by repeat (first | exact trivial | refine And.intro rfl ?_), ?_⟩;(conv=>whnf);refine ⟨?_, trivial⟩;(conv=>whnf);refine ⟨by repeat (first | exact trivial | refine And.intro rfl ?_), ?_⟩;(conv=>whnf);refine ⟨?_, trivial⟩;(conv=>whnf);refine ⟨by repeat (first | exact trivial | refine And.intro rfl ?_), ?_⟩;(conv=>whnf);cases h130;refine Recast.trans (s' := ⟨[(3, (.pointer (some ⟨0, 0, none⟩))), (4, (.pointer (some ⟨1, 0, none⟩))), (8, (VS 1 (y43.1.map eI))), (9, (.int .i64 y43.2.1)), (21, (.int .i64 y127)), (22, (.pointer (some ⟨4, 0, none⟩))), (23, (.pointer (some ⟨5, 0, none⟩)))], ⟨6, [(4, .rw [(.int .i64 y133.1), (.int .i64 y133.2.1), (VS 4 (y133.2.2.map e_SIII))]), (5, .rw [(.int .i64 y135.1), (.int .i64 y135.2.1), (.int .i64 y135.2.2.1), (VS 3 (y135.2.2.2.map e_III))]), (2, .rw [(VS 1 (a7.map eI)), (VS 1 (a8.map e_L1I)), (.int .i64 a9)]), (1, .rw [(.int .i64 a3), (.int .i64 a4), (.int .i64 a5), (VS 3 (a6.map e_III))]), (0, .rw [(.int .i64 a0), (.int .i64 a1), (VS 4 (a2.map e_SIII))])], false⟩⟩) (Recast.mv 3 5 (nl rfl) (nl rfl) (.cons (.rw (nn rfl) (nn rfl) (nl rfl) rfl rfl (.of (.cons .cl (.cons .cl (.cons .cl .nil))))) (.cons (.mv rfl (nl rfl) rfl rfl (.of (.cons .cl (.cons .cl (.cons .cl (.cons .cl .nil)))))) (.cons (.rw (nn rfl) (nn rfl) (nl rfl) rfl rfl (.of (.cons .cl (.cons .cl (.cons .cl .nil))))) (.cons (.rw (nn rfl) (nn rfl) (nl rfl) rfl rfl (.of (.cons .cl (.cons .cl (.cons .cl (.cons .cl .nil)))))) (.cons (.rw (nn rfl) (nn rfl) (nl rfl) rfl rfl (.of (.cons .cl (.cons .cl (.cons .cl .nil))))) .nil))))) (.cons rfl (.ptr (nn rfl) (nl rfl)) (.cons rfl (.ptr (nn rfl) (nl rfl)) (.cons rfl .cl (.cons rfl .cl (.cons rfl .cl (.cons rfl (.ptr (nn rfl) (nl rfl)) (.cons rfl (.ptrm (nl rfl)) .nil)))))))) ?_
                                  refine Recast.trans (s' := ⟨[(3, (.pointer (some ⟨0, 0, none⟩))), (4, (.pointer (some ⟨1, 0, none⟩))), (8, (VS 1 (y43.1.map eI))), (9, (.int .i64 y43.2.1)), (21, (.int .i64 y127)), (22, (.pointer (some ⟨6, 0, none⟩))), (23, (.pointer (some ⟨5, 0, none⟩)))], ⟨7, [(6, .rw [(.int .i64 y133.1), (.int .i64 y133.2.1), (VS 4 (y133.2.2.map e_SIII))]), (5, .rw [(.int .i64 y135.1), (.int .i64 y135.2.1), (.int .i64 y135.2.2.1), (VS 3 (y135.2.2.2.map e_III))]), (2, .rw [(VS 1 (a7.map eI)), (VS 1 (a8.map e_L1I)), (.int .i64 a9)]), (1, .rw [(.int .i64 a3), (.int .i64 a4), (.int .i64 a5), (VS 3 (a6.map e_III))]), (0, .rw [(.int .i64 a0), (.int .i64 a1), (VS 4 (a2.map e_SIII))])], false⟩⟩) (Recast.mv 4 6 (nl rfl) (nl rfl) (.cons (.mv rfl (nl rfl) rfl rfl (.of (.cons .cl (.cons .cl (.cons .cl .nil))))) (.cons (.rw (nn rfl) (nn rfl) (nl rfl) rfl rfl (.of (.cons .cl (.cons .cl (.cons .cl (.cons .cl .nil)))))) (.cons (.rw (nn rfl) (nn rfl) (nl rfl) rfl rfl (.of (.cons .cl (.cons .cl (.cons .cl .nil))))) (.cons (.rw (nn rfl) (nn rfl) (nl rfl) rfl rfl (.of (.cons .cl (.cons .cl (.cons .cl (.cons .cl .nil)))))) (.cons (.rw (nn rfl) (nn rfl) (nl rfl) rfl rfl (.of (.cons .cl (.cons .cl (.cons .cl .nil))))) .nil))))) (.cons rfl (.ptr (nn rfl) (nl rfl)) (.cons rfl (.ptr (nn rfl) (nl rfl)) (.cons rfl .cl (.cons rfl .cl (.cons rfl .cl (.cons rfl (.ptrm (nl rfl)) (.cons rfl (.ptr (nn rfl) (nl rfl)) .nil)))))))) ?_
                                  refine Recast.trans (s' := ⟨[(3, (.pointer (some ⟨0, 0, none⟩))), (4, (.pointer (some ⟨1, 0, none⟩))), (8, (VS 1 (y43.1.map eI))), (9, (.int .i64 y43.2.1)), (21, (.int .i64 y127)), (22, (.pointer (some ⟨6, 0, none⟩))), (23, (.pointer (some ⟨4, 0, none⟩)))], ⟨7, [(6, .rw [(.int .i64 y133.1), (.int .i64 y133.2.1), (VS 4 (y133.2.2.map e_SIII))]), (4, .rw [(.int .i64 y135.1), (.int .i64 y135.2.1), (.int .i64 y135.2.2.1), (VS 3 (y135.2.2.2.map e_III))]), (2, .rw [(VS 1 (a7.map eI)), (VS 1 (a8.map e_L1I)), (.int .i64 a9)]), (1, .rw [(.int .i64 a3), (.int .i64 a4), (.int .i64 a5), (VS 3 (a6.map e_III))]), (0, .rw [(.int .i64 a0), (.int .i64 a1), (VS 4 (a2.map e_SIII))])], false⟩⟩) (Recast.mv 5 4 (nl rfl) (nl rfl) (.cons (.rw (nn rfl) (nn rfl) (nl rfl) rfl rfl (.of (.cons .cl (.cons .cl (.cons .cl .nil))))) (.cons (.mv rfl (nl rfl) rfl rfl (.of (.cons .cl (.cons .cl (.cons .cl (.cons .cl .nil)))))) (.cons (.rw (nn rfl) (nn rfl) (nl rfl) rfl rfl (.of (.cons .cl (.cons .cl (.cons .cl .nil))))) (.cons (.rw (nn rfl) (nn rfl) (nl rfl) rfl rfl (.of (.cons .cl (.cons .cl (.cons .cl (.cons .cl .nil)))))) (.cons (.rw (nn rfl) (nn rfl) (nl rfl) rfl rfl (.of (.cons .cl (.cons .cl (.cons .cl .nil))))) .nil))))) (.cons rfl (.ptr (nn rfl) (nl rfl)) (.cons rfl (.ptr (nn rfl) (nl rfl)) (.cons rfl .cl (.cons rfl .cl (.cons rfl .cl (.cons rfl (.ptr (nn rfl) (nl rfl)) (.cons rfl (.ptrm (nl rfl)) .nil)))))))) ?_
                                  exact (Recast.mv 6 3 (nl rfl) (nl rfl) (.cons (.rw (nn rfl) (nn rfl) (nl rfl) rfl rfl (.of (.cons .cl (.cons .cl (.cons .cl (.cons .cl .nil)))))) (.cons (.mv rfl (nl rfl) rfl rfl (.of (.cons .cl (.cons .cl (.cons .cl .nil))))) (.cons (.rw (nn rfl) (nn rfl) (nl rfl) rfl rfl (.of (.cons .cl (.cons .cl (.cons .cl .nil))))) (.cons (.rw (nn rfl) (nn rfl) (nl rfl) rfl rfl (.of (.cons .cl (.cons .cl (.cons .cl (.cons .cl .nil)))))) (.cons (.rw (nn rfl) (nn rfl) (nl rfl) rfl rfl (.of (.cons .cl (.cons .cl (.cons .cl .nil))))) .nil))))) (.cons rfl (.ptr (nn rfl) (nl rfl)) (.cons rfl (.ptr (nn rfl) (nl rfl)) (.cons rfl .cl (.cons rfl .cl (.cons rfl .cl (.cons rfl (.ptrm (nl rfl)) (.cons rfl (.ptr (nn rfl) (nl rfl)) .nil))))))))
                          · obtain ⟨y133, h134, h130⟩ := obnd_some h130;obtain ⟨y135, h136, h130⟩ := obnd_some h130;(conv=>whnf);refine ⟨?_, ?_⟩
                            · (conv=>whnf);refine ⟨by repeat (first | exact trivial | refine And.intro rfl ?_), ?_⟩;(conv=>whnf);refine ⟨?_, ?_⟩
                              · (conv=>whnf);refine (c309 h134).go ?_;(conv=>whnf);refine ⟨by repeat (first | exact trivial | refine And.intro rfl ?_), ?_⟩;(conv=>whnf);refine ⟨?_, ?_⟩
                                · (conv=>whnf);refine (c310 h136).go ?_;(conv=>whnf);refine ⟨by repeat (first | exact trivial | refine And.intro rfl ?_), ?_⟩;(conv=>whnf);refine ⟨?_, trivial⟩;(conv=>whnf);refine ⟨by repeat (first | exact trivial | refine And.intro rfl ?_), ?_⟩;(conv=>whnf);refine ⟨?_, trivial⟩;(conv=>whnf);refine ⟨by repeat (first | exact trivial | refine And.intro rfl ?_), ?_⟩;(conv=>whnf);refine ⟨?_, trivial⟩;(conv=>whnf);refine ⟨by repeat (first | exact trivial | refine And.intro rfl ?_), ?_⟩;(conv=>whnf);cases h130;exact Recast.fz (fun _ => false) (nl rfl) (.cons (.same rfl rfl (OBnd.rwl (nl rfl) rfl (.cons .cl (.cons .cl (.cons .cl (.cons .cl .nil)))))) (.cons (.same rfl rfl (OBnd.rwl (nl rfl) rfl (.cons .cl (.cons .cl (.cons .cl .nil))))) (.cons (.same rfl rfl (OBnd.rwl (nl rfl) rfl (.cons .cl (.cons .cl (.cons .cl .nil))))) (.cons (.same rfl rfl (OBnd.rwl (nl rfl) rfl (.cons .cl (.cons .cl (.cons .cl (.cons .cl .nil)))))) (.cons (.same rfl rfl (OBnd.rwl (nl rfl) rfl (.cons .cl (.cons .cl (.cons .cl .nil))))) .nil))))) (.cons rfl (.same _ (.ptr (nl rfl))) (.cons rfl (.same _ (.ptr (nl rfl))) (.cons rfl (.same _ .cl) (.cons rfl (.same _ .cl) (.cons rfl (.same _ .cl) (.cons rfl (.same _ (.ptr (nl rfl))) (.cons rfl (.same _ (.ptr (nl rfl))) .nil)))))))
                                · (conv=>whnf);refine ⟨?_, trivial⟩;(conv=>whnf);refine ⟨by repeat (first | exact trivial | refine And.intro rfl ?_), ?_⟩;(conv=>whnf);refine ⟨?_, trivial⟩;(conv=>whnf);refine (c310 h136).go ?_;(conv=>whnf);refine ⟨by repeat (first | exact trivial | refine And.intro rfl ?_), ?_⟩;(conv=>whnf);refine ⟨?_, trivial⟩;(conv=>whnf);refine ⟨by repeat (first | exact trivial | refine And.intro rfl ?_), ?_⟩;(conv=>whnf);refine ⟨?_, trivial⟩;(conv=>whnf);refine ⟨by repeat (first | exact trivial | refine And.intro rfl ?_), ?_⟩;(conv=>whnf);cases h130;exact Recast.fz (fun _ => false) (nl rfl) (.cons (.same rfl rfl (OBnd.rwl (nl rfl) rfl (.cons .cl (.cons .cl (.cons .cl (.cons .cl .nil)))))) (.cons (.same rfl rfl (OBnd.rwl (nl rfl) rfl (.cons .cl (.cons .cl (.cons .cl .nil))))) (.cons (.same rfl rfl (OBnd.rwl (nl rfl) rfl (.cons .cl (.cons .cl (.cons .cl .nil))))) (.cons (.same rfl rfl (OBnd.rwl (nl rfl) rfl (.cons .cl (.cons .cl (.cons .cl (.cons .cl .nil)))))) (.cons (.same rfl rfl (OBnd.rwl (nl rfl) rfl (.cons .cl (.cons .cl (.cons .cl .nil))))) .nil))))) (.cons rfl (.same _ (.ptr (nl rfl))) (.cons rfl (.same _ (.ptr (nl rfl))) (.cons rfl (.same _ .cl) (.cons rfl (.same _ .cl) (.cons rfl (.same _ .cl) (.cons rfl (.same _ (.ptr (nl rfl))) (.cons rfl (.same _ (.ptr (nl rfl))) .nil)))))))
                              · (conv=>whnf);refine ⟨?_, trivial⟩;(conv=>whnf);refine ⟨by repeat (first | exact trivial | refine And.intro rfl ?_), ?_⟩;(conv=>whnf);refine ⟨?_, trivial⟩;(conv=>whnf);refine (c309 h134).go ?_;(conv=>whnf);refine ⟨by repeat (first | exact trivial | refine And.intro rfl ?_), ?_⟩;(conv=>whnf);refine ⟨?_, trivial⟩;(conv=>whnf);refine (c310 h136).go ?_;(conv=>whnf);refine ⟨by repeat (first | exact trivial | refine And.intro rfl ?_), ?_⟩;(conv=>whnf);refine ⟨?_, trivial⟩;(conv=>whnf);refine ⟨by repeat (first | exact trivial | refine And.intro rfl ?_), ?_⟩;(conv=>whnf);refine ⟨?_, trivial⟩;(conv=>whnf)
                                refine ⟨by repeat (first | exact trivial | refine And.intro rfl ?_), ?_⟩;(conv=>whnf);cases h130;exact Recast.fz (fun _ => false) (nl rfl) (.cons (.same rfl rfl (OBnd.rwl (nl rfl) rfl (.cons .cl (.cons .cl (.cons .cl (.cons .cl .nil)))))) (.cons (.same rfl rfl (OBnd.rwl (nl rfl) rfl (.cons .cl (.cons .cl (.cons .cl .nil))))) (.cons (.same rfl rfl (OBnd.rwl (nl rfl) rfl (.cons .cl (.cons .cl (.cons .cl .nil))))) (.cons (.same rfl rfl (OBnd.rwl (nl rfl) rfl (.cons .cl (.cons .cl (.cons .cl (.cons .cl .nil)))))) (.cons (.same rfl rfl (OBnd.rwl (nl rfl) rfl (.cons .cl (.cons .cl (.cons .cl .nil))))) .nil))))) (.cons rfl (.same _ (.ptr (nl rfl))) (.cons rfl (.same _ (.ptr (nl rfl))) (.cons rfl (.same _ .cl) (.cons rfl (.same _ .cl) (.cons rfl (.same _ .cl) (.cons rfl (.same _ (.ptr (nl rfl))) (.cons rfl (.same _ (.ptr (nl rfl))) .nil)))))))
                            · (conv=>whnf);refine ⟨?_, trivial⟩;(conv=>whnf);refine ⟨by repeat (first | exact trivial | refine And.intro rfl ?_), ?_⟩;(conv=>whnf);refine ⟨?_, ?_⟩
                              · (conv=>whnf);refine (c309 h134).go ?_;(conv=>whnf);refine ⟨by repeat (first | exact trivial | refine And.intro rfl ?_), ?_⟩;(conv=>whnf);refine ⟨?_, ?_⟩
                                · (conv=>whnf);refine (c310 h136).go ?_;(conv=>whnf);refine ⟨by repeat (first | exact trivial | refine And.intro rfl ?_), ?_⟩;(conv=>whnf);refine ⟨?_, trivial⟩;(conv=>whnf);refine ⟨by repeat (first | exact trivial | refine And.intro rfl ?_), ?_⟩;(conv=>whnf);refine ⟨?_, trivial⟩;(conv=>whnf);refine ⟨by repeat (first | exact trivial | refine And.intro rfl ?_), ?_⟩;(conv=>whnf);refine ⟨?_, trivial⟩;(conv=>whnf);refine ⟨by repeat (first | exact trivial | refine And.intro rfl ?_), ?_⟩;(conv=>whnf);cases h130;refine Recast.trans (s' := ⟨[(3, (.pointer (some ⟨0, 0, none⟩))), (4, (.pointer (some ⟨1, 0, none⟩))), (8, (VS 1 (y43.1.map eI))), (9, (.int .i64 y43.2.1)), (21, (.int .i64 y127)), (22, (.pointer (some ⟨4, 0, none⟩))), (23, (.pointer (some ⟨5, 0, none⟩)))], ⟨6, [(4, .rw [(.int .i64 y133.1), (.int .i64 y133.2.1), (VS 4 (y133.2.2.map e_SIII))]), (5, .rw [(.int .i64 y135.1), (.int .i64 y135.2.1), (.int .i64 y135.2.2.1), (VS 3 (y135.2.2.2.map e_III))]), (2, .rw [(VS 1 (a7.map eI)), (VS 1 (a8.map e_L1I)), (.int .i64 a9)]), (1, .rw [(.int .i64 a3), (.int .i64 a4), (.int .i64 a5), (VS 3 (a6.map e_III))]), (0, .rw [(.int .i64 a0), (.int .i64 a1), (VS 4 (a2.map e_SIII))])], false⟩⟩) (Recast.mv 3 5 (nl rfl) (nl rfl) (.cons (.rw (nn rfl) (nn rfl) (nl rfl) rfl rfl (.of (.cons .cl (.cons .cl (.cons .cl .nil))))) (.cons (.mv rfl (nl rfl) rfl rfl (.of (.cons .cl (.cons .cl (.cons .cl (.cons .cl .nil)))))) (.cons (.rw (nn rfl) (nn rfl) (nl rfl) rfl rfl (.of (.cons .cl (.cons .cl (.cons .cl .nil))))) (.cons (.rw (nn rfl) (nn rfl) (nl rfl) rfl rfl (.of (.cons .cl (.cons .cl (.cons .cl (.cons .cl .nil)))))) (.cons (.rw (nn rfl) (nn rfl) (nl rfl) rfl rfl (.of (.cons .cl (.cons .cl (.cons .cl .nil))))) .nil))))) (.cons rfl (.ptr (nn rfl) (nl rfl)) (.cons rfl (.ptr (nn rfl) (nl rfl)) (.cons rfl .cl (.cons rfl .cl (.cons rfl .cl (.cons rfl (.ptr (nn rfl) (nl rfl)) (.cons rfl (.ptrm (nl rfl)) .nil)))))))) ?_
                                  refine Recast.trans (s' := ⟨[(3, (.pointer (some ⟨0, 0, none⟩))), (4, (.pointer (some ⟨1, 0, none⟩))), (8, (VS 1 (y43.1.map eI))), (9, (.int .i64 y43.2.1)), (21, (.int .i64 y127)), (22, (.pointer (some ⟨6, 0, none⟩))), (23, (.pointer (some ⟨5, 0, none⟩)))], ⟨7, [(6, .rw [(.int .i64 y133.1), (.int .i64 y133.2.1), (VS 4 (y133.2.2.map e_SIII))]), (5, .rw [(.int .i64 y135.1), (.int .i64 y135.2.1), (.int .i64 y135.2.2.1), (VS 3 (y135.2.2.2.map e_III))]), (2, .rw [(VS 1 (a7.map eI)), (VS 1 (a8.map e_L1I)), (.int .i64 a9)]), (1, .rw [(.int .i64 a3), (.int .i64 a4), (.int .i64 a5), (VS 3 (a6.map e_III))]), (0, .rw [(.int .i64 a0), (.int .i64 a1), (VS 4 (a2.map e_SIII))])], false⟩⟩) (Recast.mv 4 6 (nl rfl) (nl rfl) (.cons (.mv rfl (nl rfl) rfl rfl (.of (.cons .cl (.cons .cl (.cons .cl .nil))))) (.cons (.rw (nn rfl) (nn rfl) (nl rfl) rfl rfl (.of (.cons .cl (.cons .cl (.cons .cl (.cons .cl .nil)))))) (.cons (.rw (nn rfl) (nn rfl) (nl rfl) rfl rfl (.of (.cons .cl (.cons .cl (.cons .cl .nil))))) (.cons (.rw (nn rfl) (nn rfl) (nl rfl) rfl rfl (.of (.cons .cl (.cons .cl (.cons .cl (.cons .cl .nil)))))) (.cons (.rw (nn rfl) (nn rfl) (nl rfl) rfl rfl (.of (.cons .cl (.cons .cl (.cons .cl .nil))))) .nil))))) (.cons rfl (.ptr (nn rfl) (nl rfl)) (.cons rfl (.ptr (nn rfl) (nl rfl)) (.cons rfl .cl (.cons rfl .cl (.cons rfl .cl (.cons rfl (.ptrm (nl rfl)) (.cons rfl (.ptr (nn rfl) (nl rfl)) .nil)))))))) ?_
                                  refine Recast.trans (s' := ⟨[(3, (.pointer (some ⟨0, 0, none⟩))), (4, (.pointer (some ⟨1, 0, none⟩))), (8, (VS 1 (y43.1.map eI))), (9, (.int .i64 y43.2.1)), (21, (.int .i64 y127)), (22, (.pointer (some ⟨6, 0, none⟩))), (23, (.pointer (some ⟨4, 0, none⟩)))], ⟨7, [(6, .rw [(.int .i64 y133.1), (.int .i64 y133.2.1), (VS 4 (y133.2.2.map e_SIII))]), (4, .rw [(.int .i64 y135.1), (.int .i64 y135.2.1), (.int .i64 y135.2.2.1), (VS 3 (y135.2.2.2.map e_III))]), (2, .rw [(VS 1 (a7.map eI)), (VS 1 (a8.map e_L1I)), (.int .i64 a9)]), (1, .rw [(.int .i64 a3), (.int .i64 a4), (.int .i64 a5), (VS 3 (a6.map e_III))]), (0, .rw [(.int .i64 a0), (.int .i64 a1), (VS 4 (a2.map e_SIII))])], false⟩⟩) (Recast.mv 5 4 (nl rfl) (nl rfl) (.cons (.rw (nn rfl) (nn rfl) (nl rfl) rfl rfl (.of (.cons .cl (.cons .cl (.cons .cl .nil))))) (.cons (.mv rfl (nl rfl) rfl rfl (.of (.cons .cl (.cons .cl (.cons .cl (.cons .cl .nil)))))) (.cons (.rw (nn rfl) (nn rfl) (nl rfl) rfl rfl (.of (.cons .cl (.cons .cl (.cons .cl .nil))))) (.cons (.rw (nn rfl) (nn rfl) (nl rfl) rfl rfl (.of (.cons .cl (.cons .cl (.cons .cl (.cons .cl .nil)))))) (.cons (.rw (nn rfl) (nn rfl) (nl rfl) rfl rfl (.of (.cons .cl (.cons .cl (.cons .cl .nil))))) .nil))))) (.cons rfl (.ptr (nn rfl) (nl rfl)) (.cons rfl (.ptr (nn rfl) (nl rfl)) (.cons rfl .cl (.cons rfl .cl (.cons rfl .cl (.cons rfl (.ptr (nn rfl) (nl rfl)) (.cons rfl (.ptrm (nl rfl)) .nil)))))))) ?_
                                  exact (Recast.mv 6 3 (nl rfl) (nl rfl) (.cons (.rw (nn rfl) (nn rfl) (nl rfl) rfl rfl (.of (.cons .cl (.cons .cl (.cons .cl (.cons .cl .nil)))))) (.cons (.mv rfl (nl rfl) rfl rfl (.of (.cons .cl (.cons .cl (.cons .cl .nil))))) (.cons (.rw (nn rfl) (nn rfl) (nl rfl) rfl rfl (.of (.cons .cl (.cons .cl (.cons .cl .nil))))) (.cons (.rw (nn rfl) (nn rfl) (nl rfl) rfl rfl (.of (.cons .cl (.cons .cl (.cons .cl (.cons .cl .nil)))))) (.cons (.rw (nn rfl) (nn rfl) (nl rfl) rfl rfl (.of (.cons .cl (.cons .cl (.cons .cl .nil))))) .nil))))) (.cons rfl (.ptr (nn rfl) (nl rfl)) (.cons rfl (.ptr (nn rfl) (nl rfl)) (.cons rfl .cl (.cons rfl .cl (.cons rfl .cl (.cons rfl (.ptrm (nl rfl)) (.cons rfl (.ptr (nn rfl) (nl rfl)) .nil))))))))
                                · (conv=>whnf);refine ⟨?_, trivial⟩;(conv=>whnf);refine ⟨by repeat (first | exact trivial | refine And.intro rfl ?_), ?_⟩;(conv=>whnf);refine ⟨?_, trivial⟩;(conv=>whnf);refine (c310 h136).go ?_;(conv=>whnf);refine ⟨by repeat (first | exact trivial | refine And.intro rfl ?_), ?_⟩;(conv=>whnf);refine ⟨?_, trivial⟩;(conv=>whnf);refine ⟨by repeat (first | exact trivial | refine And.intro rfl ?_), ?_⟩;(conv=>whnf);refine ⟨?_, trivial⟩;(conv=>whnf);refine ⟨by repeat (first | exact trivial | refine And.intro rfl ?_), ?_⟩;(conv=>whnf);cases h130;refine Recast.trans (s' := ⟨[(3, (.pointer (some ⟨0, 0, none⟩))), (4, (.pointer (some ⟨1, 0, none⟩))), (8, (VS 1 (y43.1.map eI))), (9, (.int .i64 y43.2.1)), (21, (.int .i64 y127)), (22, (.pointer (some ⟨4, 0, none⟩))), (23, (.pointer (some ⟨5, 0, none⟩)))], ⟨6, [(4, .rw [(.int .i64 y133.1), (.int .i64 y133.2.1), (VS 4 (y133.2.2.map e_SIII))]), (5, .rw [(.int .i64 y135.1), (.int .i64 y135.2.1), (.int .i64 y135.2.2.1), (VS 3 (y135.2.2.2.map e_III))]), (2, .rw [(VS 1 (a7.map eI)), (VS 1 (a8.map e_L1I)), (.int .i64 a9)]), (1, .rw [(.int .i64 a3), (.int .i64 a4), (.int .i64 a5), (VS 3 (a6.map e_III))]), (0, .rw [(.int .i64 a0), (.int .i64 a1), (VS 4 (a2.map e_SIII))])], false⟩⟩) (Recast.mv 3 5 (nl rfl) (nl rfl) (.cons (.rw (nn rfl) (nn rfl) (nl rfl) rfl rfl (.of (.cons .cl (.cons .cl (.cons .cl .nil))))) (.cons (.mv rfl (nl rfl) rfl rfl (.of (.cons .cl (.cons .cl (.cons .cl (.cons .cl .nil)))))) (.cons (.rw (nn rfl) (nn rfl) (nl rfl) rfl rfl (.of (.cons .cl (.cons .cl (.cons .cl .nil))))) (.cons (.rw (nn rfl) (nn rfl) (nl rfl) rfl rfl (.of (.cons .cl (.cons .cl (.cons .cl (.cons .cl .nil)))))) (.cons (.rw (nn rfl) (nn rfl) (nl rfl) rfl rfl (.of (.cons .cl (.cons .cl (.cons .cl .nil))))) .nil))))) (.cons rfl (.ptr (nn rfl) (nl rfl)) (.cons rfl (.ptr (nn rfl) (nl rfl)) (.cons rfl .cl (.cons rfl .cl (.cons rfl .cl (.cons rfl (.ptr (nn rfl) (nl rfl)) (.cons rfl (.ptrm (nl rfl)) .nil)))))))) ?_
                                  refine Recast.trans (s' := ⟨[(3, (.pointer (some ⟨0, 0, none⟩))), (4, (.pointer (some ⟨1, 0, none⟩))), (8, (VS 1 (y43.1.map eI))), (9, (.int .i64 y43.2.1)), (21, (.int .i64 y127)), (22, (.pointer (some ⟨6, 0, none⟩))), (23, (.pointer (some ⟨5, 0, none⟩)))], ⟨7, [(6, .rw [(.int .i64 y133.1), (.int .i64 y133.2.1), (VS 4 (y133.2.2.map e_SIII))]), (5, .rw [(.int .i64 y135.1), (.int .i64 y135.2.1), (.int .i64 y135.2.2.1), (VS 3 (y135.2.2.2.map e_III))]), (2, .rw [(VS 1 (a7.map eI)), (VS 1 (a8.map e_L1I)), (.int .i64 a9)]), (1, .rw [(.int .i64 a3), (.int .i64 a4), (.int .i64 a5), (VS 3 (a6.map e_III))]), (0, .rw [(.int .i64 a0), (.int .i64 a1), (VS 4 (a2.map e_SIII))])], false⟩⟩) (Recast.mv 4 6 (nl rfl) (nl rfl) (.cons (.mv rfl (nl rfl) rfl rfl (.of (.cons .cl (.cons .cl (.cons .cl .nil))))) (.cons (.rw (nn rfl) (nn rfl) (nl rfl) rfl rfl (.of (.cons .cl (.cons .cl (.cons .cl (.cons .cl .nil)))))) (.cons (.rw (nn rfl) (nn rfl) (nl rfl) rfl rfl (.of (.cons .cl (.cons .cl (.cons .cl .nil))))) (.cons (.rw (nn rfl) (nn rfl) (nl rfl) rfl rfl (.of (.cons .cl (.cons .cl (.cons .cl (.cons .cl .nil)))))) (.cons (.rw (nn rfl) (nn rfl) (nl rfl) rfl rfl (.of (.cons .cl (.cons .cl (.cons .cl .nil))))) .nil))))) (.cons rfl (.ptr (nn rfl) (nl rfl)) (.cons rfl (.ptr (nn rfl) (nl rfl)) (.cons rfl .cl (.cons rfl .cl (.cons rfl .cl (.cons rfl (.ptrm (nl rfl)) (.cons rfl (.ptr (nn rfl) (nl rfl)) .nil)))))))) ?_
                                  refine Recast.trans (s' := ⟨[(3, (.pointer (some ⟨0, 0, none⟩))), (4, (.pointer (some ⟨1, 0, none⟩))), (8, (VS 1 (y43.1.map eI))), (9, (.int .i64 y43.2.1)), (21, (.int .i64 y127)), (22, (.pointer (some ⟨6, 0, none⟩))), (23, (.pointer (some ⟨4, 0, none⟩)))], ⟨7, [(6, .rw [(.int .i64 y133.1), (.int .i64 y133.2.1), (VS 4 (y133.2.2.map e_SIII))]), (4, .rw [(.int .i64 y135.1), (.int .i64 y135.2.1), (.int .i64 y135.2.2.1), (VS 3 (y135.2.2.2.map e_III))]), (2, .rw [(VS 1 (a7.map eI)), (VS 1 (a8.map e_L1I)), (.int .i64 a9)]), (1, .rw [(.int .i64 a3), (.int .i64 a4), (.int .i64 a5), (VS 3 (a6.map e_III))]), (0, .rw [(.int .i64 a0), (.int .i64 a1), (VS 4 (a2.map e_SIII))])], false⟩⟩) (Recast.mv 5 4 (nl rfl) (nl rfl) (.cons (.rw (nn rfl) (nn rfl) (nl rfl) rfl rfl (.of (.cons .cl (.cons .cl (.cons .cl .nil))))) (.cons (.mv rfl (nl rfl) rfl rfl (.of (.cons .cl (.cons .cl (.cons .cl (.cons .cl .nil)))))) (.cons (.rw (nn rfl) (nn rfl) (nl rfl) rfl rfl (.of (.cons .cl (.cons .cl (.cons .cl .nil))))) (.cons (.rw (nn rfl) (nn rfl) (nl rfl) rfl rfl (.of (.cons .cl (.cons .cl (.cons .cl (.cons .cl .nil)))))) (.cons (.rw (nn rfl) (nn rfl) (nl rfl) rfl rfl (.of (.cons .cl (.cons .cl (.cons .cl .nil))))) .nil))))) (.cons rfl (.ptr (nn rfl) (nl rfl)) (.cons rfl (.ptr (nn rfl) (nl rfl)) (.cons rfl .cl (.cons rfl .cl (.cons rfl .cl (.cons rfl (.ptr (nn rfl) (nl rfl)) (.cons rfl (.ptrm (nl rfl)) .nil)))))))) ?_
                                  exact (Recast.mv 6 3 (nl rfl) (nl rfl) (.cons (.rw (nn rfl) (nn rfl) (nl rfl) rfl rfl (.of (.cons .cl (.cons .cl (.cons .cl (.cons .cl .nil)))))) (.cons (.mv rfl (nl rfl) rfl rfl (.of (.cons .cl (.cons .cl (.cons .cl .nil))))) (.cons (.rw (nn rfl) (nn rfl) (nl rfl) rfl rfl (.of (.cons .cl (.cons .cl (.cons .cl .nil))))) (.cons (.rw (nn rfl) (nn rfl) (nl rfl) rfl rfl (.of (.cons .cl (.cons .cl (.cons .cl (.cons .cl .nil)))))) (.cons (.rw (nn rfl) (nn rfl) (nl rfl) rfl rfl (.of (.cons .cl (.cons .cl (.cons .cl .nil))))) .nil))))) (.cons rfl (.ptr (nn rfl) (nl rfl)) (.cons rfl (.ptr (nn rfl) (nl rfl)) (.cons rfl .cl (.cons rfl .cl (.cons rfl .cl (.cons rfl (.ptrm (nl rfl)) (.cons rfl (.ptr (nn rfl) (nl rfl)) .nil))))))))
                              · (conv=>whnf);refine ⟨?_, trivial⟩;(conv=>whnf);refine ⟨by repeat (first | exact trivial | refine And.intro rfl ?_), ?_⟩;(conv=>whnf);refine ⟨?_, trivial⟩;(conv=>whnf);refine (c309 h134).go ?_;(conv=>whnf);refine ⟨by repeat (first | exact trivial | refine And.intro rfl ?_), ?_⟩;(conv=>whnf);refine ⟨?_, trivial⟩;(conv=>whnf);refine (c310 h136).go ?_;(conv=>whnf);refine ⟨by repeat (first | exact trivial | refine And.intro rfl ?_), ?_⟩;(conv=>whnf);refine ⟨?_, trivial⟩;(conv=>whnf);refine ⟨by repeat (first | exact trivial | refine And.intro rfl ?_), ?_⟩;(conv=>whnf);refine ⟨?_, trivial⟩;(conv=>whnf)
                                refine ⟨by repeat (first | exact trivial | refine And.intro rfl ?_), ?_⟩;(conv=>whnf);cases h130;refine Recast.trans (s' := ⟨[(3, (.pointer (some ⟨0, 0, none⟩))), (4, (.pointer (some ⟨1, 0, none⟩))), (8, (VS 1 (y43.1.map eI))), (9, (.int .i64 y43.2.1)), (21, (.int .i64 y127)), (22, (.pointer (some ⟨4, 0, none⟩))), (23, (.pointer (some ⟨5, 0, none⟩)))], ⟨6, [(4, .rw [(.int .i64 y133.1), (.int .i64 y133.2.1), (VS 4 (y133.2.2.map e_SIII))]), (5, .rw [(.int .i64 y135.1), (.int .i64 y135.2.1), (.int .i64 y135.2.2.1), (VS 3 (y135.2.2.2.map e_III))]), (2, .rw [(VS 1 (a7.map eI)), (VS 1 (a8.map e_L1I)), (.int .i64 a9)]), (1, .rw [(.int .i64 a3), (.int .i64 a4), (.int .i64 a5), (VS 3 (a6.map e_III))]), (0, .rw [(.int .i64 a0), (.int .i64 a1), (VS 4 (a2.map e_SIII))])], false⟩⟩) (Recast.mv 3 5 (nl rfl) (nl rfl) (.cons (.rw (nn rfl) (nn rfl) (nl rfl) rfl rfl (.of (.cons .cl (.cons .cl (.cons .cl .nil))))) (.cons (.mv rfl (nl rfl) rfl rfl (.of (.cons .cl (.cons .cl (.cons .cl (.cons .cl .nil)))))) (.cons (.rw (nn rfl) (nn rfl) (nl rfl) rfl rfl (.of (.cons .cl (.cons .cl (.cons .cl .nil))))) (.cons (.rw (nn rfl) (nn rfl) (nl rfl) rfl rfl (.of (.cons .cl (.cons .cl (.cons .cl (.cons .cl .nil)))))) (.cons (.rw (nn rfl) (nn rfl) (nl rfl) rfl rfl (.of (.cons .cl (.cons .cl (.cons .cl .nil))))) .nil))))) (.cons rfl (.ptr (nn rfl) (nl rfl)) (.cons rfl (.ptr (nn rfl) (nl rfl)) (.cons rfl .cl (.cons rfl .cl (.cons rfl .cl (.cons rfl (.ptr (nn rfl) (nl rfl)) (.cons rfl (.ptrm (nl rfl)) .nil)))))))) ?_
                                refine Recast.trans (s' := ⟨[(3, (.pointer (some ⟨0, 0, none⟩))), (4, (.pointer (some ⟨1, 0, none⟩))), (8, (VS 1 (y43.1.map eI))), (9, (.int .i64 y43.2.1)), (21, (.int .i64 y127)), (22, (.pointer (some ⟨6, 0, none⟩))), (23, (.pointer (some ⟨5, 0, none⟩)))], ⟨7, [(6, .rw [(.int .i64 y133.1), (.int .i64 y133.2.1), (VS 4 (y133.2.2.map e_SIII))]), (5, .rw [(.int .i64 y135.1), (.int .i64 y135.2.1), (.int .i64 y135.2.2.1), (VS 3 (y135.2.2.2.map e_III))]), (2, .rw [(VS 1 (a7.map eI)), (VS 1 (a8.map e_L1I)), (.int .i64 a9)]), (1, .rw [(.int .i64 a3), (.int .i64 a4), (.int .i64 a5), (VS 3 (a6.map e_III))]), (0, .rw [(.int .i64 a0), (.int .i64 a1), (VS 4 (a2.map e_SIII))])], false⟩⟩) (Recast.mv 4 6 (nl rfl) (nl rfl) (.cons (.mv rfl (nl rfl) rfl rfl (.of (.cons .cl (.cons .cl (.cons .cl .nil))))) (.cons (.rw (nn rfl) (nn rfl) (nl rfl) rfl rfl (.of (.cons .cl (.cons .cl (.cons .cl (.cons .cl .nil)))))) (.cons (.rw (nn rfl) (nn rfl) (nl rfl) rfl rfl (.of (.cons .cl (.cons .cl (.cons .cl .nil))))) (.cons (.rw (nn rfl) (nn rfl) (nl rfl) rfl rfl (.of (.cons .cl (.cons .cl (.cons .cl (.cons .cl .nil)))))) (.cons (.rw (nn rfl) (nn rfl) (nl rfl) rfl rfl (.of (.cons .cl (.cons .cl (.cons .cl .nil))))) .nil))))) (.cons rfl (.ptr (nn rfl) (nl rfl)) (.cons rfl (.ptr (nn rfl) (nl rfl)) (.cons rfl .cl (.cons rfl .cl (.cons rfl .cl (.cons rfl (.ptrm (nl rfl)) (.cons rfl (.ptr (nn rfl) (nl rfl)) .nil)))))))) ?_
                                refine Recast.trans (s' := ⟨[(3, (.pointer (some ⟨0, 0, none⟩))), (4, (.pointer (some ⟨1, 0, none⟩))), (8, (VS 1 (y43.1.map eI))), (9, (.int .i64 y43.2.1)), (21, (.int .i64 y127)), (22, (.pointer (some ⟨6, 0, none⟩))), (23, (.pointer (some ⟨4, 0, none⟩)))], ⟨7, [(6, .rw [(.int .i64 y133.1), (.int .i64 y133.2.1), (VS 4 (y133.2.2.map e_SIII))]), (4, .rw [(.int .i64 y135.1), (.int .i64 y135.2.1), (.int .i64 y135.2.2.1), (VS 3 (y135.2.2.2.map e_III))]), (2, .rw [(VS 1 (a7.map eI)), (VS 1 (a8.map e_L1I)), (.int .i64 a9)]), (1, .rw [(.int .i64 a3), (.int .i64 a4), (.int .i64 a5), (VS 3 (a6.map e_III))]), (0, .rw [(.int .i64 a0), (.int .i64 a1), (VS 4 (a2.map e_SIII))])], false⟩⟩) (Recast.mv 5 4 (nl rfl) (nl rfl) (.cons (.rw (nn rfl) (nn rfl) (nl rfl) rfl rfl (.of (.cons .cl (.cons .cl (.cons .cl .nil))))) (.cons (.mv rfl (nl rfl) rfl rfl (.of (.cons .cl (.cons .cl (.cons .cl (.cons .cl .nil)))))) (.cons (.rw (nn rfl) (nn rfl) (nl rfl) rfl rfl (.of (.cons .cl (.cons .cl (.cons .cl .nil))))) (.cons (.rw (nn rfl) (nn rfl) (nl rfl) rfl rfl (.of (.cons .cl (.cons .cl (.cons .cl (.cons .cl .nil)))))) (.cons (.rw (nn rfl) (nn rfl) (nl rfl) rfl rfl (.of (.cons .cl (.cons .cl (.cons .cl .nil))))) .nil))))) (.cons rfl (.ptr (nn rfl) (nl rfl)) (.cons rfl (.ptr (nn rfl) (nl rfl)) (.cons rfl .cl (.cons rfl .cl (.cons rfl .cl (.cons rfl (.ptr (nn rfl) (nl rfl)) (.cons rfl (.ptrm (nl rfl)) .nil)))))))) ?_
                                exact (Recast.mv 6 3 (nl rfl) (nl rfl) (.cons (.rw (nn rfl) (nn rfl) (nl rfl) rfl rfl (.of (.cons .cl (.cons .cl (.cons .cl (.cons .cl .nil)))))) (.cons (.mv rfl (nl rfl) rfl rfl (.of (.cons .cl (.cons .cl (.cons .cl .nil))))) (.cons (.rw (nn rfl) (nn rfl) (nl rfl) rfl rfl (.of (.cons .cl (.cons .cl (.cons .cl .nil))))) (.cons (.rw (nn rfl) (nn rfl) (nl rfl) rfl rfl (.of (.cons .cl (.cons .cl (.cons .cl (.cons .cl .nil)))))) (.cons (.rw (nn rfl) (nn rfl) (nl rfl) rfl rfl (.of (.cons .cl (.cons .cl (.cons .cl .nil))))) .nil))))) (.cons rfl (.ptr (nn rfl) (nl rfl)) (.cons rfl (.ptr (nn rfl) (nl rfl)) (.cons rfl .cl (.cons rfl .cl (.cons rfl .cl (.cons rfl (.ptrm (nl rfl)) (.cons rfl (.ptr (nn rfl) (nl rfl)) .nil))))))))
                        · refine pw_sd ?_;(conv=>whnf);refine ⟨?_, trivial⟩;(conv=>whnf);refine ⟨by repeat (first | exact trivial | refine And.intro rfl ?_), ?_⟩;(conv=>whnf);refine ⟨?_, trivial⟩;(conv=>whnf);refine ⟨by repeat (first | exact trivial | refine And.intro rfl ?_), ?_⟩;(conv=>whnf);refine ⟨?_, trivial⟩;(conv=>whnf);refine ⟨by repeat (first | exact trivial | refine And.intro rfl ?_), ?_⟩;(conv=>whnf);refine pw_seq ?_;refine pwa ?_;(conv=>whnf);obtain ⟨y137, h138, H⟩ := obnd_some H;refine (c347 h138).go ?_;(conv=>whnf);refine pw_cond ?_;(conv=>whnf);refine pbr_oite H (fun g139 H => ?_) (fun g139 H => ?_)
                          · (conv=>whnf);refine pwa ?_;(conv=>whnf);refine pw_ret ?_;(conv=>whnf);cases H; rfl
                          · (conv=>whnf);refine pw_skip ?_;(conv=>whnf);refine pwa ?_;(conv=>whnf);obtain ⟨y140, h141, H⟩ := obnd_some H;refine (c206 h141).go ?_;(conv=>whnf);refine pw_so ?_;refine po_ops 3 ?_;(conv=>whnf);obtain ⟨r142, h143, H⟩ := obnd_some H;refine po_seg (τ := Bool) 4 (fun e => ⟨[(4, (.pointer (some ⟨1, 0, none⟩))), (9, (.int .i64 y43.2.1)), (21, (.int .i64 y127)), (25, (.int .i64 y140.2.1)), (234, (.bool e))], ⟨5, [(4, .rw [(.int .i64 (IntKind.i64.wrap (a3 + y127))), (.int .i64 r129.2.2.2.2.1), (.int .i64 r129.2.2.2.2.2.1), (VS 3 (r129.2.2.2.2.2.2.map e_III))]), (3, .rw [(.int .i64 (IntKind.i64.wrap (a0 + y127))), (.int .i64 (IntKind.i64.wrap (a1 + y127))), (VS 4 (r129.2.2.1.map e_SIII))]), (2, .rw [(VS 1 (a7.map eI)), (VS 1 (a8.map e_L1I)), (.int .i64 a9)]), (1, .rw [(.int .i64 a3), (.int .i64 a4), (.int .i64 a5), (VS 3 (a6.map e_III))]), (0, .rw [(.int .i64 a0), (.int .i64 a1), (VS 4 (a2.map e_SIII))])], false⟩⟩) r142 ?_ ?_
                            · refine po_all ?_;(conv=>whnf);refine pbr_oite h143 (fun g144 h143 => ?_) (fun g144 h143 => ?_)
                              · (conv=>whnf);refine pbr_t g144 ?_;(conv=>whnf);refine pbr_t g144 ?_;(conv=>whnf);obtain ⟨y145, h146, h143⟩ := obnd_some h143;refine (c26 h146).go ?_;(conv=>whnf);refine pbr_t g144 ?_;(conv=>whnf);cases h143;exact ⟨(.cons rfl (.cons rfl (.cons rfl (.cons rfl (.cons rfl .nil))))), rfl⟩
                              · (conv=>whnf);(iterate 3 refine pbr_f g144 ?_;(conv=>whnf));cases h143;exact ⟨(.cons rfl (.cons rfl (.cons rfl (.cons rfl (.cons rfl .nil))))), rfl⟩
                            · refine po_ops 1 ?_;(conv=>whnf);obtain ⟨r147, h148, H⟩ := obnd_some H;refine po_seg (τ := Bool) 3 (fun e => ⟨[(4, (.pointer (some ⟨1, 0, none⟩))), (9, (.int .i64 y43.2.1)), (21, (.int .i64 y127)), (25, (.int .i64 y140.2.1)), (238, (.bool e))], ⟨5, [(4, .rw [(.int .i64 (IntKind.i64.wrap (a3 + y127))), (.int .i64 r129.2.2.2.2.1), (.int .i64 r129.2.2.2.2.2.1), (VS 3 (r129.2.2.2.2.2.2.map e_III))]), (3, .rw [(.int .i64 (IntKind.i64.wrap (a0 + y127))), (.int .i64 (IntKind.i64.wrap (a1 + y127))), (VS 4 (r129.2.2.1.map e_SIII))]), (2, .rw [(VS 1 (a7.map eI)), (VS 1 (a8.map e_L1I)), (.int .i64 a9)]), (1, .rw [(.int .i64 a3), (.int .i64 a4), (.int .i64 a5), (VS 3 (a6.map e_III))]), (0, .rw [(.int .i64 a0), (.int .i64 a1), (VS 4 (a2.map e_SIII))])], false⟩⟩) r147 ?_ ?_
                              · refine po_all ?_;(conv=>whnf);refine pbr_oite h148 (fun g149 h148 => ?_) (fun g149 h148 => ?_)
                                · (conv=>whnf);refine pbr_t g149 ?_;(conv=>whnf);obtain ⟨y150, h151, h148⟩ := obnd_some h148;refine (c15 h151).go ?_;(conv=>whnf);refine pbr_t g149 ?_;(conv=>whnf);cases h148;exact ⟨(.cons rfl (.cons rfl (.cons rfl (.cons rfl (.cons rfl .nil))))), rfl⟩
                                · (conv=>whnf);refine pbr_f g149 ?_;(conv=>whnf);refine pbr_f g149 ?_;(conv=>whnf);cases h148;exact ⟨(.cons rfl (.cons rfl (.cons rfl (.cons rfl (.cons rfl .nil))))), rfl⟩
                              · refine po_ops 1 ?_;(conv=>whnf);obtain ⟨r152, h153, H⟩ := obnd_some H;refine po_seg (τ := Bool) 9 (fun e => ⟨[(248, (.bool e))], ⟨5, [(4, .rw [(.int .i64 (IntKind.i64.wrap (a3 + y127))), (.int .i64 r129.2.2.2.2.1), (.int .i64 r129.2.2.2.2.2.1), (VS 3 (r129.2.2.2.2.2.2.map e_III))]), (3, .rw [(.int .i64 (IntKind.i64.wrap (a0 + y127))), (.int .i64 (IntKind.i64.wrap (a1 + y127))), (VS 4 (r129.2.2.1.map e_SIII))]), (2, .rw [(VS 1 (a7.map eI)), (VS 1 (a8.map e_L1I)), (.int .i64 a9)]), (1, .rw [(.int .i64 a3), (.int .i64 a4), (.int .i64 a5), (VS 3 (a6.map e_III))]), (0, .rw [(.int .i64 a0), (.int .i64 a1), (VS 4 (a2.map e_SIII))])], false⟩⟩) r152 ?_ ?_
                                · refine po_all ?_;(conv=>whnf);refine pbr_oite h153 (fun g154 h153 => ?_) (fun g154 h153 => ?_)
                                  · (conv=>whnf);(iterate 8 refine pbr_t g154 ?_;(conv=>whnf));cases h153;exact ⟨(.cons rfl .nil), rfl⟩
                                  · (conv=>whnf);(iterate 8 refine pbr_f g154 ?_;(conv=>whnf));cases h153;exact ⟨(.cons rfl .nil), rfl⟩
                                · refine po_all ?_;(conv=>whnf);refine pw_ret ?_;(conv=>whnf);cases H; rfl

end Go.Proofs.YtmbekcealcjabaaGreat.AM
