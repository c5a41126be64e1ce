/- Computations of functions, and that the functions do them (printed by tools/lift.py). Conditions: none. -/
import Derived.Test.YtmbekcealcjabaaGreatAmMan
namespace Go.Proofs.YtmbekcealcjabaaGreat.AM
set_option linter.unusedSimpArgs false
set_option linter.unusedVariables false
open Go Go.RowKit
attribute [local irreducible] ICallV ICalls Recast rng

/-- guidevane/guidevanelaw08.Few -/
noncomputable def f307 [LO]  (_ : Int) (_ : Int) (a2 : List (ByteArray × Int × Int × Int)) : Option Bool :=
  oite ((ilt (7 : Int) ((a2.map e_SIII).length : Int))) (
   some false
    ) (
   obndS (
    oloop (τ := Int) (ρ := (Unit) ⊕ Bool) (fun e6 =>
     oite ((ilt e6 ((a2.map e_SIII).length : Int))) (
      ogrd ((ile 0 e6)) (
      obnd (a2[e6.toNat]?) fun (x11 : ByteArray × Int × Int × Int) =>
      oite ((ilt (20 : Int) (x11.1.size : Int))) (
       some (.inr (.inr (false)))
        ) (
       some (.inl (IntKind.i64.wrap (e6 + (1 : Int))))
        )
      )
       ) (
      some (.inr (.inl ()))
       )
      ) (0 : Int)
     ) fun (_ : Unit) =>
   some true
    )
set_option maxHeartbeats 1000000 in
theorem c307 [LO]  {a0 : Int} {a1 : Int} {a2 : List (ByteArray × Int × Int × Int)} {x : Bool} (H : f307 a0 a1 a2 = some x) : ICalls E 307 [(.agg ⟨[(.int .i64 a0), (.int .i64 a1), (VS 4 (a2.map e_SIII))]⟩)] AHeap.none fun v _ => v = (.bool x) := by
  refine icalls_fn (pfnw ?_); unfold f307 at H;(conv=>whnf);refine pw_so ?_;refine po_all ?_;(conv=>whnf);refine pw_seq ?_;refine pw_so ?_;refine po_all ?_;(conv=>whnf);refine pw_cond ?_;(conv=>whnf);refine pbr_oite H (fun g1 H => ?_) (fun g1 H => ?_)
  · (conv=>whnf);refine pw_so ?_;refine po_all ?_;(conv=>whnf);refine pw_ret ?_;(conv=>whnf);cases H; rfl
  · (conv=>whnf);refine pw_skip ?_;(conv=>whnf);obtain ⟨r2, h3, h4, h5⟩ := obndS_some H;refine pw_joinS (ρ := Unit) (fun e => ⟨[], ⟨1, [(0, .rw [(.int .i64 a0), (.int .i64 a1), (VS 4 (a2.map e_SIII))])], false⟩⟩) r2 ?_ ?_
    · refine pw_so ?_;refine po_all ?_;(conv=>whnf);refine pw_block ?_;refine pw_loop (τ := Int) (fun e => ⟨[(1, (.pointer (some ⟨0, 0, none⟩))), (3, (.int .i64 e))], ⟨1, [(0, .rw [(.int .i64 a0), (.int .i64 a1), (VS 4 (a2.map e_SIII))])], false⟩⟩) h3 ?_ (fun _ => Nat.le_of_ble_eq_true rfl) ?_
      · exact .sub' (Nat.le_of_ble_eq_true rfl) (.cons rfl (.cons rfl .nil))
      · intro e6 x7 h8;refine pw_seq ?_;refine pw_so ?_;refine po_all ?_;(conv=>whnf);refine pw_cond ?_;(conv=>whnf);refine pbr_oite h8 (fun g9 h8 => ?_) (fun g9 h8 => ?_)
        · (conv=>whnf);refine pw_skip ?_;(conv=>whnf);refine pw_seq ?_;refine pw_block ?_;refine pw_so ?_;refine po_all ?_;(conv=>whnf);refine pbr_ogrd h8 (fun g10 h8 => ?_);(conv=>whnf);refine nth_o (l := a2) h8 (fun x11 _ h8 => ?_);(conv=>whnf);refine pw_cond ?_;(conv=>whnf);refine pbr_oite h8 (fun g12 h8 => ?_) (fun g12 h8 => ?_)
          · (conv=>whnf);refine pw_so ?_;refine po_all ?_;(conv=>whnf);refine pw_ret ?_;(conv=>whnf);cases h8;refine ⟨_, rfl, ?_⟩; rintro rfl;(conv=>whnf);obtain rfl := h5 _ rfl; rfl
          · (conv=>whnf);refine pw_skip ?_;(conv=>whnf);refine pw_ops ?_;refine po_all ?_;(conv=>whnf);cases h8;refine ⟨_, rfl, ?_⟩;exact .sub' (Nat.le_of_ble_eq_true rfl) (.cons rfl (.cons rfl .nil))
        · (conv=>whnf);refine pw_exit ?_;(conv=>whnf);cases h8;refine ⟨_, rfl, ?_⟩; rintro rfl;(conv=>whnf);exact ⟨_, rfl, ⟨.nil, rfl⟩⟩
    · intro r15 hr; have H := h4 _ hr;refine pw_so ?_;refine po_all ?_;(conv=>whnf);refine pw_ret ?_;(conv=>whnf);cases H; rfl

/-- guidevane/guidevanelaw08.Short -/
noncomputable def f308  (_ : Int) (_ : Int) (_ : Int) (a3 : List (Int × Int × Int)) : Option Bool :=
  some (ile ((a3.map e_III).length : Int) (12 : Int))
set_option maxHeartbeats 1000000 in
theorem c308  {a0 : Int} {a1 : Int} {a2 : Int} {a3 : List (Int × Int × Int)} {x : Bool} (H : f308 a0 a1 a2 a3 = some x) : ICalls E 308 [(.agg ⟨[(.int .i64 a0), (.int .i64 a1), (.int .i64 a2), (VS 3 (a3.map e_III))]⟩)] AHeap.none fun v _ => v = (.bool x) := by
  refine icalls_fn (pfnw ?_); unfold f308 at H;(conv=>whnf);refine pw_so ?_;refine po_all ?_;(conv=>whnf);refine pw_so ?_;refine po_all ?_;(conv=>whnf);refine pw_ret ?_;(conv=>whnf);cases H; rfl

/-- guidevane/guidevanebase.Within -/
noncomputable def f15  (a0 : Int) (a1 : Int) (a2 : Int) : Option Bool :=
  obnd (
   oite ((ile a1 a0)) (
    some (ile a0 a2)
     ) (
    some false
     )
    ) fun (r1 : Bool) =>
  some r1
set_option maxHeartbeats 1000000 in
theorem c15  {a0 : Int} {a1 : Int} {a2 : Int} {x : Bool} (H : f15 a0 a1 a2 = some x) : ICalls E 15 [(.int .i64 a0), (.int .i64 a1), (.int .i64 a2)] AHeap.none fun v _ => v = (.bool x) := by
  refine icalls_fn (pfnw ?_); unfold f15 at H;(conv=>whnf);refine pw_so ?_;refine po_all ?_;(conv=>whnf);refine pw_so ?_;refine po_ops 4 ?_;(conv=>whnf);obtain ⟨r1, h2, H⟩ := obnd_some H;refine po_seg (τ := Bool) 4 (fun e => ⟨[(14, (.bool e))], ⟨0, [], false⟩⟩) r1 ?_ ?_
  · refine po_all ?_;(conv=>whnf);refine pbr_oite h2 (fun g3 h2 => ?_) (fun g3 h2 => ?_)
    · (conv=>whnf);refine pbr_t g3 ?_;(conv=>whnf);refine pbr_t g3 ?_;(conv=>whnf);refine pbr_t g3 ?_;(conv=>whnf);cases h2;exact ⟨(.cons rfl .nil), rfl⟩
    · (conv=>whnf);refine pbr_f g3 ?_;(conv=>whnf);refine pbr_f g3 ?_;(conv=>whnf);refine pbr_f g3 ?_;(conv=>whnf);cases h2;exact ⟨(.cons rfl .nil), rfl⟩
  · refine po_all ?_;(conv=>whnf);refine pw_ret ?_;(conv=>whnf);cases H; rfl

/-- guidevane/guidevanebase.IsName -/
noncomputable def f91 [LO]  (a0 : ByteArray) : Option Bool :=
  obnd (
   oite ((ilt (a0.size : Int) (1 : Int))) (
    some true
     ) (
    some (ilt (12 : Int) (a0.size : Int))
     )
    ) fun (r1 : Bool) =>
  oite r1 (
   some false
    ) (
   obndS (
    oloop (τ := Int) (ρ := (Unit) ⊕ Bool) (fun e11 =>
     oite ((ilt e11 (a0.size : Int))) (
      ogrd ((ile 0 e11)) (
      obnd (a0.data.toList[e11.toNat]?) fun (x16 : UInt8) =>
      obnd (
       oite ((ile (97 : Int) (x16.toNat : Int))) (
        some (ile (x16.toNat : Int) (122 : Int))
         ) (
        some false
         )
        ) fun (r17 : Bool) =>
      obnd (
       oite r17 (
        some true
         ) (
        oite ((ile (65 : Int) (x16.toNat : Int))) (
         some (ile (x16.toNat : Int) (90 : Int))
          ) (
         some false
          )
         )
        ) fun (r20 : Bool) =>
      obnd (
       oite (!r20) (
        obnd (
         oite ((ieq e11 (0 : Int))) (
          some true
           ) (
          oite ((!(ieq (x16.toNat : Int) (45 : Int)))) (
           oite ((ilt (x16.toNat : Int) (48 : Int))) (
            some true
             ) (
            some (ilt (57 : Int) (x16.toNat : Int))
             )
            ) (
           some false
            )
           )
          ) fun (r29 : Bool) =>
        some r29
         ) (
        some false
         )
        ) fun (r24 : Bool) =>
      oite r24 (
       some (.inr (.inr (false)))
        ) (
       some (.inl (IntKind.i64.wrap (e11 + (1 : Int))))
        )
      )
       ) (
      some (.inr (.inl ()))
       )
      ) (0 : Int)
     ) fun (_ : Unit) =>
   some true
    )
set_option maxHeartbeats 1000000 in
theorem c91 [LO]  {a0 : ByteArray} {x : Bool} (H : f91 a0 = some x) : ICalls E 91 [(.string a0)] AHeap.none fun v _ => v = (.bool x) := by
  refine icalls_fn (pfnw ?_); unfold f91 at H;(conv=>whnf);refine pw_so ?_;refine po_all ?_;(conv=>whnf);refine pw_seq ?_;obtain ⟨r1, h2, H⟩ := obnd_some H;refine pw_join (ρ := Bool) (fun e => ⟨[(0, (.string a0)), (13, (.bool e))], ⟨0, [], false⟩⟩) r1 ?_ ?_
  · refine pw_ops ?_;refine po_all ?_;(conv=>whnf);refine pbr_oite h2 (fun g5 h2 => ?_) (fun g5 h2 => ?_)
    · (conv=>whnf);refine pbr_t g5 ?_;(conv=>whnf);refine pbr_t g5 ?_;(conv=>whnf);refine pbr_t g5 ?_;(conv=>whnf);cases h2;exact ⟨(.cons rfl (.cons rfl .nil)), rfl⟩
    · (conv=>whnf);refine pbr_f g5 ?_;(conv=>whnf);refine pbr_f g5 ?_;(conv=>whnf);refine pbr_f g5 ?_;(conv=>whnf);cases h2;exact ⟨(.cons rfl (.cons rfl .nil)), rfl⟩
  · refine pw_cond ?_;(conv=>whnf);refine pbr_oite H (fun g6 H => ?_) (fun g6 H => ?_)
    · (conv=>whnf);refine pw_so ?_;refine po_all ?_;(conv=>whnf);refine pw_ret ?_;(conv=>whnf);cases H; rfl
    · (conv=>whnf);refine pw_skip ?_;(conv=>whnf);obtain ⟨r7, h8, h9, h10⟩ := obndS_some H;refine pw_joinS (ρ := Unit) (fun e => ⟨[], ⟨0, [], false⟩⟩) r7 ?_ ?_
      · refine pw_so ?_;refine po_all ?_;(conv=>whnf);refine pw_block ?_;refine pw_loop (τ := Int) (fun e => ⟨[(0, (.string a0)), (3, (.int .i64 e))], ⟨0, [], false⟩⟩) h8 ?_ (fun _ => Nat.le_of_ble_eq_true rfl) ?_
        · exact .sub' (Nat.le_of_ble_eq_true rfl) (.cons rfl (.cons rfl .nil))
        · intro e11 x12 h13;refine pw_seq ?_;refine pw_so ?_;refine po_all ?_;(conv=>whnf);refine pw_cond ?_;(conv=>whnf);refine pbr_oite h13 (fun g14 h13 => ?_) (fun g14 h13 => ?_)
          · (conv=>whnf);refine pw_skip ?_;(conv=>whnf);refine pw_seq ?_;refine pw_block ?_;refine pw_so ?_;refine po_all ?_;(conv=>whnf);refine pbr_ogrd h13 (fun g15 h13 => ?_);(conv=>whnf);refine get_o h13 (fun x16 _ h13 => ?_);(conv=>whnf);refine pw_so ?_;refine po_ops 3 ?_;(conv=>whnf);obtain ⟨r17, h18, h13⟩ := obnd_some h13;refine po_seg (τ := Bool) 3 (fun e => ⟨[(0, (.string a0)), (3, (.int .i64 e11)), (4, (.int .u8 (x16.toNat : Int))), (28, (.bool e))], ⟨0, [], false⟩⟩) r17 ?_ ?_
            · refine po_all ?_;(conv=>whnf);refine pbr_oite h18 (fun g19 h18 => ?_) (fun g19 h18 => ?_)
              · (conv=>whnf);refine pbr_t g19 ?_;(conv=>whnf);refine pbr_t g19 ?_;(conv=>whnf);cases h18;exact ⟨(.cons rfl (.cons rfl (.cons rfl (.cons rfl .nil)))), rfl⟩
              · (conv=>whnf);refine pbr_f g19 ?_;(conv=>whnf);refine pbr_f g19 ?_;(conv=>whnf);cases h18;exact ⟨(.cons rfl (.cons rfl (.cons rfl (.cons rfl .nil)))), rfl⟩
            · refine po_ops 1 ?_;(conv=>whnf);obtain ⟨r20, h21, h13⟩ := obnd_some h13;refine po_seg (τ := Bool) 7 (fun e => ⟨[(0, (.string a0)), (3, (.int .i64 e11)), (4, (.int .u8 (x16.toNat : Int))), (36, (.bool e))], ⟨0, [], false⟩⟩) r20 ?_ ?_
              · refine po_all ?_;(conv=>whnf);refine pbr_oite h21 (fun g22 h21 => ?_) (fun g22 h21 => ?_)
                · (conv=>whnf);refine pbr_t g22 ?_;(conv=>whnf);refine pbr_t g22 ?_;(conv=>whnf);refine pbr_t g22 ?_;(conv=>whnf);refine pbr_t g22 ?_;(conv=>whnf);cases h21;exact ⟨(.cons rfl (.cons rfl (.cons rfl (.cons rfl .nil)))), rfl⟩
                · (conv=>whnf);refine pbr_f g22 ?_;(conv=>whnf);refine pbr_f g22 ?_;(conv=>whnf);refine pbr_oite h21 (fun g23 h21 => ?_) (fun g23 h21 => ?_)
                  · (conv=>whnf);refine pbr_t g23 ?_;(conv=>whnf);refine pbr_f g22 ?_;(conv=>whnf);refine pbr_t g23 ?_;(conv=>whnf);refine pbr_f g22 ?_;(conv=>whnf);cases h21;exact ⟨(.cons rfl (.cons rfl (.cons rfl (.cons rfl .nil)))), rfl⟩
                  · (conv=>whnf);refine pbr_f g23 ?_;(conv=>whnf);refine pbr_f g22 ?_;(conv=>whnf);refine pbr_f g23 ?_;(conv=>whnf);refine pbr_f g22 ?_;(conv=>whnf);cases h21;exact ⟨(.cons rfl (.cons rfl (.cons rfl (.cons rfl .nil)))), rfl⟩
              · refine po_all ?_;(conv=>whnf);obtain ⟨r24, h25, h13⟩ := obnd_some h13;refine pw_join (ρ := Bool) (fun e => ⟨[(0, (.string a0)), (3, (.int .i64 e11)), (54, (.bool e))], ⟨0, [], false⟩⟩) r24 ?_ ?_
                · refine pw_ops ?_;refine po_ops 6 ?_;(conv=>whnf);refine pbr_oite h25 (fun g28 h25 => ?_) (fun g28 h25 => ?_)
                  · (conv=>whnf);refine pbr_t g28 ?_;(conv=>whnf);refine pbr_t g28 ?_;(conv=>whnf);obtain ⟨r29, h30, h25⟩ := obnd_some h25;refine po_seg (τ := Bool) 11 (fun e => ⟨[(0, (.string a0)), (3, (.int .i64 e11)), (39, (.bool (!r20))), (40, (.int .i64 e11)), (41, (.bool (ieq e11 (0 : Int)))), (42, (.bool (ieq e11 (0 : Int)))), (53, (.bool e))], ⟨0, [], false⟩⟩) r29 ?_ ?_
                    · refine po_all ?_;(conv=>whnf);refine pbr_oite h30 (fun g31 h30 => ?_) (fun g31 h30 => ?_)
                      · (conv=>whnf);refine pbr_t g31 ?_;(conv=>whnf);refine pbr_t g31 ?_;(conv=>whnf);refine pbr_t g31 ?_;(conv=>whnf);refine pbr_t g28 ?_;(conv=>whnf);refine pbr_t g31 ?_;(conv=>whnf);cases h30;exact ⟨(.cons rfl (.cons rfl (.cons rfl (.cons rfl (.cons rfl (.cons rfl (.cons rfl .nil))))))), rfl⟩
                      · (conv=>whnf);refine pbr_f g31 ?_;(conv=>whnf);refine pbr_f g31 ?_;(conv=>whnf);refine pbr_oite h30 (fun g32 h30 => ?_) (fun g32 h30 => ?_)
                        · (conv=>whnf);refine pbr_t g32 ?_;(conv=>whnf);refine pbr_t g32 ?_;(conv=>whnf);refine pbr_oite h30 (fun g33 h30 => ?_) (fun g33 h30 => ?_)
                          · (conv=>whnf);refine pbr_t g33 ?_;(conv=>whnf);refine pbr_t g32 ?_;(conv=>whnf);refine pbr_t g33 ?_;(conv=>whnf);refine pbr_f g31 ?_;(conv=>whnf);refine pbr_t g32 ?_;(conv=>whnf);refine pbr_t g28 ?_;(conv=>whnf);refine pbr_f g31 ?_;(conv=>whnf);cases h30;exact ⟨(.cons rfl (.cons rfl (.cons rfl (.cons rfl (.cons rfl (.cons rfl (.cons rfl .nil))))))), rfl⟩
                          · (conv=>whnf);refine pbr_f g33 ?_;(conv=>whnf);refine pbr_t g32 ?_;(conv=>whnf);refine pbr_f g33 ?_;(conv=>whnf);refine pbr_f g31 ?_;(conv=>whnf);refine pbr_t g32 ?_;(conv=>whnf);refine pbr_t g28 ?_;(conv=>whnf);refine pbr_f g31 ?_;(conv=>whnf);cases h30;exact ⟨(.cons rfl (.cons rfl (.cons rfl (.cons rfl (.cons rfl (.cons rfl (.cons rfl .nil))))))), rfl⟩
                        · (conv=>whnf);refine pbr_f g32 ?_;(conv=>whnf);refine pbr_f g32 ?_;(conv=>whnf);refine pbr_f g32 ?_;(conv=>whnf);refine pbr_f g31 ?_;(conv=>whnf);refine pbr_f g32 ?_;(conv=>whnf);refine pbr_t g28 ?_;(conv=>whnf);refine pbr_f g31 ?_;(conv=>whnf);cases h30;exact ⟨(.cons rfl (.cons rfl (.cons rfl (.cons rfl (.cons rfl (.cons rfl (.cons rfl .nil))))))), rfl⟩
                    · refine po_all ?_;(conv=>whnf);refine pbr_t g28 ?_;(conv=>whnf);cases h25;exact ⟨(.cons rfl (.cons rfl (.cons rfl .nil))), rfl⟩
                  · (conv=>whnf);refine pbr_f g28 ?_;(conv=>whnf);refine pbr_f g28 ?_;(conv=>whnf);refine po_ops 11 ?_;(conv=>whnf);refine pbr_f g28 ?_;(conv=>whnf);refine po_all ?_;(conv=>whnf);refine pbr_f g28 ?_;(conv=>whnf);cases h25;exact ⟨(.cons rfl (.cons rfl (.cons rfl .nil))), rfl⟩
                · refine pw_cond ?_;(conv=>whnf);refine pbr_oite h13 (fun g34 h13 => ?_) (fun g34 h13 => ?_)
                  · (conv=>whnf);refine pw_so ?_;refine po_all ?_;(conv=>whnf);refine pw_ret ?_;(conv=>whnf);cases h13;refine ⟨_, rfl, ?_⟩; rintro rfl;(conv=>whnf);obtain rfl := h10 _ rfl; rfl
                  · (conv=>whnf);refine pw_skip ?_;(conv=>whnf);refine pw_ops ?_;refine po_all ?_;(conv=>whnf);cases h13;refine ⟨_, rfl, ?_⟩;exact .sub' (Nat.le_of_ble_eq_true rfl) (.cons rfl (.cons rfl .nil))
          · (conv=>whnf);refine pw_exit ?_;(conv=>whnf);cases h13;refine ⟨_, rfl, ?_⟩; rintro rfl;(conv=>whnf);exact ⟨_, rfl, ⟨.nil, rfl⟩⟩
      · intro r37 hr; have H := h9 _ hr;refine pw_so ?_;refine po_all ?_;(conv=>whnf);refine pw_ret ?_;(conv=>whnf);cases H; rfl

/-- guidevane/guidevanebase.HasText -/
noncomputable def f364 [LO]  (a0 : List ByteArray) (a1 : ByteArray) : Option Bool :=
  obndS (
   oloop (τ := Int) (ρ := (Unit) ⊕ Bool) (fun e5 =>
    oite ((ilt e5 ((a0.map eS).length : Int))) (
     ogrd ((ile 0 e5)) (
     obnd (a0[e5.toNat]?) fun (x10 : ByteArray) =>
     oite ((x10.toList == a1.toList)) (
      some (.inr (.inr (true)))
       ) (
      some (.inl (IntKind.i64.wrap (e5 + (1 : Int))))
       )
     )
      ) (
     some (.inr (.inl ()))
      )
     ) (0 : Int)
    ) fun (_ : Unit) =>
  some false
set_option maxHeartbeats 1000000 in
theorem c364 [LO]  {a0 : List ByteArray} {a1 : ByteArray} {x : Bool} (H : f364 a0 a1 = some x) : ICalls E 364 [(VS 1 (a0.map eS)), (.string a1)] AHeap.none fun v _ => v = (.bool x) := by
  refine icalls_fn (pfnw ?_); unfold f364 at H;(conv=>whnf);refine pw_so ?_;refine po_all ?_;(conv=>whnf);obtain ⟨r1, h2, h3, h4⟩ := obndS_some H;refine pw_joinS (ρ := Unit) (fun e => ⟨[], ⟨0, [], false⟩⟩) r1 ?_ ?_
  · refine pw_so ?_;refine po_all ?_;(conv=>whnf);refine pw_block ?_;refine pw_loop (τ := Int) (fun e => ⟨[(0, (VS 1 (a0.map eS))), (1, (.string a1)), (5, (.int .i64 e))], ⟨0, [], false⟩⟩) h2 ?_ (fun _ => Nat.le_of_ble_eq_true rfl) ?_
    · exact .sub' (Nat.le_of_ble_eq_true rfl) (.cons rfl (.cons rfl (.cons rfl .nil)))
    · intro e5 x6 h7;refine pw_seq ?_;refine pw_so ?_;refine po_all ?_;(conv=>whnf);refine pw_cond ?_;(conv=>whnf);refine pbr_oite h7 (fun g8 h7 => ?_) (fun g8 h7 => ?_)
      · (conv=>whnf);refine pw_skip ?_;(conv=>whnf);refine pw_seq ?_;refine pw_block ?_;refine pw_so ?_;refine po_all ?_;(conv=>whnf);refine pbr_ogrd h7 (fun g9 h7 => ?_);(conv=>whnf);refine nth_o (l := a0) h7 (fun x10 _ h7 => ?_);(conv=>whnf);refine pw_cond ?_;(conv=>whnf);refine pbr_oite h7 (fun g11 h7 => ?_) (fun g11 h7 => ?_)
        · (conv=>whnf);refine pw_so ?_;refine po_all ?_;(conv=>whnf);refine pw_ret ?_;(conv=>whnf);cases h7;refine ⟨_, rfl, ?_⟩; rintro rfl;(conv=>whnf);obtain rfl := h4 _ rfl; rfl
        · (conv=>whnf);refine pw_skip ?_;(conv=>whnf);refine pw_ops ?_;refine po_all ?_;(conv=>whnf);cases h7;refine ⟨_, rfl, ?_⟩;exact .sub' (Nat.le_of_ble_eq_true rfl) (.cons rfl (.cons rfl (.cons rfl .nil)))
      · (conv=>whnf);refine pw_exit ?_;(conv=>whnf);cases h7;refine ⟨_, rfl, ?_⟩; rintro rfl;(conv=>whnf);exact ⟨_, rfl, ⟨.nil, rfl⟩⟩
  · intro r14 hr; have H := h3 _ hr;refine pw_so ?_;refine po_all ?_;(conv=>whnf);refine pw_ret ?_;(conv=>whnf);cases H; rfl

/-- guidevane/guidevaneref08.modeErr -/
noncomputable def f354 [LO]  (a0 : ByteArray) (a1 : Int) (a2 : Int) (a3 : Int) (a4 : List ByteArray) : Option Int :=
  obnd (f91 a0) fun (y1 : Bool) =>
  oite (!y1) (
   some (4 : Int)
    ) (
   obnd (f364 a4 a0) fun (y4 : Bool) =>
   oite y4 (
    some (5 : Int)
     ) (
    obnd (
     obnd (f15 a1 (-10000 : Int) (10000 : Int)) fun (y11 : Bool) =>
     obnd (
      oite (!y11) (
       some true
        ) (
       obnd (f15 a2 (-10000 : Int) (10000 : Int)) fun (y16 : Bool) =>
       some (!y16)
        )
       ) fun (r13 : Bool) =>
     oite r13 (
      some true
       ) (
      obnd (f15 a3 (0 : Int) (10000 : Int)) fun (y19 : Bool) =>
      some (!y19)
       )
      ) fun (r7 : Bool) =>
    oite r7 (
     some (2 : Int)
      ) (
     some (0 : Int)
      )
     )
    )
set_option maxHeartbeats 1000000 in
theorem c354 [LO]  {a0 : ByteArray} {a1 : Int} {a2 : Int} {a3 : Int} {a4 : List ByteArray} {x : Int} (H : f354 a0 a1 a2 a3 a4 = some x) : ICalls E 354 [(.agg ⟨[(.string a0), (.int .i64 a1), (.int .i64 a2), (.int .i64 a3)]⟩), (VS 1 (a4.map eS))] AHeap.none fun v _ => v = (.int .i64 x) := by
  refine icalls_fn (pfnw ?_); unfold f354 at H;(conv=>whnf);refine pw_so ?_;refine po_all ?_;(conv=>whnf);refine pw_seq ?_;refine pw_so ?_;refine po_all ?_;(conv=>whnf);obtain ⟨y1, h2, H⟩ := obnd_some H;refine (c91 h2).go ?_;(conv=>whnf);refine pw_cond ?_;(conv=>whnf);refine pbr_oite H (fun g3 H => ?_) (fun g3 H => ?_)
  · (conv=>whnf);refine pw_so ?_;refine po_all ?_;(conv=>whnf);refine pw_ret ?_;(conv=>whnf);cases H; rfl
  · (conv=>whnf);refine pw_skip ?_;(conv=>whnf);refine pw_seq ?_;refine pw_so ?_;refine po_all ?_;(conv=>whnf);obtain ⟨y4, h5, H⟩ := obnd_some H;refine (c364 h5).go ?_;(conv=>whnf);refine pw_cond ?_;(conv=>whnf);refine pbr_oite H (fun g6 H => ?_) (fun g6 H => ?_)
    · (conv=>whnf);refine pw_so ?_;refine po_all ?_;(conv=>whnf);refine pw_ret ?_;(conv=>whnf);cases H; rfl
    · (conv=>whnf);refine pw_skip ?_;(conv=>whnf);refine pw_seq ?_;obtain ⟨r7, h8, H⟩ := obnd_some H;refine pw_join (ρ := Bool) (fun e => ⟨[(28, (.bool e))], ⟨1, [(0, .rw [(.string a0), (.int .i64 a1), (.int .i64 a2), (.int .i64 a3)])], false⟩⟩) r7 ?_ ?_
      · refine pw_ops ?_;refine po_ops 5 ?_;(conv=>whnf);obtain ⟨y11, h12, h8⟩ := obnd_some h8;refine (c15 h12).go ?_;(conv=>whnf);obtain ⟨r13, h14, h8⟩ := obnd_some h8;refine po_seg (τ := Bool) 5 (fun e => ⟨[(2, (.pointer (some ⟨0, 0, none⟩))), (22, (.bool e))], ⟨1, [(0, .rw [(.string a0), (.int .i64 a1), (.int .i64 a2), (.int .i64 a3)])], false⟩⟩) r13 ?_ ?_
        · refine po_all ?_;(conv=>whnf);refine pbr_oite h14 (fun g15 h14 => ?_) (fun g15 h14 => ?_)
          · (conv=>whnf);refine pbr_t g15 ?_;(conv=>whnf);refine pbr_t g15 ?_;(conv=>whnf);refine pbr_t g15 ?_;(conv=>whnf);refine pbr_t g15 ?_;(conv=>whnf);cases h14;exact ⟨(.cons rfl (.cons rfl .nil)), rfl⟩
          · (conv=>whnf);refine pbr_f g15 ?_;(conv=>whnf);refine pbr_f g15 ?_;(conv=>whnf);obtain ⟨y16, h17, h14⟩ := obnd_some h14;refine (c15 h17).go ?_;(conv=>whnf);refine pbr_f g15 ?_;(conv=>whnf);refine pbr_f g15 ?_;(conv=>whnf);cases h14;exact ⟨(.cons rfl (.cons rfl .nil)), rfl⟩
        · refine po_all ?_;(conv=>whnf);refine pbr_oite h8 (fun g18 h8 => ?_) (fun g18 h8 => ?_)
          · (conv=>whnf);refine pbr_t g18 ?_;(conv=>whnf);refine pbr_t g18 ?_;(conv=>whnf);refine pbr_t g18 ?_;(conv=>whnf);refine pbr_t g18 ?_;(conv=>whnf);cases h8;exact ⟨(.cons rfl .nil), rfl⟩
          · (conv=>whnf);refine pbr_f g18 ?_;(conv=>whnf);refine pbr_f g18 ?_;(conv=>whnf);obtain ⟨y19, h20, h8⟩ := obnd_some h8;refine (c15 h20).go ?_;(conv=>whnf);refine pbr_f g18 ?_;(conv=>whnf);refine pbr_f g18 ?_;(conv=>whnf);cases h8;exact ⟨(.cons rfl .nil), rfl⟩
      · refine pw_cond ?_;(conv=>whnf);refine pbr_oite H (fun g21 H => ?_) (fun g21 H => ?_)
        · (conv=>whnf);refine pw_so ?_;refine po_all ?_;(conv=>whnf);refine pw_ret ?_;(conv=>whnf);cases H; rfl
        · (conv=>whnf);refine pw_skip ?_;(conv=>whnf);refine pw_so ?_;refine po_all ?_;(conv=>whnf);refine pw_ret ?_;(conv=>whnf);cases H; rfl

/-- guidevane/guidevaneref08.CheckPlant -/
noncomputable def f325 [LO]  (a0 : Int) (a1 : Int) (a2 : List (ByteArray × Int × Int × Int)) : Option (Int × Int) :=
  obnd (
   obnd (f15 a0 (0 : Int) (1000000 : Int)) fun (y5 : Bool) =>
   oite (!y5) (
    some true
     ) (
    obnd (f15 a1 (0 : Int) (1000000 : Int)) fun (y8 : Bool) =>
    some (!y8)
     )
    ) fun (r1 : Bool) =>
  oite r1 (
   some ((0 : Int), (2 : Int))
    ) (
   oite ((ilt a1 a0)) (
    some ((0 : Int), (9 : Int))
     ) (
    oite ((ile (40 : Int) (IntKind.i64.wrap (a1 - a0)))) (
     some ((0 : Int), (8 : Int))
      ) (
     oite ((ieq ((a2.map e_SIII).length : Int) (0 : Int))) (
      some ((0 : Int), (10 : Int))
       ) (
      oite ((ilt (5 : Int) ((a2.map e_SIII).length : Int))) (
       some ((0 : Int), (8 : Int))
        ) (
       obndS (
        oloop (τ := (List ByteArray) × Int) (ρ := (Unit) ⊕ (Int × Int)) (fun e19 =>
         oite ((ilt e19.2 ((a2.map e_SIII).length : Int))) (
          ogrd ((ile 0 e19.2)) (
          obnd (a2[e19.2.toNat]?) fun (x24 : ByteArray × Int × Int × Int) =>
          obnd (f354 x24.1 x24.2.1 x24.2.2.1 x24.2.2.2 e19.1) fun (y25 : Int) =>
          oite ((!(ieq y25 (0 : Int)))) (
           some (.inr (.inr ((e19.2, y25))))
            ) (
           obnd (a2[e19.2.toNat]?) fun (x29 : ByteArray × Int × Int × Int) =>
           ogrd (fits 16 (e19.1.length + ([x29.1] : List ByteArray).length)) (
           some (.inl (((e19.1 ++ ([x29.1] : List ByteArray)), (IntKind.i64.wrap (e19.2 + (1 : Int))))))
           )
            )
          )
           ) (
          some (.inr (.inl ()))
           )
          ) ((([] : List ByteArray), (0 : Int)))
         ) fun (_ : Unit) =>
       some ((0 : Int), (0 : Int))
        )
       )
      )
     )
    )
set_option maxHeartbeats 1000000 in
theorem c325 [LO]  {a0 : Int} {a1 : Int} {a2 : List (ByteArray × Int × Int × Int)} {x : Int × Int} (H : f325 a0 a1 a2 = some x) : ICalls E 325 [(.agg ⟨[(.int .i64 a0), (.int .i64 a1), (VS 4 (a2.map e_SIII))]⟩)] AHeap.none fun v _ => v = (.tuple ⟨[(.int .i64 x.1), (.int .i64 x.2)]⟩) := by
  refine icalls_fn (pfnw ?_); unfold f325 at H;(conv=>whnf);refine pw_so ?_;refine po_all ?_;(conv=>whnf);refine pw_seq ?_;obtain ⟨r1, h2, H⟩ := obnd_some H;refine pw_join (ρ := Bool) (fun e => ⟨[(1, (.pointer (some ⟨0, 0, none⟩))), (16, (.bool e))], ⟨1, [(0, .rw [(.int .i64 a0), (.int .i64 a1), (VS 4 (a2.map e_SIII))])], false⟩⟩) r1 ?_ ?_
  · refine pw_ops ?_;refine po_all ?_;(conv=>whnf);obtain ⟨y5, h6, h2⟩ := obnd_some h2;refine (c15 h6).go ?_;(conv=>whnf);refine pbr_oite h2 (fun g7 h2 => ?_) (fun g7 h2 => ?_)
    · (conv=>whnf);refine pbr_t g7 ?_;(conv=>whnf);refine pbr_t g7 ?_;(conv=>whnf);refine pbr_t g7 ?_;(conv=>whnf);refine pbr_t g7 ?_;(conv=>whnf);cases h2;exact ⟨(.cons rfl (.cons rfl .nil)), rfl⟩
    · (conv=>whnf);refine pbr_f g7 ?_;(conv=>whnf);refine pbr_f g7 ?_;(conv=>whnf);obtain ⟨y8, h9, h2⟩ := obnd_some h2;refine (c15 h9).go ?_;(conv=>whnf);refine pbr_f g7 ?_;(conv=>whnf);refine pbr_f g7 ?_;(conv=>whnf);cases h2;exact ⟨(.cons rfl (.cons rfl .nil)), rfl⟩
  · refine pw_cond ?_;(conv=>whnf);refine pbr_oite H (fun g10 H => ?_) (fun g10 H => ?_)
    · (conv=>whnf);refine pw_so ?_;refine po_all ?_;(conv=>whnf);refine pw_ret ?_;(conv=>whnf);cases H; rfl
    · (conv=>whnf);refine pw_skip ?_;(conv=>whnf);refine pw_seq ?_;refine pw_so ?_;refine po_all ?_;(conv=>whnf);refine pw_cond ?_;(conv=>whnf);refine pbr_oite H (fun g11 H => ?_) (fun g11 H => ?_)
      · (conv=>whnf);refine pw_so ?_;refine po_all ?_;(conv=>whnf);refine pw_ret ?_;(conv=>whnf);cases H; rfl
      · (conv=>whnf);refine pw_skip ?_;(conv=>whnf);refine pw_seq ?_;refine pw_so ?_;refine po_all ?_;(conv=>whnf);refine pw_cond ?_;(conv=>whnf);refine pbr_oite H (fun g12 H => ?_) (fun g12 H => ?_)
        · (conv=>whnf);refine pw_so ?_;refine po_all ?_;(conv=>whnf);refine pw_ret ?_;(conv=>whnf);cases H; rfl
        · (conv=>whnf);refine pw_skip ?_;(conv=>whnf);refine pw_seq ?_;refine pw_so ?_;refine po_all ?_;(conv=>whnf);refine pw_cond ?_;(conv=>whnf);refine pbr_oite H (fun g13 H => ?_) (fun g13 H => ?_)
          · (conv=>whnf);refine pw_so ?_;refine po_all ?_;(conv=>whnf);refine pw_ret ?_;(conv=>whnf);cases H; rfl
          · (conv=>whnf);refine pw_skip ?_;(conv=>whnf);refine pw_seq ?_;refine pw_so ?_;refine po_all ?_;(conv=>whnf);refine pw_cond ?_;(conv=>whnf);refine pbr_oite H (fun g14 H => ?_) (fun g14 H => ?_)
            · (conv=>whnf);refine pw_so ?_;refine po_all ?_;(conv=>whnf);refine pw_ret ?_;(conv=>whnf);cases H; rfl
            · (conv=>whnf);refine pw_skip ?_;(conv=>whnf);refine pw_so ?_;refine po_all ?_;(conv=>whnf);obtain ⟨r15, h16, h17, h18⟩ := obndS_some H;refine pw_joinSR (ρ := Unit) (fun e => ⟨[], ⟨1, [(0, .rw [(.int .i64 a0), (.int .i64 a1), (VS 4 (a2.map e_SIII))])], false⟩⟩) r15 ?_ ?_
              · refine pw_so ?_;refine po_all ?_;(conv=>whnf);refine pw_block ?_;refine pw_loop (τ := (List ByteArray) × Int) (fun e => ⟨[(1, (.pointer (some ⟨0, 0, none⟩))), (4, (VT 1 (e.1.map eS) 1)), (5, (.int .i64 e.2))], ⟨2, [(1, .tail (e.1.map eS).length 1), (0, .rw [(.int .i64 a0), (.int .i64 a1), (VS 4 (a2.map e_SIII))])], false⟩⟩) h16 ?_ (fun _ => Nat.le_of_ble_eq_true rfl) ?_
                · exact (Recast.nilTs 1 (Nat.le_of_ble_eq_true rfl) (.same rfl (.turn rfl (.same rfl .nil))))
                · intro e19 x20 h21;refine pw_seq ?_;refine pw_so ?_;refine po_all ?_;(conv=>whnf);refine pw_cond ?_;(conv=>whnf);refine pbr_oite h21 (fun g22 h21 => ?_) (fun g22 h21 => ?_)
                  · (conv=>whnf);refine pw_skip ?_;(conv=>whnf);refine pw_seq ?_;refine pw_block ?_;refine pw_seq ?_;refine pw_so ?_;refine po_all ?_;(conv=>whnf);refine pbr_ogrd h21 (fun g23 h21 => ?_);(conv=>whnf);refine nth_o (l := a2) h21 (fun x24 _ h21 => ?_);(conv=>whnf);obtain ⟨y25, h26, h21⟩ := obnd_some h21;refine ICalls.goW (c354 h26) (.cons (.refl _) (.cons (.vt _ _ _) .nil)) ?_;(conv=>whnf);refine pw_so ?_;refine po_all ?_;(conv=>whnf);refine pw_cond ?_;(conv=>whnf);refine pbr_oite h21 (fun g27 h21 => ?_) (fun g27 h21 => ?_)
                    · (conv=>whnf);refine pw_so ?_;refine po_all ?_;(conv=>whnf);refine pw_ret ?_;(conv=>whnf);cases h21;refine ⟨_, rfl, ?_⟩; rintro rfl;(conv=>whnf);obtain rfl := h18 _ rfl; rfl
                    · (conv=>whnf);refine pw_skip ?_;(conv=>whnf);refine pw_ops ?_;refine po_all ?_;(conv=>whnf);refine pbr_t g23 ?_;(conv=>whnf);refine nth_o (l := a2) h21 (fun x29 _ h21 => ?_);(conv=>whnf);refine app_o (l := e19.1) (m := ([x29.1] : List ByteArray)) (f := eS) h21 (by rfl) (by rfl) (by rfl) (fun h21 => ?_);(conv=>whnf);refine pw_ops ?_;refine po_all ?_;(conv=>whnf);cases h21;refine ⟨_, rfl, ?_⟩;refine Recast.trunc (Nat.le_of_ble_eq_true rfl) ?_ ?_
                      · repeat (first | exact .nil | refine .cons rfl (by first | exact OBnd.rwc (Nat.le_of_ble_eq_true rfl) rfl | exact OBnd.tail (Nat.le_of_ble_eq_true rfl) | trivial) ?_)
                      · repeat (first | exact .nil | refine .cons rfl (by first | exact Bnd.ptr (Nat.le_of_ble_eq_true rfl) | exact Bnd.vt (Nat.le_of_ble_eq_true rfl) | exact Bnd.cl) ?_)
                  · (conv=>whnf);refine pw_exit ?_;(conv=>whnf);cases h21;refine ⟨_, rfl, ?_⟩; rintro rfl;(conv=>whnf);refine ⟨_, rfl, ?_⟩;exact Recast.fz (fun _ => false) (Nat.le_of_ble_eq_true rfl) (.cons (.same rfl rfl (OBnd.rwl (Nat.le_of_ble_eq_true rfl) rfl (.cons .cl (.cons .cl (.cons .cl .nil))))) .nil) .nil
              · intro r31 hr; have H := h17 _ hr;refine pw_so ?_;refine po_all ?_;(conv=>whnf);refine pw_ret ?_;(conv=>whnf);cases H; rfl

/-- guidevane/guidevaneref08.PlantErr -/
noncomputable def f347 [LO]  (a0 : Int) (a1 : Int) (a2 : List (ByteArray × Int × Int × Int)) : Option Int :=
  obnd (f325 a0 a1 a2) fun (y1 : Int × Int) =>
  some y1.2
set_option maxHeartbeats 1000000 in
theorem c347 [LO]  {a0 : Int} {a1 : Int} {a2 : List (ByteArray × Int × Int × Int)} {x : Int} (H : f347 a0 a1 a2 = some x) : ICalls E 347 [(.agg ⟨[(.int .i64 a0), (.int .i64 a1), (VS 4 (a2.map e_SIII))]⟩)] AHeap.none fun v _ => v = (.int .i64 x) := by
  refine icalls_fn (pfnw ?_); unfold f347 at H;(conv=>whnf);refine pw_so ?_;refine po_all ?_;(conv=>whnf);refine pw_so ?_;refine po_all ?_;(conv=>whnf);obtain ⟨y1, h2, H⟩ := obnd_some H;refine (c325 h2).go ?_;(conv=>whnf);refine pw_so ?_;refine po_all ?_;(conv=>whnf);refine pw_ret ?_;(conv=>whnf);cases H; rfl

/-- guidevane/guidevaneref08.isPrice -/
noncomputable def f355  (a0 : Int) : Option Bool :=
  obnd (f15 a0 (-10000 : Int) (10000 : Int)) fun (y1 : Bool) =>
  some y1
set_option maxHeartbeats 1000000 in
theorem c355  {a0 : Int} {x : Bool} (H : f355 a0 = some x) : ICalls E 355 [(.int .i64 a0)] AHeap.none fun v _ => v = (.bool x) := by
  refine icalls_fn (pfnw ?_); unfold f355 at H;(conv=>whnf);refine pw_so ?_;refine po_all ?_;(conv=>whnf);refine pw_so ?_;refine po_all ?_;(conv=>whnf);obtain ⟨y1, h2, H⟩ := obnd_some H;refine (c15 h2).go ?_;(conv=>whnf);refine pw_ret ?_;(conv=>whnf);cases H; rfl

/-- guidevane/guidevaneref08.CheckTask -/
noncomputable def f326 [LO]  (a0 : Int) (a1 : Int) (a2 : List (ByteArray × Int × Int × Int)) (a3 : Int) (a4 : Int) (a5 : Int) (a6 : List (Int × Int × Int)) : Option (Int × Int) :=
  obnd (f347 a0 a1 a2) fun (y1 : Int) =>
  oite ((!(ieq y1 (0 : Int)))) (
   some ((0 : Int), y1)
    ) (
   obnd (f15 a3 a0 a1) fun (y4 : Bool) =>
   oite (!y4) (
    some ((0 : Int), (2 : Int))
     ) (
    obnd (f15 a4 (0 : Int) ((IntKind.i64.wrap (((a2.map e_SIII).length : Int) - (1 : Int))))) fun (y7 : Bool) =>
    oite (!y7) (
     some ((0 : Int), (6 : Int))
      ) (
     obnd (f355 a5) fun (y10 : Bool) =>
     oite (!y10) (
      some ((0 : Int), (2 : Int))
       ) (
      oite ((ieq ((a6.map e_III).length : Int) (0 : Int))) (
       some ((0 : Int), (10 : Int))
        ) (
       oite ((ilt (10 : Int) ((a6.map e_III).length : Int))) (
        some ((0 : Int), (8 : Int))
         ) (
        obndS (
         oloop (τ := Int) (ρ := (Unit) ⊕ (Int × Int)) (fun e19 =>
          oite ((ilt e19 ((a6.map e_III).length : Int))) (
           ogrd ((ile 0 e19)) (
           obnd (a6[e19.toNat]?) fun (x24 : Int × Int × Int) =>
           obnd (
            obnd (f355 x24.1) fun (y29 : Bool) =>
            obnd (
             oite (!y29) (
              some true
               ) (
              obnd (f355 x24.2.1) fun (y34 : Bool) =>
              some (!y34)
               )
              ) fun (r31 : Bool) =>
            oite r31 (
             some true
              ) (
             obnd (f355 x24.2.2) fun (y37 : Bool) =>
             some (!y37)
              )
             ) fun (r25 : Bool) =>
           oite r25 (
            some (.inr (.inr ((e19, (2 : Int)))))
             ) (
            oite ((ilt x24.1 x24.2.1)) (
             some (.inr (.inr ((e19, (9 : Int)))))
              ) (
             some (.inl (IntKind.i64.wrap (e19 + (1 : Int))))
              )
             )
           )
            ) (
           some (.inr (.inl ()))
            )
           ) (0 : Int)
          ) fun (_ : Unit) =>
        some ((0 : Int), (0 : Int))
         )
        )
       )
      )
     )
    )
set_option maxHeartbeats 1000000 in
theorem c326 [LO]  {a0 : Int} {a1 : Int} {a2 : List (ByteArray × Int × Int × Int)} {a3 : Int} {a4 : Int} {a5 : Int} {a6 : List (Int × Int × Int)} {x : Int × Int} (H : f326 a0 a1 a2 a3 a4 a5 a6 = some x) : ICalls E 326 [(.agg ⟨[(.int .i64 a0), (.int .i64 a1), (VS 4 (a2.map e_SIII))]⟩), (.agg ⟨[(.int .i64 a3), (.int .i64 a4), (.int .i64 a5), (VS 3 (a6.map e_III))]⟩)] AHeap.none fun v _ => v = (.tuple ⟨[(.int .i64 x.1), (.int .i64 x.2)]⟩) := by
  refine icalls_fn (pfnw ?_); unfold f326 at H;(conv=>whnf);refine pw_so ?_;refine po_all ?_;(conv=>whnf);refine pw_seq ?_;refine pw_so ?_;refine po_all ?_;(conv=>whnf);obtain ⟨y1, h2, H⟩ := obnd_some H;refine (c347 h2).go ?_;(conv=>whnf);refine pw_so ?_;refine po_all ?_;(conv=>whnf);refine pw_cond ?_;(conv=>whnf);refine pbr_oite H (fun g3 H => ?_) (fun g3 H => ?_)
  · (conv=>whnf);refine pw_so ?_;refine po_all ?_;(conv=>whnf);refine pw_ret ?_;(conv=>whnf);cases H; rfl
  · (conv=>whnf);refine pw_skip ?_;(conv=>whnf);refine pw_seq ?_;refine pw_so ?_;refine po_all ?_;(conv=>whnf);obtain ⟨y4, h5, H⟩ := obnd_some H;refine (c15 h5).go ?_;(conv=>whnf);refine pw_cond ?_;(conv=>whnf);refine pbr_oite H (fun g6 H => ?_) (fun g6 H => ?_)
    · (conv=>whnf);refine pw_so ?_;refine po_all ?_;(conv=>whnf);refine pw_ret ?_;(conv=>whnf);cases H; rfl
    · (conv=>whnf);refine pw_skip ?_;(conv=>whnf);refine pw_seq ?_;refine pw_so ?_;refine po_all ?_;(conv=>whnf);obtain ⟨y7, h8, H⟩ := obnd_some H;refine (c15 h8).go ?_;(conv=>whnf);refine pw_cond ?_;(conv=>whnf);refine pbr_oite H (fun g9 H => ?_) (fun g9 H => ?_)
      · (conv=>whnf);refine pw_so ?_;refine po_all ?_;(conv=>whnf);refine pw_ret ?_;(conv=>whnf);cases H; rfl
      · (conv=>whnf);refine pw_skip ?_;(conv=>whnf);refine pw_seq ?_;refine pw_so ?_;refine po_all ?_;(conv=>whnf);obtain ⟨y10, h11, H⟩ := obnd_some H;refine (c355 h11).go ?_;(conv=>whnf);refine pw_cond ?_;(conv=>whnf);refine pbr_oite H (fun g12 H => ?_) (fun g12 H => ?_)
        · (conv=>whnf);refine pw_so ?_;refine po_all ?_;(conv=>whnf);refine pw_ret ?_;(conv=>whnf);cases H; rfl
        · (conv=>whnf);refine pw_skip ?_;(conv=>whnf);refine pw_seq ?_;refine pw_so ?_;refine po_all ?_;(conv=>whnf);refine pw_cond ?_;(conv=>whnf);refine pbr_oite H (fun g13 H => ?_) (fun g13 H => ?_)
          · (conv=>whnf);refine pw_so ?_;refine po_all ?_;(conv=>whnf);refine pw_ret ?_;(conv=>whnf);cases H; rfl
          · (conv=>whnf);refine pw_skip ?_;(conv=>whnf);refine pw_seq ?_;refine pw_so ?_;refine po_all ?_;(conv=>whnf);refine pw_cond ?_;(conv=>whnf);refine pbr_oite H (fun g14 H => ?_) (fun g14 H => ?_)
            · (conv=>whnf);refine pw_so ?_;refine po_all ?_;(conv=>whnf);refine pw_ret ?_;(conv=>whnf);cases H; rfl
            · (conv=>whnf);refine pw_skip ?_;(conv=>whnf);obtain ⟨r15, h16, h17, h18⟩ := obndS_some H;refine pw_joinS (ρ := Unit) (fun e => ⟨[], ⟨2, [(1, .rw [(.int .i64 a3), (.int .i64 a4), (.int .i64 a5), (VS 3 (a6.map e_III))]), (0, .rw [(.int .i64 a0), (.int .i64 a1), (VS 4 (a2.map e_SIII))])], false⟩⟩) r15 ?_ ?_
              · refine pw_so ?_;refine po_all ?_;(conv=>whnf);refine pw_block ?_;refine pw_loop (τ := Int) (fun e => ⟨[(3, (.pointer (some ⟨1, 0, none⟩))), (7, (.int .i64 e))], ⟨2, [(1, .rw [(.int .i64 a3), (.int .i64 a4), (.int .i64 a5), (VS 3 (a6.map e_III))]), (0, .rw [(.int .i64 a0), (.int .i64 a1), (VS 4 (a2.map e_SIII))])], false⟩⟩) h16 ?_ (fun _ => Nat.le_of_ble_eq_true rfl) ?_
                · exact .sub' (Nat.le_of_ble_eq_true rfl) (.cons rfl (.cons rfl .nil))
                · intro e19 x20 h21;refine pw_seq ?_;refine pw_so ?_;refine po_all ?_;(conv=>whnf);refine pw_cond ?_;(conv=>whnf);refine pbr_oite h21 (fun g22 h21 => ?_) (fun g22 h21 => ?_)
                  · (conv=>whnf);refine pw_skip ?_;(conv=>whnf);refine pw_seq ?_;refine pw_block ?_;refine pw_so ?_;refine po_all ?_;(conv=>whnf);refine pbr_ogrd h21 (fun g23 h21 => ?_);(conv=>whnf);refine nth_o (l := a6) h21 (fun x24 _ h21 => ?_);(conv=>whnf);refine pw_seq ?_;obtain ⟨r25, h26, h21⟩ := obnd_some h21;refine pw_join (ρ := Bool) (fun e => ⟨[(3, (.pointer (some ⟨1, 0, none⟩))), (7, (.int .i64 e19)), (8, (.pointer (some ⟨2, 0, none⟩))), (69, (.bool e))], ⟨3, [(2, .rw [(.int .i64 x24.1), (.int .i64 x24.2.1), (.int .i64 x24.2.2)]), (1, .rw [(.int .i64 a3), (.int .i64 a4), (.int .i64 a5), (VS 3 (a6.map e_III))]), (0, .rw [(.int .i64 a0), (.int .i64 a1), (VS 4 (a2.map e_SIII))])], false⟩⟩) r25 ?_ ?_
                    · refine pw_ops ?_;refine po_ops 5 ?_;(conv=>whnf);obtain ⟨y29, h30, h26⟩ := obnd_some h26;refine (c355 h30).go ?_;(conv=>whnf);obtain ⟨r31, h32, h26⟩ := obnd_some h26;refine po_seg (τ := Bool) 5 (fun e => ⟨[(3, (.pointer (some ⟨1, 0, none⟩))), (7, (.int .i64 e19)), (8, (.pointer (some ⟨2, 0, none⟩))), (63, (.bool e))], ⟨3, [(2, .rw [(.int .i64 x24.1), (.int .i64 x24.2.1), (.int .i64 x24.2.2)]), (1, .rw [(.int .i64 a3), (.int .i64 a4), (.int .i64 a5), (VS 3 (a6.map e_III))]), (0, .rw [(.int .i64 a0), (.int .i64 a1), (VS 4 (a2.map e_SIII))])], false⟩⟩) r31 ?_ ?_
                      · refine po_all ?_;(conv=>whnf);refine pbr_oite h32 (fun g33 h32 => ?_) (fun g33 h32 => ?_)
                        · (conv=>whnf);refine pbr_t g33 ?_;(conv=>whnf);refine pbr_t g33 ?_;(conv=>whnf);refine pbr_t g33 ?_;(conv=>whnf);refine pbr_t g33 ?_;(conv=>whnf);cases h32;exact ⟨(.cons rfl (.cons rfl (.cons rfl (.cons rfl .nil)))), rfl⟩
                        · (conv=>whnf);refine pbr_f g33 ?_;(conv=>whnf);refine pbr_f g33 ?_;(conv=>whnf);obtain ⟨y34, h35, h32⟩ := obnd_some h32;refine (c355 h35).go ?_;(conv=>whnf);refine pbr_f g33 ?_;(conv=>whnf);refine pbr_f g33 ?_;(conv=>whnf);cases h32;exact ⟨(.cons rfl (.cons rfl (.cons rfl (.cons rfl .nil)))), rfl⟩
                      · refine po_all ?_;(conv=>whnf);refine pbr_oite h26 (fun g36 h26 => ?_) (fun g36 h26 => ?_)
                        · (conv=>whnf);refine pbr_t g36 ?_;(conv=>whnf);refine pbr_t g36 ?_;(conv=>whnf);refine pbr_t g36 ?_;(conv=>whnf);refine pbr_t g36 ?_;(conv=>whnf);cases h26;exact ⟨(.cons rfl (.cons rfl (.cons rfl (.cons rfl .nil)))), rfl⟩
                        · (conv=>whnf);refine pbr_f g36 ?_;(conv=>whnf);refine pbr_f g36 ?_;(conv=>whnf);obtain ⟨y37, h38, h26⟩ := obnd_some h26;refine (c355 h38).go ?_;(conv=>whnf);refine pbr_f g36 ?_;(conv=>whnf);refine pbr_f g36 ?_;(conv=>whnf);cases h26;exact ⟨(.cons rfl (.cons rfl (.cons rfl (.cons rfl .nil)))), rfl⟩
                    · refine pw_cond ?_;(conv=>whnf);refine pbr_oite h21 (fun g39 h21 => ?_) (fun g39 h21 => ?_)
                      · (conv=>whnf);refine pw_so ?_;refine po_all ?_;(conv=>whnf);refine pw_ret ?_;(conv=>whnf);cases h21;refine ⟨_, rfl, ?_⟩; rintro rfl;(conv=>whnf);obtain rfl := h18 _ rfl; rfl
                      · (conv=>whnf);refine pw_skip ?_;(conv=>whnf);refine pw_so ?_;refine po_all ?_;(conv=>whnf);refine pw_cond ?_;(conv=>whnf);refine pbr_oite h21 (fun g41 h21 => ?_) (fun g41 h21 => ?_)
                        · (conv=>whnf);refine pw_so ?_;refine po_all ?_;(conv=>whnf);refine pw_ret ?_;(conv=>whnf);cases h21;refine ⟨_, rfl, ?_⟩; rintro rfl;(conv=>whnf);obtain rfl := h18 _ rfl; rfl
                        · (conv=>whnf);refine pw_skip ?_;(conv=>whnf);refine pw_ops ?_;refine po_all ?_;(conv=>whnf);cases h21;refine ⟨_, rfl, ?_⟩;refine Recast.trunc (Nat.le_of_ble_eq_true rfl) ?_ ?_
                          · repeat (first | exact .nil | refine .cons rfl (by first | exact OBnd.rwc (Nat.le_of_ble_eq_true rfl) rfl | exact OBnd.tail (Nat.le_of_ble_eq_true rfl) | trivial) ?_)
                          · repeat (first | exact .nil | refine .cons rfl (by first | exact Bnd.ptr (Nat.le_of_ble_eq_true rfl) | exact Bnd.vt (Nat.le_of_ble_eq_true rfl) | exact Bnd.cl) ?_)
                  · (conv=>whnf);refine pw_exit ?_;(conv=>whnf);cases h21;refine ⟨_, rfl, ?_⟩; rintro rfl;(conv=>whnf);exact ⟨_, rfl, ⟨.nil, rfl⟩⟩
              · intro r44 hr; have H := h17 _ hr;refine pw_so ?_;refine po_all ?_;(conv=>whnf);refine pw_ret ?_;(conv=>whnf);cases H; rfl

/-- guidevane/guidevaneref08.TaskErr -/
noncomputable def f311 [LO]  (a0 : Int) (a1 : Int) (a2 : List (ByteArray × Int × Int × Int)) (a3 : Int) (a4 : Int) (a5 : Int) (a6 : List (Int × Int × Int)) : Option Int :=
  obnd (f326 a0 a1 a2 a3 a4 a5 a6) fun (y1 : Int × Int) =>
  some y1.2
set_option maxHeartbeats 1000000 in
theorem c311 [LO]  {a0 : Int} {a1 : Int} {a2 : List (ByteArray × Int × Int × Int)} {a3 : Int} {a4 : Int} {a5 : Int} {a6 : List (Int × Int × Int)} {x : Int} (H : f311 a0 a1 a2 a3 a4 a5 a6 = some x) : ICalls E 311 [(.agg ⟨[(.int .i64 a0), (.int .i64 a1), (VS 4 (a2.map e_SIII))]⟩), (.agg ⟨[(.int .i64 a3), (.int .i64 a4), (.int .i64 a5), (VS 3 (a6.map e_III))]⟩)] AHeap.none fun v _ => v = (.int .i64 x) := by
  refine icalls_fn (pfnw ?_); unfold f311 at H;(conv=>whnf);refine pw_so ?_;refine po_all ?_;(conv=>whnf);refine pw_so ?_;refine po_all ?_;(conv=>whnf);obtain ⟨y1, h2, H⟩ := obnd_some H;refine (c326 h2).go ?_;(conv=>whnf);refine pw_so ?_;refine po_all ?_;(conv=>whnf);refine pw_ret ?_;(conv=>whnf);cases H; rfl

/-- guidevane/guidevaneref08.Volumes -/
noncomputable def f328 [LO]  (_ : Int) (_ : Int) (a2 : List (ByteArray × Int × Int × Int)) (a3 : Int) (_ : Int) (_ : Int) (a6 : List (Int × Int × Int)) (a7 : List Int) : Option ((List Int)) :=
  obnd (
   oloop (τ := (List Int) × Int) (ρ := (List Int)) (fun e5 =>
    oite ((ilt e5.2 ((a7.map eI).length : Int))) (
     ogrd ((ile 0 e5.2)) (
     obnd (e5.1[e5.2.toNat]?) fun (x10 : Int) =>
     obnd (a6[e5.2.toNat]?) fun (x11 : Int × Int × Int) =>
     obnd (a7[e5.2.toNat]?) fun (x12 : Int) =>
     ogrd ((ile 0 x12)) (
     obnd (a2[x12.toNat]?) fun (x14 : ByteArray × Int × Int × Int) =>
     ogrd (fits 8 (e5.1.length + ([(IntKind.i64.wrap ((IntKind.i64.wrap (x10 + x11.2.2)) + x14.2.1))] : List Int).length)) (
     some (.inl (((e5.1 ++ ([(IntKind.i64.wrap ((IntKind.i64.wrap (x10 + x11.2.2)) + x14.2.1))] : List Int)), (IntKind.i64.wrap (e5.2 + (1 : Int))))))
     )
     )
     )
      ) (
     some (.inr (e5.1))
      )
     ) ((([a3] : List Int), (0 : Int)))
    ) fun (r1 : (List Int)) =>
  some r1
set_option maxHeartbeats 1000000 in
theorem c328 [LO]  {a0 : Int} {a1 : Int} {a2 : List (ByteArray × Int × Int × Int)} {a3 : Int} {a4 : Int} {a5 : Int} {a6 : List (Int × Int × Int)} {a7 : List Int} {x : (List Int)} (H : f328 a0 a1 a2 a3 a4 a5 a6 a7 = some x) : ICalls E 328 [(.agg ⟨[(.int .i64 a0), (.int .i64 a1), (VS 4 (a2.map e_SIII))]⟩), (.agg ⟨[(.int .i64 a3), (.int .i64 a4), (.int .i64 a5), (VS 3 (a6.map e_III))]⟩), (VS 1 (a7.map eI))] AHeap.none fun v _ => v = (VS 1 (x.map eI)) := by
  refine ICalls.frz ?_;refine icalls_fn (pfnw ?_); unfold f328 at H;(conv=>whnf);refine pw_so ?_;refine po_all ?_;(conv=>whnf);refine pw_so ?_;refine po_all ?_;(conv=>whnf);obtain ⟨r1, h2, H⟩ := obnd_some H;refine pw_join (ρ := (List Int)) (fun e => ⟨[(7, (VT 1 (e.map eI) 2))], ⟨3, [(2, .tail (e.map eI).length 1), (1, .rw [(.int .i64 a3), (.int .i64 a4), (.int .i64 a5), (VS 3 (a6.map e_III))]), (0, .rw [(.int .i64 a0), (.int .i64 a1), (VS 4 (a2.map e_SIII))])], false⟩⟩) r1 ?_ ?_
  · refine pw_so ?_;refine po_all ?_;(conv=>whnf);refine pw_block ?_;refine pw_loop (τ := (List Int) × Int) (fun e => ⟨[(2, (VS 1 (a7.map eI))), (3, (.pointer (some ⟨0, 0, none⟩))), (4, (.pointer (some ⟨1, 0, none⟩))), (7, (VT 1 (e.1.map eI) 2)), (8, (.int .i64 e.2))], ⟨3, [(2, .tail (e.1.map eI).length 1), (1, .rw [(.int .i64 a3), (.int .i64 a4), (.int .i64 a5), (VS 3 (a6.map e_III))]), (0, .rw [(.int .i64 a0), (.int .i64 a1), (VS 4 (a2.map e_SIII))])], false⟩⟩) h2 ?_ (fun _ => Nat.le_of_ble_eq_true rfl) ?_
    · exact .sub' (Nat.le_of_ble_eq_true rfl) (.cons rfl (.cons rfl (.cons rfl (.cons rfl (.cons rfl .nil)))))
    · intro e5 x6 h7;refine pw_seq ?_;refine pw_so ?_;refine po_all ?_;(conv=>whnf);refine pw_cond ?_;(conv=>whnf);refine pbr_oite h7 (fun g8 h7 => ?_) (fun g8 h7 => ?_)
      · (conv=>whnf);refine pw_skip ?_;(conv=>whnf);refine pw_seq ?_;refine pw_block ?_;refine pw_draw ?_;(conv=>whnf);refine pbr_ogrd h7 (fun g9 h7 => ?_);(conv=>whnf);refine nth_o (l := e5.1) h7 (fun x10 _ h7 => ?_);(conv=>whnf);refine pbr_t g9 ?_;(conv=>whnf);refine nth_o (l := a6) h7 (fun x11 _ h7 => ?_);(conv=>whnf);refine pbr_t g9 ?_;(conv=>whnf);refine nth_o (l := a7) h7 (fun x12 _ h7 => ?_);(conv=>whnf);refine pbr_ogrd h7 (fun g13 h7 => ?_);(conv=>whnf);refine nth_o (l := a2) h7 (fun x14 _ h7 => ?_);(conv=>whnf);refine ⟨?_, trivial⟩;(conv=>whnf);refine ⟨by repeat (first | exact trivial | refine And.intro rfl ?_), ?_⟩
        (conv=>whnf);refine ⟨?_, trivial⟩;(conv=>whnf);refine app_o (l := e5.1) (m := ([(IntKind.i64.wrap ((IntKind.i64.wrap (x10 + x11.2.2)) + x14.2.1))] : List Int)) (f := eI) h7 (by rfl) (by rfl) (by rfl) (fun h7 => ?_);(conv=>whnf);refine ⟨by repeat (first | exact trivial | refine And.intro rfl ?_), ?_⟩;(conv=>whnf);refine ⟨?_, trivial⟩;(conv=>whnf);refine ⟨by repeat (first | exact trivial | refine And.intro rfl ?_), ?_⟩;(conv=>whnf);refine pw_ops ?_;refine po_all ?_;(conv=>whnf);cases h7;refine ⟨_, rfl, ?_⟩;refine Recast.trunc (Nat.le_of_ble_eq_true rfl) ?_ ?_
        · repeat (first | exact .nil | refine .cons rfl (by first | exact OBnd.rwc (Nat.le_of_ble_eq_true rfl) rfl | exact OBnd.tail (Nat.le_of_ble_eq_true rfl) | trivial) ?_)
        · repeat (first | exact .nil | refine .cons rfl (by first | exact Bnd.ptr (Nat.le_of_ble_eq_true rfl) | exact Bnd.vt (Nat.le_of_ble_eq_true rfl) | exact Bnd.cl) ?_)
      · (conv=>whnf);refine pw_exit ?_;(conv=>whnf);cases h7;refine ⟨_, rfl, ?_⟩; rintro rfl;(conv=>whnf);exact ⟨(.cons rfl .nil), rfl⟩
  · refine pw_so ?_;refine po_all ?_;(conv=>whnf);refine pw_ret ?_;(conv=>whnf);cases H; show ∃ D, Fz _ D 0 (VT 1 _ 2) _;exact ⟨fun _ => false, .vtc⟩

/-- guidevane/guidevaneref08.Possible -/
noncomputable def f356 [LO]  (a0 : Int) (a1 : Int) (a2 : List (ByteArray × Int × Int × Int)) (a3 : Int) (a4 : Int) (a5 : Int) (a6 : List (Int × Int × Int)) (a7 : List Int) : Option Bool :=
  obnd (f328 a0 a1 a2 a3 a4 a5 a6 a7) fun (y1 : (List Int)) =>
  obndS (
   oloop (τ := Int) (ρ := (Unit) ⊕ Bool) (fun e7 =>
    oite ((ilt e7 ((y1.map eI).length : Int))) (
     ogrd ((ile 0 e7)) (
     obnd (y1[e7.toNat]?) fun (x12 : Int) =>
     obnd (f15 x12 a0 a1) fun (y13 : Bool) =>
     oite (!y13) (
      some (.inr (.inr (false)))
       ) (
      some (.inl (IntKind.i64.wrap (e7 + (1 : Int))))
       )
     )
      ) (
     some (.inr (.inl ()))
      )
     ) (0 : Int)
    ) fun (_ : Unit) =>
  some true
set_option maxHeartbeats 1000000 in
theorem c356 [LO]  {a0 : Int} {a1 : Int} {a2 : List (ByteArray × Int × Int × Int)} {a3 : Int} {a4 : Int} {a5 : Int} {a6 : List (Int × Int × Int)} {a7 : List Int} {x : Bool} (H : f356 a0 a1 a2 a3 a4 a5 a6 a7 = some x) : ICalls E 356 [(.agg ⟨[(.int .i64 a0), (.int .i64 a1), (VS 4 (a2.map e_SIII))]⟩), (.agg ⟨[(.int .i64 a3), (.int .i64 a4), (.int .i64 a5), (VS 3 (a6.map e_III))]⟩), (VS 1 (a7.map eI))] AHeap.none fun v _ => v = (.bool x) := by
  refine icalls_fn (pfnw ?_); unfold f356 at H;(conv=>whnf);refine pw_so ?_;refine po_all ?_;(conv=>whnf);refine pw_so ?_;refine po_all ?_;(conv=>whnf);obtain ⟨y1, h2, H⟩ := obnd_some H;refine (c328 h2).go ?_;(conv=>whnf);obtain ⟨r3, h4, h5, h6⟩ := obndS_some H;refine pw_joinS (ρ := Unit) (fun e => ⟨[], ⟨2, [(1, .rw [(.int .i64 a3), (.int .i64 a4), (.int .i64 a5), (VS 3 (a6.map e_III))]), (0, .rw [(.int .i64 a0), (.int .i64 a1), (VS 4 (a2.map e_SIII))])], false⟩⟩) r3 ?_ ?_
  · refine pw_so ?_;refine po_all ?_;(conv=>whnf);refine pw_block ?_;refine pw_loop (τ := Int) (fun e => ⟨[(3, (.pointer (some ⟨0, 0, none⟩))), (7, (VS 1 (y1.map eI))), (8, (.int .i64 e))], ⟨2, [(1, .rw [(.int .i64 a3), (.int .i64 a4), (.int .i64 a5), (VS 3 (a6.map e_III))]), (0, .rw [(.int .i64 a0), (.int .i64 a1), (VS 4 (a2.map e_SIII))])], false⟩⟩) h4 ?_ (fun _ => Nat.le_of_ble_eq_true rfl) ?_
    · exact .sub' (Nat.le_of_ble_eq_true rfl) (.cons rfl (.cons rfl (.cons rfl .nil)))
    · intro e7 x8 h9;refine pw_seq ?_;refine pw_so ?_;refine po_all ?_;(conv=>whnf);refine pw_cond ?_;(conv=>whnf);refine pbr_oite h9 (fun g10 h9 => ?_) (fun g10 h9 => ?_)
      · (conv=>whnf);refine pw_skip ?_;(conv=>whnf);refine pw_seq ?_;refine pw_block ?_;refine pw_sd ?_;(conv=>whnf);refine pbr_ogrd h9 (fun g11 h9 => ?_);(conv=>whnf);refine nth_o (l := y1) h9 (fun x12 _ h9 => ?_);(conv=>whnf);refine ⟨?_, trivial⟩;(conv=>whnf);obtain ⟨y13, h14, h9⟩ := obnd_some h9;refine (c15 h14).go ?_;(conv=>whnf);refine ⟨by repeat (first | exact trivial | refine And.intro rfl ?_), ?_⟩;(conv=>whnf);refine pw_cond ?_;(conv=>whnf);refine pbr_oite h9 (fun g15 h9 => ?_) (fun g15 h9 => ?_)
        · (conv=>whnf);refine pw_so ?_;refine po_all ?_;(conv=>whnf);refine pw_ret ?_;(conv=>whnf);cases h9;refine ⟨_, rfl, ?_⟩; rintro rfl;(conv=>whnf);obtain rfl := h6 _ rfl; rfl
        · (conv=>whnf);refine pw_skip ?_;(conv=>whnf);refine pw_ops ?_;refine po_all ?_;(conv=>whnf);cases h9;refine ⟨_, rfl, ?_⟩;exact .sub' (Nat.le_of_ble_eq_true rfl) (.cons rfl (.cons rfl (.cons rfl .nil)))
      · (conv=>whnf);refine pw_exit ?_;(conv=>whnf);cases h9;refine ⟨_, rfl, ?_⟩; rintro rfl;(conv=>whnf);exact ⟨_, rfl, ⟨.nil, rfl⟩⟩
  · intro r18 hr; have H := h5 _ hr;refine pw_so ?_;refine po_all ?_;(conv=>whnf);refine pw_ret ?_;(conv=>whnf);cases H; rfl

/-- guidevane/guidevaneref08.PlanErr -/
noncomputable def f327 [LO]  (a0 : Int) (a1 : Int) (a2 : List (ByteArray × Int × Int × Int)) (a3 : Int) (a4 : Int) (a5 : Int) (a6 : List (Int × Int × Int)) (a7 : List Int) : Option Int :=
  oite ((!(ieq ((a7.map eI).length : Int) ((a6.map e_III).length : Int)))) (
   some (10 : Int)
    ) (
   obndS (
    oloop (τ := Int) (ρ := (Unit) ⊕ Int) (fun e6 =>
     oite ((ilt e6 ((a7.map eI).length : Int))) (
      ogrd ((ile 0 e6)) (
      obnd (a7[e6.toNat]?) fun (x11 : Int) =>
      obnd (f15 x11 (0 : Int) ((IntKind.i64.wrap (((a2.map e_SIII).length : Int) - (1 : Int))))) fun (y12 : Bool) =>
      oite (!y12) (
       some (.inr (.inr ((6 : Int))))
        ) (
       some (.inl (IntKind.i64.wrap (e6 + (1 : Int))))
        )
      )
       ) (
      some (.inr (.inl ()))
       )
      ) (0 : Int)
     ) fun (_ : Unit) =>
   obnd (f356 a0 a1 a2 a3 a4 a5 a6 a7) fun (y18 : Bool) =>
   oite (!y18) (
    some (22 : Int)
     ) (
    some (0 : Int)
     )
    )
set_option maxHeartbeats 1000000 in
theorem c327 [LO]  {a0 : Int} {a1 : Int} {a2 : List (ByteArray × Int × Int × Int)} {a3 : Int} {a4 : Int} {a5 : Int} {a6 : List (Int × Int × Int)} {a7 : List Int} {x : Int} (H : f327 a0 a1 a2 a3 a4 a5 a6 a7 = some x) : ICalls E 327 [(.agg ⟨[(.int .i64 a0), (.int .i64 a1), (VS 4 (a2.map e_SIII))]⟩), (.agg ⟨[(.int .i64 a3), (.int .i64 a4), (.int .i64 a5), (VS 3 (a6.map e_III))]⟩), (VS 1 (a7.map eI))] AHeap.none fun v _ => v = (.int .i64 x) := by
  refine icalls_fn (pfnw ?_); unfold f327 at H;(conv=>whnf);refine pw_so ?_;refine po_all ?_;(conv=>whnf);refine pw_seq ?_;refine pw_so ?_;refine po_all ?_;(conv=>whnf);refine pw_cond ?_;(conv=>whnf);refine pbr_oite H (fun g1 H => ?_) (fun g1 H => ?_)
  · (conv=>whnf);refine pw_so ?_;refine po_all ?_;(conv=>whnf);refine pw_ret ?_;(conv=>whnf);cases H; rfl
  · (conv=>whnf);refine pw_skip ?_;(conv=>whnf);obtain ⟨r2, h3, h4, h5⟩ := obndS_some H;refine pw_joinS (ρ := Unit) (fun e => ⟨[(2, (VS 1 (a7.map eI))), (3, (.pointer (some ⟨0, 0, none⟩))), (4, (.pointer (some ⟨1, 0, none⟩)))], ⟨2, [(1, .rw [(.int .i64 a3), (.int .i64 a4), (.int .i64 a5), (VS 3 (a6.map e_III))]), (0, .rw [(.int .i64 a0), (.int .i64 a1), (VS 4 (a2.map e_SIII))])], false⟩⟩) r2 ?_ ?_
    · refine pw_so ?_;refine po_all ?_;(conv=>whnf);refine pw_block ?_;refine pw_loop (τ := Int) (fun e => ⟨[(2, (VS 1 (a7.map eI))), (3, (.pointer (some ⟨0, 0, none⟩))), (4, (.pointer (some ⟨1, 0, none⟩))), (7, (.int .i64 e))], ⟨2, [(1, .rw [(.int .i64 a3), (.int .i64 a4), (.int .i64 a5), (VS 3 (a6.map e_III))]), (0, .rw [(.int .i64 a0), (.int .i64 a1), (VS 4 (a2.map e_SIII))])], false⟩⟩) h3 ?_ (fun _ => Nat.le_of_ble_eq_true rfl) ?_
      · exact .sub' (Nat.le_of_ble_eq_true rfl) (.cons rfl (.cons rfl (.cons rfl (.cons rfl .nil))))
      · intro e6 x7 h8;refine pw_seq ?_;refine pw_so ?_;refine po_all ?_;(conv=>whnf);refine pw_cond ?_;(conv=>whnf);refine pbr_oite h8 (fun g9 h8 => ?_) (fun g9 h8 => ?_)
        · (conv=>whnf);refine pw_skip ?_;(conv=>whnf);refine pw_seq ?_;refine pw_block ?_;refine pw_sd ?_;(conv=>whnf);refine pbr_ogrd h8 (fun g10 h8 => ?_);(conv=>whnf);refine nth_o (l := a7) h8 (fun x11 _ h8 => ?_);(conv=>whnf);refine ⟨?_, trivial⟩;(conv=>whnf);obtain ⟨y12, h13, h8⟩ := obnd_some h8;refine (c15 h13).go ?_;(conv=>whnf);refine ⟨by repeat (first | exact trivial | refine And.intro rfl ?_), ?_⟩;(conv=>whnf);refine pw_cond ?_;(conv=>whnf);refine pbr_oite h8 (fun g14 h8 => ?_) (fun g14 h8 => ?_)
          · (conv=>whnf);refine pw_so ?_;refine po_all ?_;(conv=>whnf);refine pw_ret ?_;(conv=>whnf);cases h8;refine ⟨_, rfl, ?_⟩; rintro rfl;(conv=>whnf);obtain rfl := h5 _ rfl; rfl
          · (conv=>whnf);refine pw_skip ?_;(conv=>whnf);refine pw_ops ?_;refine po_all ?_;(conv=>whnf);cases h8;refine ⟨_, rfl, ?_⟩;exact .sub' (Nat.le_of_ble_eq_true rfl) (.cons rfl (.cons rfl (.cons rfl (.cons rfl .nil))))
        · (conv=>whnf);refine pw_exit ?_;(conv=>whnf);cases h8;refine ⟨_, rfl, ?_⟩; rintro rfl;(conv=>whnf);exact ⟨_, rfl, ⟨(.cons rfl (.cons rfl (.cons rfl .nil))), rfl⟩⟩
    · intro r17 hr; have H := h4 _ hr;refine pw_seq ?_;refine pw_so ?_;refine po_all ?_;(conv=>whnf);obtain ⟨y18, h19, H⟩ := obnd_some H;refine (c356 h19).go ?_;(conv=>whnf);refine pw_cond ?_;(conv=>whnf);refine pbr_oite H (fun g20 H => ?_) (fun g20 H => ?_)
      · (conv=>whnf);refine pw_so ?_;refine po_all ?_;(conv=>whnf);refine pw_ret ?_;(conv=>whnf);cases H; rfl
      · (conv=>whnf);refine pw_skip ?_;(conv=>whnf);refine pw_so ?_;refine po_all ?_;(conv=>whnf);refine pw_ret ?_;(conv=>whnf);cases H; rfl

/-- guidevane/guidevaneref08.ReserveErr -/
noncomputable def f319 [LO]  (a0 : Int) (a1 : Int) (a2 : List (ByteArray × Int × Int × Int)) (a3 : Int) (a4 : Int) (a5 : Int) (a6 : List (Int × Int × Int)) (a7 : List Int) (a8 : Int) : Option Int :=
  obnd (f327 a0 a1 a2 a3 a4 a5 a6 a7) fun (y1 : Int) =>
  oite ((!(ieq y1 (0 : Int)))) (
   some y1
    ) (
   obnd (f15 a8 (0 : Int) ((IntKind.i64.wrap (((a2.map e_SIII).length : Int) - (1 : Int))))) fun (y4 : Bool) =>
   oite (!y4) (
    some (6 : Int)
     ) (
    some (0 : Int)
     )
    )
set_option maxHeartbeats 1000000 in
theorem c319 [LO]  {a0 : Int} {a1 : Int} {a2 : List (ByteArray × Int × Int × Int)} {a3 : Int} {a4 : Int} {a5 : Int} {a6 : List (Int × Int × Int)} {a7 : List Int} {a8 : Int} {x : Int} (H : f319 a0 a1 a2 a3 a4 a5 a6 a7 a8 = some x) : ICalls E 319 [(.agg ⟨[(.int .i64 a0), (.int .i64 a1), (VS 4 (a2.map e_SIII))]⟩), (.agg ⟨[(.int .i64 a3), (.int .i64 a4), (.int .i64 a5), (VS 3 (a6.map e_III))]⟩), (.agg ⟨[(VS 1 (a7.map eI)), (.int .i64 a8)]⟩)] AHeap.none fun v _ => v = (.int .i64 x) := by
  refine icalls_fn (pfnw ?_); unfold f319 at H;(conv=>whnf);refine pw_so ?_;refine po_all ?_;(conv=>whnf);refine pw_seq ?_;refine pw_so ?_;refine po_all ?_;(conv=>whnf);obtain ⟨y1, h2, H⟩ := obnd_some H;refine (c327 h2).go ?_;(conv=>whnf);refine pw_so ?_;refine po_all ?_;(conv=>whnf);refine pw_cond ?_;(conv=>whnf);refine pbr_oite H (fun g3 H => ?_) (fun g3 H => ?_)
  · (conv=>whnf);refine pw_so ?_;refine po_all ?_;(conv=>whnf);refine pw_ret ?_;(conv=>whnf);cases H; rfl
  · (conv=>whnf);refine pw_skip ?_;(conv=>whnf);refine pw_seq ?_;refine pw_so ?_;refine po_all ?_;(conv=>whnf);obtain ⟨y4, h5, H⟩ := obnd_some H;refine (c15 h5).go ?_;(conv=>whnf);refine pw_cond ?_;(conv=>whnf);refine pbr_oite H (fun g6 H => ?_) (fun g6 H => ?_)
    · (conv=>whnf);refine pw_so ?_;refine po_all ?_;(conv=>whnf);refine pw_ret ?_;(conv=>whnf);cases H; rfl
    · (conv=>whnf);refine pw_skip ?_;(conv=>whnf);refine pw_so ?_;refine po_all ?_;(conv=>whnf);refine pw_ret ?_;(conv=>whnf);cases H; rfl

/-- guidevane/guidevaneref08.CopyPlant -/
noncomputable def f309  (a0 : Int) (a1 : Int) (a2 : List (ByteArray × Int × Int × Int)) : Option (Int × Int × (List (ByteArray × Int × Int × Int))) :=
  ogrd (fits 40 (([] : List (ByteArray × Int × Int × Int)).length + a2.length)) (
  some (a0, a1, (([] : List (ByteArray × Int × Int × Int)) ++ a2))
  )
set_option maxHeartbeats 1000000 in
theorem c309  {a0 : Int} {a1 : Int} {a2 : List (ByteArray × Int × Int × Int)} {x : Int × Int × (List (ByteArray × Int × Int × Int))} (H : f309 a0 a1 a2 = some x) : ICalls E 309 [(.agg ⟨[(.int .i64 a0), (.int .i64 a1), (VS 4 (a2.map e_SIII))]⟩)] AHeap.none fun v _ => v = (.agg ⟨[(.int .i64 x.1), (.int .i64 x.2.1), (VS 4 (x.2.2.map e_SIII))]⟩) := by
  refine ICalls.frz ?_;refine icalls_fn (pfnw ?_); unfold f309 at H;(conv=>whnf);refine pw_so ?_;refine po_all ?_;(conv=>whnf);refine pw_so ?_;refine po_all ?_;(conv=>whnf);refine app_o (l := ([] : List (ByteArray × Int × Int × Int))) (m := a2) (f := e_SIII) H (by rfl) (by rfl) (by rfl) (fun H => ?_);(conv=>whnf);refine pw_so ?_;refine po_all ?_;(conv=>whnf);refine pw_ret ?_;(conv=>whnf);cases H; show ∃ D, Fz _ D 0 (.agg ⟨[(.int .i64 a0), (.int .i64 a1), (VT 4 _ 2)]⟩) _;exact ⟨fun _ => false, .aggl (.cons .cl (.cons .cl (.cons .vtc (.nil))))⟩

/-- guidevane/guidevaneref08.CopyTask -/
noncomputable def f310  (a0 : Int) (a1 : Int) (a2 : Int) (a3 : List (Int × Int × Int)) : Option (Int × Int × Int × (List (Int × Int × Int))) :=
  ogrd (fits 24 (([] : List (Int × Int × Int)).length + a3.length)) (
  some (a0, a1, a2, (([] : List (Int × Int × Int)) ++ a3))
  )
set_option maxHeartbeats 1000000 in
theorem c310  {a0 : Int} {a1 : Int} {a2 : Int} {a3 : List (Int × Int × Int)} {x : Int × Int × Int × (List (Int × Int × Int))} (H : f310 a0 a1 a2 a3 = some x) : ICalls E 310 [(.agg ⟨[(.int .i64 a0), (.int .i64 a1), (.int .i64 a2), (VS 3 (a3.map e_III))]⟩)] AHeap.none fun v _ => v = (.agg ⟨[(.int .i64 x.1), (.int .i64 x.2.1), (.int .i64 x.2.2.1), (VS 3 (x.2.2.2.map e_III))]⟩) := by
  refine ICalls.frz ?_;refine icalls_fn (pfnw ?_); unfold f310 at H;(conv=>whnf);refine pw_so ?_;refine po_all ?_;(conv=>whnf);refine pw_so ?_;refine po_all ?_;(conv=>whnf);refine app_o (l := ([] : List (Int × Int × Int))) (m := a3) (f := e_III) H (by rfl) (by rfl) (by rfl) (fun H => ?_);(conv=>whnf);refine pw_so ?_;refine po_all ?_;(conv=>whnf);refine pw_ret ?_;(conv=>whnf);cases H; show ∃ D, Fz _ D 0 (.agg ⟨[(.int .i64 a0), (.int .i64 a1), (.int .i64 a2), (VT 3 _ 2)]⟩) _;exact ⟨fun _ => false, .aggl (.cons .cl (.cons .cl (.cons .cl (.cons .vtc (.nil)))))⟩

/-- guidevane/guidevanebase.CopyInts -/
noncomputable def f38  (a0 : List Int) : Option ((List Int)) :=
  ogrd (fits 8 (([] : List Int).length + a0.length)) (
  some (([] : List Int) ++ a0)
  )
set_option maxHeartbeats 1000000 in
theorem c38  {a0 : List Int} {x : (List Int)} (H : f38 a0 = some x) : ICalls E 38 [(VS 1 (a0.map eI))] AHeap.none fun v _ => v = (VS 1 (x.map eI)) := by
  refine ICalls.frz ?_;refine icalls_fn (pfnw ?_); unfold f38 at H;(conv=>whnf);refine pw_so ?_;refine po_all ?_;(conv=>whnf);refine pw_so ?_;refine po_all ?_;(conv=>whnf);refine app_o (l := ([] : List Int)) (m := a0) (f := eI) H (by rfl) (by rfl) (by rfl) (fun H => ?_);(conv=>whnf);refine pw_ret ?_;(conv=>whnf);cases H; show ∃ D, Fz _ D 0 (VT 1 _ 0) _;exact ⟨fun _ => false, .vtc⟩

/-- guidevane/guidevaneref08.CopyReserve -/
noncomputable def f317  (a0 : List Int) (a1 : Int) : Option ((List Int) × Int) :=
  obnd (f38 a0) fun (y1 : (List Int)) =>
  some (y1, a1)
set_option maxHeartbeats 1000000 in
theorem c317  {a0 : List Int} {a1 : Int} {x : (List Int) × Int} (H : f317 a0 a1 = some x) : ICalls E 317 [(.agg ⟨[(VS 1 (a0.map eI)), (.int .i64 a1)]⟩)] AHeap.none fun v _ => v = (.agg ⟨[(VS 1 (x.1.map eI)), (.int .i64 x.2)]⟩) := by
  refine ICalls.frz ?_;refine icalls_fn (pfnw ?_); unfold f317 at H;(conv=>whnf);refine pw_so ?_;refine po_all ?_;(conv=>whnf);refine pw_so ?_;refine po_all ?_;(conv=>whnf);obtain ⟨y1, h2, H⟩ := obnd_some H;refine (c38 h2).go ?_;(conv=>whnf);refine pw_so ?_;refine po_all ?_;(conv=>whnf);refine pw_ret ?_;(conv=>whnf);cases H; show ∃ D, Fz _ D 0 (.agg ⟨[(VS 1 _), (.int .i64 a1)]⟩) _;exact ⟨fun _ => false, .cl⟩

/-- guidevane/dispatch.VolumesOf -/
noncomputable def f322  (a0 : Int) (a1 : Int) (a2 : List (ByteArray × Int × Int × Int)) (a3 : Int) (a4 : Int) (a5 : Int) (a6 : List (Int × Int × Int)) (a7 : List Int) : Option ((List Int) × Int) :=
  obnd (f221 a0 a1 a2 a3 a4 a5 a6 a7) fun (y1 : Int × Int × (List (ByteArray × Int × Int × Int)) × Int × Int × Int × (List (Int × Int × Int)) × (List Int) × Int) =>
  some (y1.2.2.2.2.2.2.2.1, y1.2.2.2.2.2.2.2.2)
set_option maxHeartbeats 1000000 in
theorem c322  {a0 : Int} {a1 : Int} {a2 : List (ByteArray × Int × Int × Int)} {a3 : Int} {a4 : Int} {a5 : Int} {a6 : List (Int × Int × Int)} {a7 : List Int} {x : (List Int) × Int} (H : f322 a0 a1 a2 a3 a4 a5 a6 a7 = some x) : ICalls E 322 [(.agg ⟨[(.int .i64 a0), (.int .i64 a1), (VS 4 (a2.map e_SIII))]⟩), (.agg ⟨[(.int .i64 a3), (.int .i64 a4), (.int .i64 a5), (VS 3 (a6.map e_III))]⟩), (VS 1 (a7.map eI))] AHeap.none fun v _ => v = (.tuple ⟨[(VS 1 (x.1.map eI)), (.int .i64 x.2)]⟩) := by
  refine ICalls.frz ?_;refine icalls_fn (pfnw ?_); unfold f322 at H;(conv=>whnf);refine pw_so ?_;refine po_all ?_;(conv=>whnf);refine pw_so ?_;refine po_all ?_;(conv=>whnf);obtain ⟨y1, h2, H⟩ := obnd_some H;refine (c221 h2).go ?_;(conv=>whnf);refine pw_so ?_;refine po_all ?_;(conv=>whnf);refine pw_ret ?_;(conv=>whnf);cases H; show ∃ D, Fz _ D 0 (.tuple ⟨[(VS 1 _), (.int .i64 y1.2.2.2.2.2.2.2.2)]⟩) _;exact ⟨fun _ => false, .tuplel (.cons .cl (.cons .cl (.nil)))⟩

/-- guidevane/dispatch.BestWith -/
noncomputable def f314  (a0 : Int) (a1 : Int) (a2 : List (ByteArray × Int × Int × Int)) (a3 : Int) (a4 : Int) (a5 : Int) (a6 : List (Int × Int × Int)) (a7 : Int) (a8 : Int) : Option ((List Int) × Int × Int) :=
  obnd (f219 a0 a1 a2 a3 a4 a5 a6) fun (y1 : Int × Int × (List (ByteArray × Int × Int × Int)) × Int × Int × Int × (List (Int × Int × Int)) × Int) =>
  obnd (f222 y1.1 y1.2.1 y1.2.2.1 y1.2.2.2.1 y1.2.2.2.2.1 y1.2.2.2.2.2.1 y1.2.2.2.2.2.2.1 a7) fun (y3 : Bool) =>
  obnd (f214 y3 (6 : Int)) fun (y5 : Int) =>
  obnd (f216 a8 (0 : Int) (10 : Int)) fun (y7 : Bool) =>
  obnd (f214 y7 (2 : Int)) fun (y9 : Int) =>
  obnd (f213 ([y1.2.2.2.2.2.2.2, y5, y9] : List Int)) fun (y11 : Int) =>
  oite ((!(ieq y11 (0 : Int)))) (
   some (([] : List Int), (0 : Int), y11)
    ) (
   obnd (f220 y1.1 y1.2.1 y1.2.2.1 y1.2.2.2.1 y1.2.2.2.2.1 y1.2.2.2.2.2.1 y1.2.2.2.2.2.2.1 a7 a8) fun (y14 : (List Int) × Int × Bool) =>
   obnd (f214 y14.2.2 (12 : Int)) fun (y16 : Int) =>
   some (y14.1, y14.2.1, y16)
    )
set_option maxHeartbeats 1000000 in
theorem c314  {a0 : Int} {a1 : Int} {a2 : List (ByteArray × Int × Int × Int)} {a3 : Int} {a4 : Int} {a5 : Int} {a6 : List (Int × Int × Int)} {a7 : Int} {a8 : Int} {x : (List Int) × Int × Int} (H : f314 a0 a1 a2 a3 a4 a5 a6 a7 a8 = some x) : ICalls E 314 [(.agg ⟨[(.int .i64 a0), (.int .i64 a1), (VS 4 (a2.map e_SIII))]⟩), (.agg ⟨[(.int .i64 a3), (.int .i64 a4), (.int .i64 a5), (VS 3 (a6.map e_III))]⟩), (.agg ⟨[(.int .i64 a7), (.int .i64 a8)]⟩)] AHeap.none fun v _ => v = (.tuple ⟨[(VS 1 (x.1.map eI)), (.int .i64 x.2.1), (.int .i64 x.2.2)]⟩) := by
  refine ICalls.frz ?_;refine icalls_fn (pfnw ?_); unfold f314 at H;(conv=>whnf);refine pw_so ?_;refine po_all ?_;(conv=>whnf);refine pw_so ?_;refine po_all ?_;(conv=>whnf);obtain ⟨y1, h2, H⟩ := obnd_some H;refine (c219 h2).go ?_;(conv=>whnf);refine pw_seq ?_;refine pw_sd ?_;(conv=>whnf);refine ⟨?_, trivial⟩;(conv=>whnf);obtain ⟨y3, h4, H⟩ := obnd_some H;refine (c222 h4).go ?_;(conv=>whnf);refine ⟨by repeat (first | exact trivial | refine And.intro rfl ?_), ?_⟩;(conv=>whnf);refine ⟨?_, trivial⟩;(conv=>whnf);obtain ⟨y5, h6, H⟩ := obnd_some H;refine (c214 h6).go ?_;(conv=>whnf);refine ⟨by repeat (first | exact trivial | refine And.intro rfl ?_), ?_⟩
  (conv=>whnf);refine ⟨?_, trivial⟩;(conv=>whnf);obtain ⟨y7, h8, H⟩ := obnd_some H;refine (c216 h8).go ?_;(conv=>whnf);refine ⟨by repeat (first | exact trivial | refine And.intro rfl ?_), ?_⟩;(conv=>whnf);refine ⟨?_, trivial⟩;(conv=>whnf);obtain ⟨y9, h10, H⟩ := obnd_some H;refine (c214 h10).go ?_;(conv=>whnf);refine ⟨by repeat (first | exact trivial | refine And.intro rfl ?_), ?_⟩;(conv=>whnf);refine ⟨?_, trivial⟩;(conv=>whnf);refine ⟨by repeat (first | exact trivial | refine And.intro rfl ?_), ?_⟩;(conv=>whnf);refine ⟨?_, trivial⟩;(conv=>whnf);obtain ⟨y11, h12, H⟩ := obnd_some H;refine ICalls.goW (c213 h12) (.cons (.vt _ _ _) .nil) ?_
  (conv=>whnf);refine ⟨by repeat (first | exact trivial | refine And.intro rfl ?_), ?_⟩;(conv=>whnf);refine ⟨?_, trivial⟩;(conv=>whnf);refine ⟨by repeat (first | exact trivial | refine And.intro rfl ?_), ?_⟩;(conv=>whnf);refine pw_so ?_;refine po_all ?_;(conv=>whnf);refine pw_cond ?_;(conv=>whnf);refine pbr_oite H (fun g13 H => ?_) (fun g13 H => ?_)
  · (conv=>whnf);refine pw_so ?_;refine po_all ?_;(conv=>whnf);refine pw_ret ?_;(conv=>whnf);cases H; show ∃ D, Fz _ D 0 (.tuple ⟨[(.slice none 0 0), (.int .i64 0), (.int .i64 y11)]⟩) _;exact ⟨fun _ => false, .tuplel (.cons (.nil _) (.cons .cl (.cons .cl (.nil))))⟩
  · (conv=>whnf);refine pw_skip ?_;(conv=>whnf);refine pw_so ?_;refine po_all ?_;(conv=>whnf);obtain ⟨y14, h15, H⟩ := obnd_some H;refine (c220 h15).go ?_;(conv=>whnf);refine pw_so ?_;refine po_all ?_;(conv=>whnf);obtain ⟨y16, h17, H⟩ := obnd_some H;refine (c214 h17).go ?_;(conv=>whnf);refine pw_ret ?_;(conv=>whnf);cases H; show ∃ D, Fz _ D 0 (.tuple ⟨[(VS 1 _), (.int .i64 y14.2.1), (.int .i64 y16)]⟩) _;exact ⟨fun _ => false, .tuplel (.cons .cl (.cons .cl (.cons .cl (.nil))))⟩

/-- guidevane/dispatch.PromisedIn -/
noncomputable def f318 [LO]  (a0 : Int) (a1 : Int) (a2 : List (ByteArray × Int × Int × Int)) (a3 : Int) (a4 : Int) (a5 : Int) (a6 : List (Int × Int × Int)) (a7 : List Int) (a8 : Int) : Option (Int × Int) :=
  obnd (f209 a0 a1 a2 a3 a4 a5 a6 a7 a8) fun (y1 : (List Int) × Int) =>
  oite ((!(ieq y1.2 (0 : Int)))) (
   some ((0 : Int), y1.2)
    ) (
   obnd (
    oloop (τ := Int × Int) (ρ := Int) (fun e8 =>
     oite ((ilt e8.2 ((y1.1.map eI).length : Int))) (
      ogrd ((ile 0 e8.2)) (
      obnd (y1.1[e8.2.toNat]?) fun (x13 : Int) =>
      oite ((ilt x13 (IntKind.i64.wrap (((y1.1.map eI).length : Int) - e8.2)))) (
       some (.inl (((imin e8.1 x13), (IntKind.i64.wrap (e8.2 + (1 : Int))))))
        ) (
       some (.inl (e8.1, (IntKind.i64.wrap (e8.2 + (1 : Int)))))
        )
      )
       ) (
      some (.inr (e8.1))
       )
      ) (((10 : Int), (0 : Int)))
     ) fun (r4 : Int) =>
   some (r4, (0 : Int))
    )
set_option maxHeartbeats 1000000 in
theorem c318 [LO]  {a0 : Int} {a1 : Int} {a2 : List (ByteArray × Int × Int × Int)} {a3 : Int} {a4 : Int} {a5 : Int} {a6 : List (Int × Int × Int)} {a7 : List Int} {a8 : Int} {x : Int × Int} (H : f318 a0 a1 a2 a3 a4 a5 a6 a7 a8 = some x) : ICalls E 318 [(.agg ⟨[(.int .i64 a0), (.int .i64 a1), (VS 4 (a2.map e_SIII))]⟩), (.agg ⟨[(.int .i64 a3), (.int .i64 a4), (.int .i64 a5), (VS 3 (a6.map e_III))]⟩), (.agg ⟨[(VS 1 (a7.map eI)), (.int .i64 a8)]⟩)] AHeap.none fun v _ => v = (.tuple ⟨[(.int .i64 x.1), (.int .i64 x.2)]⟩) := by
  refine icalls_fn (pfnw ?_); unfold f318 at H;(conv=>whnf);refine pw_so ?_;refine po_all ?_;(conv=>whnf);refine pw_so ?_;refine po_all ?_;(conv=>whnf);obtain ⟨y1, h2, H⟩ := obnd_some H;refine (c209 h2).go ?_;(conv=>whnf);refine pw_seq ?_;refine pw_so ?_;refine po_all ?_;(conv=>whnf);refine pw_cond ?_;(conv=>whnf);refine pbr_oite H (fun g3 H => ?_) (fun g3 H => ?_)
  · (conv=>whnf);refine pw_so ?_;refine po_all ?_;(conv=>whnf);refine pw_ret ?_;(conv=>whnf);cases H; rfl
  · (conv=>whnf);refine pw_skip ?_;(conv=>whnf);refine pw_so ?_;refine po_all ?_;(conv=>whnf);obtain ⟨r4, h5, H⟩ := obnd_some H;refine pw_join (ρ := Int) (fun e => ⟨[(10, (.int .i64 e))], ⟨3, [(2, .rw [(VS 1 (a7.map eI)), (.int .i64 a8)]), (1, .rw [(.int .i64 a3), (.int .i64 a4), (.int .i64 a5), (VS 3 (a6.map e_III))]), (0, .rw [(.int .i64 a0), (.int .i64 a1), (VS 4 (a2.map e_SIII))])], false⟩⟩) r4 ?_ ?_
    · refine pw_so ?_;refine po_all ?_;(conv=>whnf);refine pw_block ?_;refine pw_loop (τ := Int × Int) (fun e => ⟨[(8, (VS 1 (y1.1.map eI))), (10, (.int .i64 e.1)), (23, (VS 1 (y1.1.map eI))), (24, (.int .i64 ((y1.1.map eI).length : Int))), (25, (.int .i64 e.2))], ⟨3, [(2, .rw [(VS 1 (a7.map eI)), (.int .i64 a8)]), (1, .rw [(.int .i64 a3), (.int .i64 a4), (.int .i64 a5), (VS 3 (a6.map e_III))]), (0, .rw [(.int .i64 a0), (.int .i64 a1), (VS 4 (a2.map e_SIII))])], false⟩⟩) h5 ?_ (fun _ => Nat.le_of_ble_eq_true rfl) ?_
      · exact .sub' (Nat.le_of_ble_eq_true rfl) (.cons rfl (.cons rfl (.cons rfl (.cons rfl (.cons rfl .nil)))))
      · intro e8 x9 h10;refine pw_so ?_;refine po_all ?_;(conv=>whnf);refine pw_seq ?_;refine pw_cond ?_;(conv=>whnf);refine pbr_oite h10 (fun g11 h10 => ?_) (fun g11 h10 => ?_)
        · (conv=>whnf);refine pw_skip ?_;(conv=>whnf);refine pw_seq ?_;refine pw_block ?_;refine pw_so ?_;refine po_all ?_;(conv=>whnf);refine pbr_ogrd h10 (fun g12 h10 => ?_);(conv=>whnf);refine nth_o (l := y1.1) h10 (fun x13 _ h10 => ?_);(conv=>whnf);refine pw_so ?_;refine po_all ?_;(conv=>whnf);refine pw_cond ?_;(conv=>whnf);refine pbr_oite h10 (fun g14 h10 => ?_) (fun g14 h10 => ?_)
          · (conv=>whnf);refine pw_ops ?_;refine po_all ?_;(conv=>whnf);refine pw_ops ?_;refine po_all ?_;(conv=>whnf);cases h10;refine ⟨_, rfl, ?_⟩;exact .sub' (Nat.le_of_ble_eq_true rfl) (.cons rfl (.cons rfl (.cons rfl (.cons rfl (.cons rfl .nil)))))
          · (conv=>whnf);refine pw_skip ?_;(conv=>whnf);refine pw_ops ?_;refine po_all ?_;(conv=>whnf);cases h10;refine ⟨_, rfl, ?_⟩;exact .sub' (Nat.le_of_ble_eq_true rfl) (.cons rfl (.cons rfl (.cons rfl (.cons rfl (.cons rfl .nil)))))
        · (conv=>whnf);refine pw_exit ?_;(conv=>whnf);cases h10;refine ⟨_, rfl, ?_⟩; rintro rfl;(conv=>whnf);exact ⟨(.cons rfl .nil), rfl⟩
    · refine pw_so ?_;refine po_all ?_;(conv=>whnf);refine pw_ret ?_;(conv=>whnf);cases H; rfl

/-- guidevane/guidevanelaw08.DispatchGiven -/
noncomputable def l301_1 [LO] (y33 : (List Int) × Int) (e59 : Int) (e88 : Int) (a8 : Int) (e105 : (List Int) × Int) : Option (((List Int) × Int) ⊕ ((List Int))) :=
  obnd (y33.1[e59.toNat]?) fun (x108 : Int) =>
  oite ((ilt e105.2 (IntKind.i64.wrap (x108 + e88)))) (
   ogrd (fits 8 (e105.1.length + ([a8] : List Int).length)) (
   some (.inl (((e105.1 ++ ([a8] : List Int)), (IntKind.i64.wrap (e105.2 + (1 : Int))))))
   )
    ) (
   some (.inr (e105.1))
    )
noncomputable def l301_2 [LO] (y33 : (List Int) × Int) (e59 : Int) (e88 : Int) (a8 : Int) (e133 : (List Int) × Int) : Option (((List Int) × Int) ⊕ ((List Int))) :=
  obnd (y33.1[e59.toNat]?) fun (x136 : Int) =>
  oite ((ilt e133.2 (IntKind.i64.wrap (x136 + e88)))) (
   ogrd (fits 8 (e133.1.length + ([a8] : List Int).length)) (
   some (.inl (((e133.1 ++ ([a8] : List Int)), (IntKind.i64.wrap (e133.2 + (1 : Int))))))
   )
    ) (
   some (.inr (e133.1))
    )
noncomputable def l301_3 [LO] (y33 : (List Int) × Int) (e59 : Int) (e88 : Int) (a8 : Int) (e161 : (List Int) × Int) : Option (((List Int) × Int) ⊕ ((List Int))) :=
  obnd (y33.1[e59.toNat]?) fun (x164 : Int) =>
  oite ((ilt e161.2 (IntKind.i64.wrap (x164 + e88)))) (
   ogrd (fits 8 (e161.1.length + ([a8] : List Int).length)) (
   some (.inl (((e161.1 ++ ([a8] : List Int)), (IntKind.i64.wrap (e161.2 + (1 : Int))))))
   )
    ) (
   some (.inr (e161.1))
    )
noncomputable def l301_4 [LO] (e59 : Int) (y33 : (List Int) × Int) (a6 : List (Int × Int × Int)) (y41 : (List Int) × Int) (a8 : Int) (a0 : Int) (a1 : Int) (a2 : List (ByteArray × Int × Int × Int)) (a4 : Int) (e88 : Int) : Option ((Int) ⊕ ((Unit) ⊕ ((Int) ⊕ ((Unit) ⊕ Bool)))) :=
  oite ((ilt e88 (2 : Int))) (
   ogrd ((ile 0 e59)) (
   obnd (y33.1[e59.toNat]?) fun (x93 : Int) =>
   oite ((ile (IntKind.i64.wrap ((IntKind.i64.wrap (e59 + x93)) + e88)) ((a6.map e_III).length : Int))) (
    obnd (y41.1[e59.toNat]?) fun (x96 : Int) =>
    obnd (y33.1[e59.toNat]?) fun (x97 : Int) =>
    obnd (osl a6 e59 (IntKind.i64.wrap ((IntKind.i64.wrap (e59 + x97)) + e88))) fun (m98 : List (Int × Int × Int)) =>
    ogrd (fits 24 (([] : List (Int × Int × Int)).length + m98.length)) (
    obnd (
     oloop (τ := (List Int) × Int) (ρ := (List Int)) (l301_1 y33 e59 e88 a8) ((([] : List Int), (0 : Int)))
      ) fun (r101 : (List Int)) =>
    obnd (f309 a0 a1 a2) fun (y111 : Int × Int × (List (ByteArray × Int × Int × Int))) =>
    obnd (f322 y111.1 y111.2.1 y111.2.2 x96 a4 (0 : Int) (([] : List (Int × Int × Int)) ++ m98) r101) fun (y113 : (List Int) × Int) =>
    obnd (
     obnd (
      oite ((ieq e88 (0 : Int))) (
       some (!(ieq y113.2 (0 : Int)))
        ) (
       some false
        )
       ) fun (r119 : Bool) =>
     oite r119 (
      some true
       ) (
      obnd (
       oite ((ieq e88 (1 : Int))) (
        some (!(ieq y113.2 (22 : Int)))
         ) (
        some false
         )
        ) fun (r123 : Bool) =>
      some r123
       )
      ) fun (r115 : Bool) =>
    oite r115 (
     some (.inr (.inr (.inr (.inr (false)))))
      ) (
     some (.inl (IntKind.i64.wrap (e88 + (1 : Int))))
      )
    )
     ) (
    some (.inr (.inl ()))
     )
   )
    ) (
   some (.inr (.inl ()))
    )
noncomputable def l301_5 [LO] (y33 : (List Int) × Int) (a6 : List (Int × Int × Int)) (y41 : (List Int) × Int) (a0 : Int) (a1 : Int) (a8 : Int) (a2 : List (ByteArray × Int × Int × Int)) (a4 : Int) (e59 : Int) : Option ((Int) ⊕ ((Unit) ⊕ Bool)) :=
  oite ((ilt e59 ((y33.1.map eI).length : Int))) (
   obndS (
    obnd (
     ogrd ((ile 0 e59)) (
     obnd (y33.1[e59.toNat]?) fun (x72 : Int) =>
     obnd (f15 x72 (0 : Int) (IntKind.i64.wrap (((a6.map e_III).length : Int) - e59))) fun (y73 : Bool) =>
     oite (!y73) (
      some true
       ) (
      obnd (y41.1[e59.toNat]?) fun (x76 : Int) =>
      obnd (f15 x76 a0 a1) fun (y77 : Bool) =>
      some (!y77)
       )
     )
      ) fun (r67 : Bool) =>
    oite r67 (
     some (.inr (.inr (.inr (false))))
      ) (
     obnd (
      ogrd ((ile 0 e59)) (
      obnd (y33.1[e59.toNat]?) fun (x86 : Int) =>
      oite ((ieq x86 (0 : Int))) (
       some (1 : Int)
        ) (
       some (0 : Int)
        )
      )
       ) fun (r81 : Int) =>
     oloop (τ := Int) (ρ := (Unit) ⊕ ((Int) ⊕ ((Unit) ⊕ Bool))) (l301_4 e59 y33 a6 y41 a8 a0 a1 a2 a4) r81
      )
     ) fun (_ : Unit) =>
   some (.inl (IntKind.i64.wrap (e59 + (1 : Int))))
    ) (
   some (.inr (.inl ()))
    )
noncomputable def f301 [LO]  (a0 : Int) (a1 : Int) (a2 : List (ByteArray × Int × Int × Int)) (a3 : Int) (a4 : Int) (a5 : Int) (a6 : List (Int × Int × Int)) (a7 : List Int) (a8 : Int) : Option Bool :=
  obnd (f198) fun (y1 : Bool) =>
  oite (!y1) (
   some false
    ) (
   obnd (
    obnd (f307 a0 a1 a2) fun (y8 : Bool) =>
    obnd (
     oite (!y8) (
      some true
       ) (
      obnd (f308 a3 a4 a5 a6) fun (y13 : Bool) =>
      some (!y13)
       )
      ) fun (r10 : Bool) =>
    obnd (
     oite r10 (
      some true
       ) (
      some (ilt (12 : Int) ((a7.map eI).length : Int))
       )
      ) fun (r15 : Bool) =>
    obnd (
     oite r15 (
      some true
       ) (
      obnd (f311 a0 a1 a2 a3 a4 a5 a6) fun (y21 : Int) =>
      some (!(ieq y21 (0 : Int)))
       )
      ) fun (r18 : Bool) =>
    oite r18 (
     some true
      ) (
     obnd (f319 a0 a1 a2 a3 a4 a5 a6 a7 a8) fun (y24 : Int) =>
     some (!(ieq y24 (0 : Int)))
      )
     ) fun (r4 : Bool) =>
   oite r4 (
    some true
     ) (
    obnd (f309 a0 a1 a2) fun (y27 : Int × Int × (List (ByteArray × Int × Int × Int))) =>
    obnd (f310 a3 a4 a5 a6) fun (y29 : Int × Int × Int × (List (Int × Int × Int))) =>
    obnd (f317 a7 a8) fun (y31 : (List Int) × Int) =>
    obnd (f209 y27.1 y27.2.1 y27.2.2 y29.1 y29.2.1 y29.2.2.1 y29.2.2.2 y31.1 y31.2) fun (y33 : (List Int) × Int) =>
    obnd (f309 a0 a1 a2) fun (y35 : Int × Int × (List (ByteArray × Int × Int × Int))) =>
    obnd (f310 a3 a4 a5 a6) fun (y37 : Int × Int × Int × (List (Int × Int × Int))) =>
    obnd (f38 a7) fun (y39 : (List Int)) =>
    obnd (f322 y35.1 y35.2.1 y35.2.2 y37.1 y37.2.1 y37.2.2.1 y37.2.2.2 y39) fun (y41 : (List Int) × Int) =>
    obnd (
     obnd (
      oite ((!(ieq y33.2 (0 : Int)))) (
       some true
        ) (
       some (!(ieq y41.2 (0 : Int)))
        )
       ) fun (r47 : Bool) =>
     obnd (
      oite r47 (
       some true
        ) (
       some (!(ieq ((y33.1.map eI).length : Int) ((a6.map e_III).length : Int)))
        )
       ) fun (r50 : Bool) =>
     oite r50 (
      some true
       ) (
      some (!(ieq ((y41.1.map eI).length : Int) (IntKind.i64.wrap (((a6.map e_III).length : Int) + (1 : Int)))))
       )
      ) fun (r43 : Bool) =>
    oite r43 (
     some false
      ) (
     obndS (
      oloop (τ := Int) (ρ := (Unit) ⊕ Bool) (l301_5 y33 a6 y41 a0 a1 a8 a2 a4) (0 : Int)
       ) fun (_ : Unit) =>
     obndS (
      obnd (f309 a0 a1 a2) fun (y194 : Int × Int × (List (ByteArray × Int × Int × Int))) =>
      obnd (f310 a3 a4 a5 a6) fun (y196 : Int × Int × Int × (List (Int × Int × Int))) =>
      obnd (f314 y194.1 y194.2.1 y194.2.2 y196.1 y196.2.1 y196.2.2.1 y196.2.2.2 a8 (0 : Int)) fun (y198 : (List Int) × Int × Int) =>
      obnd (f309 a0 a1 a2) fun (y200 : Int × Int × (List (ByteArray × Int × Int × Int))) =>
      obnd (f310 a3 a4 a5 a6) fun (y202 : Int × Int × Int × (List (Int × Int × Int))) =>
      obnd (f206 y200.1 y200.2.1 y200.2.2 y202.1 y202.2.1 y202.2.2.1 y202.2.2.2) fun (y204 : (List Int) × Int × Int) =>
      obnd (
       obnd (
        oite ((!(ieq y198.2.2 (0 : Int)))) (
         some true
          ) (
         some (!(ieq y204.2.2 (0 : Int)))
          )
         ) fun (r210 : Bool) =>
       obnd (
        oite r210 (
         some true
          ) (
         some (!(ieq y204.2.1 y198.2.1))
          )
         ) fun (r213 : Bool) =>
       oite r213 (
        some true
         ) (
        obnd (f26 y198.1 y204.1) fun (y217 : Bool) =>
        some (!y217)
         )
        ) fun (r206 : Bool) =>
      oite r206 (
       some (.inr (false))
        ) (
       obnd (f309 a0 a1 a2) fun (y220 : Int × Int × (List (ByteArray × Int × Int × Int))) =>
       obnd (f310 a3 a4 a5 a6) fun (y222 : Int × Int × Int × (List (Int × Int × Int))) =>
       obnd (f314 y220.1 y220.2.1 y220.2.2 y222.1 y222.2.1 y222.2.2.1 y222.2.2.2 a8 (1 : Int)) fun (y224 : (List Int) × Int × Int) =>
       oite ((!(ieq y224.2.2 (0 : Int)))) (
        some (.inr ((ieq y224.2.2 (12 : Int))))
         ) (
        obnd (f309 a0 a1 a2) fun (y227 : Int × Int × (List (ByteArray × Int × Int × Int))) =>
        obnd (f310 a3 a4 a5 a6) fun (y229 : Int × Int × Int × (List (Int × Int × Int))) =>
        obnd (f38 y224.1) fun (y231 : (List Int)) =>
        obnd (f318 y227.1 y227.2.1 y227.2.2 y229.1 y229.2.1 y229.2.2.1 y229.2.2.2 y231 a8) fun (y233 : Int × Int) =>
        obnd (
         obnd (
          oite ((ilt y198.2.1 y224.2.1)) (
           some true
            ) (
           some (!(ieq y233.2 (0 : Int)))
            )
           ) fun (r239 : Bool) =>
         oite r239 (
          some true
           ) (
          some (ilt y233.1 (1 : Int))
           )
          ) fun (r235 : Bool) =>
        oite r235 (
         some (.inr (false))
          ) (
         obnd (f309 a0 a1 a2) fun (y244 : Int × Int × (List (ByteArray × Int × Int × Int))) =>
         obnd (f310 a3 a4 a5 a6) fun (y246 : Int × Int × Int × (List (Int × Int × Int))) =>
         obnd (f314 y244.1 y244.2.1 y244.2.2 y246.1 y246.2.1 y246.2.2.1 y246.2.2.2 a8 (3 : Int)) fun (y248 : (List Int) × Int × Int) =>
         oite ((!(ieq y248.2.2 (0 : Int)))) (
          some (.inr ((ieq y248.2.2 (12 : Int))))
           ) (
          obnd (f309 a0 a1 a2) fun (y251 : Int × Int × (List (ByteArray × Int × Int × Int))) =>
          obnd (f310 a3 a4 a5 a6) fun (y253 : Int × Int × Int × (List (Int × Int × Int))) =>
          obnd (f38 y248.1) fun (y255 : (List Int)) =>
          obnd (f318 y251.1 y251.2.1 y251.2.2 y253.1 y253.2.1 y253.2.2.1 y253.2.2.2 y255 a8) fun (y257 : Int × Int) =>
          obnd (
           obnd (
            oite ((ilt y224.2.1 y248.2.1)) (
             some true
              ) (
             some (!(ieq y257.2 (0 : Int)))
              )
             ) fun (r263 : Bool) =>
           oite r263 (
            some true
             ) (
            some (ilt y257.1 (3 : Int))
             )
            ) fun (r259 : Bool) =>
          oite r259 (
           some (.inr (false))
            ) (
           obnd (f309 a0 a1 a2) fun (y268 : Int × Int × (List (ByteArray × Int × Int × Int))) =>
           obnd (f310 a3 a4 a5 a6) fun (y270 : Int × Int × Int × (List (Int × Int × Int))) =>
           obnd (f314 y268.1 y268.2.1 y268.2.2 y270.1 y270.2.1 y270.2.2.1 y270.2.2.2 a8 (7 : Int)) fun (y272 : (List Int) × Int × Int) =>
           oite ((!(ieq y272.2.2 (0 : Int)))) (
            some (.inr ((ieq y272.2.2 (12 : Int))))
             ) (
            obnd (f309 a0 a1 a2) fun (y275 : Int × Int × (List (ByteArray × Int × Int × Int))) =>
            obnd (f310 a3 a4 a5 a6) fun (y277 : Int × Int × Int × (List (Int × Int × Int))) =>
            obnd (f38 y272.1) fun (y279 : (List Int)) =>
            obnd (f318 y275.1 y275.2.1 y275.2.2 y277.1 y277.2.1 y277.2.2.1 y277.2.2.2 y279 a8) fun (y281 : Int × Int) =>
            obnd (
             obnd (
              oite ((ilt y248.2.1 y272.2.1)) (
               some true
                ) (
               some (!(ieq y281.2 (0 : Int)))
                )
               ) fun (r287 : Bool) =>
             oite r287 (
              some true
               ) (
              some (ilt y281.1 (7 : Int))
               )
              ) fun (r283 : Bool) =>
            oite r283 (
             some (.inr (false))
              ) (
             some (.inl ())
              )
             )
            )
           )
          )
         )
        )
       ) fun (_ : Unit) =>
     some true
      )
     )
    )
set_option maxHeartbeats 1000000 in
theorem c301 [LO]  {a0 : Int} {a1 : Int} {a2 : List (ByteArray × Int × Int × Int)} {a3 : Int} {a4 : Int} {a5 : Int} {a6 : List (Int × Int × Int)} {a7 : List Int} {a8 : Int} {x : Bool} (H : f301 a0 a1 a2 a3 a4 a5 a6 a7 a8 = some x) : ICalls E 301 [(.agg ⟨[(.int .i64 a0), (.int .i64 a1), (VS 4 (a2.map e_SIII))]⟩), (.agg ⟨[(.int .i64 a3), (.int .i64 a4), (.int .i64 a5), (VS 3 (a6.map e_III))]⟩), (.agg ⟨[(VS 1 (a7.map eI)), (.int .i64 a8)]⟩)] AHeap.none fun v _ => v = (.bool x) := by
  refine icalls_fn (pfnw ?_); unfold f301 at H;(conv=>whnf);refine pw_so ?_;refine po_all ?_;(conv=>whnf);refine pw_seq ?_;refine pw_so ?_;refine po_all ?_;(conv=>whnf);obtain ⟨y1, h2, H⟩ := obnd_some H;refine (c198 h2).go ?_;(conv=>whnf);refine pw_cond ?_;(conv=>whnf);refine pbr_oite H (fun g3 H => ?_) (fun g3 H => ?_)
  · (conv=>whnf);refine pw_so ?_;refine po_all ?_;(conv=>whnf);refine pw_ret ?_;(conv=>whnf);cases H; rfl
  · (conv=>whnf);refine pw_skip ?_;(conv=>whnf);refine pw_seq ?_;obtain ⟨r4, h5, H⟩ := obnd_some H;refine pw_join (ρ := Bool) (fun e => ⟨[(3, (.pointer (some ⟨0, 0, none⟩))), (4, (.pointer (some ⟨1, 0, none⟩))), (5, (.pointer (some ⟨2, 0, none⟩))), (56, (.bool e))], ⟨3, [(2, .rw [(VS 1 (a7.map eI)), (.int .i64 a8)]), (1, .rw [(.int .i64 a3), (.int .i64 a4), (.int .i64 a5), (VS 3 (a6.map e_III))]), (0, .rw [(.int .i64 a0), (.int .i64 a1), (VS 4 (a2.map e_SIII))])], false⟩⟩) r4 ?_ ?_
    · refine pw_ops ?_;refine po_ops 4 ?_;(conv=>whnf);obtain ⟨y8, h9, h5⟩ := obnd_some h5;refine (c307 h9).go ?_;(conv=>whnf);obtain ⟨r10, h11, h5⟩ := obnd_some h5;refine po_seg (τ := Bool) 4 (fun e => ⟨[(3, (.pointer (some ⟨0, 0, none⟩))), (4, (.pointer (some ⟨1, 0, none⟩))), (5, (.pointer (some ⟨2, 0, none⟩))), (37, (.bool e))], ⟨3, [(2, .rw [(VS 1 (a7.map eI)), (.int .i64 a8)]), (1, .rw [(.int .i64 a3), (.int .i64 a4), (.int .i64 a5), (VS 3 (a6.map e_III))]), (0, .rw [(.int .i64 a0), (.int .i64 a1), (VS 4 (a2.map e_SIII))])], false⟩⟩) r10 ?_ ?_
      · refine po_all ?_;(conv=>whnf);refine pbr_oite h11 (fun g12 h11 => ?_) (fun g12 h11 => ?_)
        · (conv=>whnf);refine pbr_t g12 ?_;(conv=>whnf);refine pbr_t g12 ?_;(conv=>whnf);refine pbr_t g12 ?_;(conv=>whnf);cases h11;exact ⟨(.cons rfl (.cons rfl (.cons rfl (.cons rfl .nil)))), rfl⟩
        · (conv=>whnf);refine pbr_f g12 ?_;(conv=>whnf);obtain ⟨y13, h14, h11⟩ := obnd_some h11;refine (c308 h14).go ?_;(conv=>whnf);refine pbr_f g12 ?_;(conv=>whnf);refine pbr_f g12 ?_;(conv=>whnf);cases h11;exact ⟨(.cons rfl (.cons rfl (.cons rfl (.cons rfl .nil)))), rfl⟩
      · refine po_ops 1 ?_;(conv=>whnf);obtain ⟨r15, h16, h5⟩ := obnd_some h5;refine po_seg (τ := Bool) 5 (fun e => ⟨[(3, (.pointer (some ⟨0, 0, none⟩))), (4, (.pointer (some ⟨1, 0, none⟩))), (5, (.pointer (some ⟨2, 0, none⟩))), (43, (.bool e))], ⟨3, [(2, .rw [(VS 1 (a7.map eI)), (.int .i64 a8)]), (1, .rw [(.int .i64 a3), (.int .i64 a4), (.int .i64 a5), (VS 3 (a6.map e_III))]), (0, .rw [(.int .i64 a0), (.int .i64 a1), (VS 4 (a2.map e_SIII))])], false⟩⟩) r15 ?_ ?_
        · refine po_all ?_;(conv=>whnf);refine pbr_oite h16 (fun g17 h16 => ?_) (fun g17 h16 => ?_)
          · (conv=>whnf);refine pbr_t g17 ?_;(conv=>whnf);refine pbr_t g17 ?_;(conv=>whnf);refine pbr_t g17 ?_;(conv=>whnf);refine pbr_t g17 ?_;(conv=>whnf);cases h16;exact ⟨(.cons rfl (.cons rfl (.cons rfl (.cons rfl .nil)))), rfl⟩
          · (conv=>whnf);refine pbr_f g17 ?_;(conv=>whnf);refine pbr_f g17 ?_;(conv=>whnf);refine pbr_f g17 ?_;(conv=>whnf);refine pbr_f g17 ?_;(conv=>whnf);cases h16;exact ⟨(.cons rfl (.cons rfl (.cons rfl (.cons rfl .nil)))), rfl⟩
        · refine po_ops 1 ?_;(conv=>whnf);obtain ⟨r18, h19, h5⟩ := obnd_some h5;refine po_seg (τ := Bool) 5 (fun e => ⟨[(3, (.pointer (some ⟨0, 0, none⟩))), (4, (.pointer (some ⟨1, 0, none⟩))), (5, (.pointer (some ⟨2, 0, none⟩))), (49, (.bool e))], ⟨3, [(2, .rw [(VS 1 (a7.map eI)), (.int .i64 a8)]), (1, .rw [(.int .i64 a3), (.int .i64 a4), (.int .i64 a5), (VS 3 (a6.map e_III))]), (0, .rw [(.int .i64 a0), (.int .i64 a1), (VS 4 (a2.map e_SIII))])], false⟩⟩) r18 ?_ ?_
          · refine po_all ?_;(conv=>whnf);refine pbr_oite h19 (fun g20 h19 => ?_) (fun g20 h19 => ?_)
            · (conv=>whnf);refine pbr_t g20 ?_;(conv=>whnf);refine pbr_t g20 ?_;(conv=>whnf);refine pbr_t g20 ?_;(conv=>whnf);refine pbr_t g20 ?_;(conv=>whnf);cases h19;exact ⟨(.cons rfl (.cons rfl (.cons rfl (.cons rfl .nil)))), rfl⟩
            · (conv=>whnf);refine pbr_f g20 ?_;(conv=>whnf);refine pbr_f g20 ?_;(conv=>whnf);obtain ⟨y21, h22, h19⟩ := obnd_some h19;refine (c311 h22).go ?_;(conv=>whnf);refine pbr_f g20 ?_;(conv=>whnf);refine pbr_f g20 ?_;(conv=>whnf);cases h19;exact ⟨(.cons rfl (.cons rfl (.cons rfl (.cons rfl .nil)))), rfl⟩
          · refine po_all ?_;(conv=>whnf);refine pbr_oite h5 (fun g23 h5 => ?_) (fun g23 h5 => ?_)
            · (conv=>whnf);refine pbr_t g23 ?_;(conv=>whnf);refine pbr_t g23 ?_;(conv=>whnf);refine pbr_t g23 ?_;(conv=>whnf);refine pbr_t g23 ?_;(conv=>whnf);refine pbr_t g23 ?_;(conv=>whnf);cases h5;exact ⟨(.cons rfl (.cons rfl (.cons rfl (.cons rfl .nil)))), rfl⟩
            · (conv=>whnf);refine pbr_f g23 ?_;(conv=>whnf);refine pbr_f g23 ?_;(conv=>whnf);refine pbr_f g23 ?_;(conv=>whnf);obtain ⟨y24, h25, h5⟩ := obnd_some h5;refine (c319 h25).go ?_;(conv=>whnf);refine pbr_f g23 ?_;(conv=>whnf);refine pbr_f g23 ?_;(conv=>whnf);cases h5;exact ⟨(.cons rfl (.cons rfl (.cons rfl (.cons rfl .nil)))), rfl⟩
    · refine pw_cond ?_;(conv=>whnf);refine pbr_oite H (fun g26 H => ?_) (fun g26 H => ?_)
      · (conv=>whnf);refine pw_so ?_;refine po_all ?_;(conv=>whnf);refine pw_ret ?_;(conv=>whnf);cases H; rfl
      · (conv=>whnf);refine pw_skip ?_;(conv=>whnf);refine pw_sd ?_;(conv=>whnf);refine ⟨?_, trivial⟩;(conv=>whnf);obtain ⟨y27, h28, H⟩ := obnd_some H;refine (c309 h28).go ?_;(conv=>whnf);refine ⟨by repeat (first | exact trivial | refine And.intro rfl ?_), ?_⟩;(conv=>whnf);refine ⟨?_, trivial⟩;(conv=>whnf);obtain ⟨y29, h30, H⟩ := obnd_some H;refine (c310 h30).go ?_;(conv=>whnf);refine ⟨by repeat (first | exact trivial | refine And.intro rfl ?_), ?_⟩;(conv=>whnf);refine ⟨?_, trivial⟩;(conv=>whnf);obtain ⟨y31, h32, H⟩ := obnd_some H;refine (c317 h32).go ?_;(conv=>whnf);refine ⟨by repeat (first | exact trivial | refine And.intro rfl ?_), ?_⟩
        (conv=>whnf);refine ⟨?_, trivial⟩;(conv=>whnf);obtain ⟨y33, h34, H⟩ := obnd_some H;refine (c209 h34).go ?_;(conv=>whnf);refine ⟨by repeat (first | exact trivial | refine And.intro rfl ?_), ?_⟩;(conv=>whnf);refine pw_sd ?_;(conv=>whnf);refine ⟨?_, trivial⟩;(conv=>whnf);obtain ⟨y35, h36, H⟩ := obnd_some H;refine (c309 h36).go ?_;(conv=>whnf);refine ⟨by repeat (first | exact trivial | refine And.intro rfl ?_), ?_⟩;(conv=>whnf);refine ⟨?_, trivial⟩;(conv=>whnf);obtain ⟨y37, h38, H⟩ := obnd_some H;refine (c310 h38).go ?_;(conv=>whnf);refine ⟨by repeat (first | exact trivial | refine And.intro rfl ?_), ?_⟩
        (conv=>whnf);refine ⟨?_, trivial⟩;(conv=>whnf);obtain ⟨y39, h40, H⟩ := obnd_some H;refine (c38 h40).go ?_;(conv=>whnf);refine ⟨by repeat (first | exact trivial | refine And.intro rfl ?_), ?_⟩;(conv=>whnf);refine ⟨?_, trivial⟩;(conv=>whnf);obtain ⟨y41, h42, H⟩ := obnd_some H;refine (c322 h42).go ?_;(conv=>whnf);refine ⟨by repeat (first | exact trivial | refine And.intro rfl ?_), ?_⟩;(conv=>whnf);refine pw_seq ?_;obtain ⟨r43, h44, H⟩ := obnd_some H;refine pw_join (ρ := Bool) (fun e => ⟨[(3, (.pointer (some ⟨0, 0, none⟩))), (4, (.pointer (some ⟨1, 0, none⟩))), (5, (.pointer (some ⟨2, 0, none⟩))), (7, (VS 1 (y33.1.map eI))), (9, (VS 1 (y41.1.map eI))), (100, (.bool e))], ⟨3, [(2, .rw [(VS 1 (a7.map eI)), (.int .i64 a8)]), (1, .rw [(.int .i64 a3), (.int .i64 a4), (.int .i64 a5), (VS 3 (a6.map e_III))]), (0, .rw [(.int .i64 a0), (.int .i64 a1), (VS 4 (a2.map e_SIII))])], false⟩⟩) r43 ?_ ?_
        · refine pw_ops ?_;refine po_ops 3 ?_;(conv=>whnf);obtain ⟨r47, h48, h44⟩ := obnd_some h44;refine po_seg (τ := Bool) 3 (fun e => ⟨[(3, (.pointer (some ⟨0, 0, none⟩))), (4, (.pointer (some ⟨1, 0, none⟩))), (5, (.pointer (some ⟨2, 0, none⟩))), (7, (VS 1 (y33.1.map eI))), (9, (VS 1 (y41.1.map eI))), (83, (.bool e))], ⟨3, [(2, .rw [(VS 1 (a7.map eI)), (.int .i64 a8)]), (1, .rw [(.int .i64 a3), (.int .i64 a4), (.int .i64 a5), (VS 3 (a6.map e_III))]), (0, .rw [(.int .i64 a0), (.int .i64 a1), (VS 4 (a2.map e_SIII))])], false⟩⟩) r47 ?_ ?_
          · refine po_all ?_;(conv=>whnf);refine pbr_oite h48 (fun g49 h48 => ?_) (fun g49 h48 => ?_)
            · (conv=>whnf);refine pbr_t g49 ?_;(conv=>whnf);refine pbr_t g49 ?_;(conv=>whnf);cases h48;exact ⟨(.cons rfl (.cons rfl (.cons rfl (.cons rfl (.cons rfl (.cons rfl .nil)))))), rfl⟩
            · (conv=>whnf);refine pbr_f g49 ?_;(conv=>whnf);refine pbr_f g49 ?_;(conv=>whnf);cases h48;exact ⟨(.cons rfl (.cons rfl (.cons rfl (.cons rfl (.cons rfl (.cons rfl .nil)))))), rfl⟩
          · refine po_ops 1 ?_;(conv=>whnf);obtain ⟨r50, h51, h44⟩ := obnd_some h44;refine po_seg (τ := Bool) 7 (fun e => ⟨[(3, (.pointer (some ⟨0, 0, none⟩))), (4, (.pointer (some ⟨1, 0, none⟩))), (5, (.pointer (some ⟨2, 0, none⟩))), (7, (VS 1 (y33.1.map eI))), (9, (VS 1 (y41.1.map eI))), (91, (.bool e))], ⟨3, [(2, .rw [(VS 1 (a7.map eI)), (.int .i64 a8)]), (1, .rw [(.int .i64 a3), (.int .i64 a4), (.int .i64 a5), (VS 3 (a6.map e_III))]), (0, .rw [(.int .i64 a0), (.int .i64 a1), (VS 4 (a2.map e_SIII))])], false⟩⟩) r50 ?_ ?_
            · refine po_all ?_;(conv=>whnf);refine pbr_oite h51 (fun g52 h51 => ?_) (fun g52 h51 => ?_)
              · (conv=>whnf);refine pbr_t g52 ?_;(conv=>whnf);refine pbr_t g52 ?_;(conv=>whnf);refine pbr_t g52 ?_;(conv=>whnf);refine pbr_t g52 ?_;(conv=>whnf);refine pbr_t g52 ?_;(conv=>whnf);refine pbr_t g52 ?_;(conv=>whnf);cases h51;exact ⟨(.cons rfl (.cons rfl (.cons rfl (.cons rfl (.cons rfl (.cons rfl .nil)))))), rfl⟩
              · (conv=>whnf);refine pbr_f g52 ?_;(conv=>whnf);refine pbr_f g52 ?_;(conv=>whnf);refine pbr_f g52 ?_;(conv=>whnf);refine pbr_f g52 ?_;(conv=>whnf);refine pbr_f g52 ?_;(conv=>whnf);refine pbr_f g52 ?_;(conv=>whnf);cases h51;exact ⟨(.cons rfl (.cons rfl (.cons rfl (.cons rfl (.cons rfl (.cons rfl .nil)))))), rfl⟩
            · refine po_all ?_;(conv=>whnf);refine pbr_oite h44 (fun g53 h44 => ?_) (fun g53 h44 => ?_)
              · (conv=>whnf);refine pbr_t g53 ?_;(conv=>whnf);refine pbr_t g53 ?_;(conv=>whnf);refine pbr_t g53 ?_;(conv=>whnf);refine pbr_t g53 ?_;(conv=>whnf);refine pbr_t g53 ?_;(conv=>whnf);refine pbr_t g53 ?_;(conv=>whnf);refine pbr_t g53 ?_;(conv=>whnf);cases h44;exact ⟨(.cons rfl (.cons rfl (.cons rfl (.cons rfl (.cons rfl (.cons rfl .nil)))))), rfl⟩
              · (conv=>whnf);refine pbr_f g53 ?_;(conv=>whnf);refine pbr_f g53 ?_;(conv=>whnf);refine pbr_f g53 ?_;(conv=>whnf);refine pbr_f g53 ?_;(conv=>whnf);refine pbr_f g53 ?_;(conv=>whnf);refine pbr_f g53 ?_;(conv=>whnf);refine pbr_f g53 ?_;(conv=>whnf);cases h44;exact ⟨(.cons rfl (.cons rfl (.cons rfl (.cons rfl (.cons rfl (.cons rfl .nil)))))), rfl⟩
        · refine pw_cond ?_;(conv=>whnf);refine pbr_oite H (fun g54 H => ?_) (fun g54 H => ?_)
          · (conv=>whnf);refine pw_so ?_;refine po_all ?_;(conv=>whnf);refine pw_ret ?_;(conv=>whnf);cases H; rfl
          · (conv=>whnf);refine pw_skip ?_;(conv=>whnf);obtain ⟨r55, h56, h57, h58⟩ := obndS_some H;refine pw_joinS (ρ := Unit) (fun e => ⟨[(3, (.pointer (some ⟨0, 0, none⟩))), (4, (.pointer (some ⟨1, 0, none⟩))), (5, (.pointer (some ⟨2, 0, none⟩)))], ⟨3, [(2, .rw [(VS 1 (a7.map eI)), (.int .i64 a8)]), (1, .rw [(.int .i64 a3), (.int .i64 a4), (.int .i64 a5), (VS 3 (a6.map e_III))]), (0, .rw [(.int .i64 a0), (.int .i64 a1), (VS 4 (a2.map e_SIII))])], false⟩⟩) r55 ?_ ?_
            · refine pw_so ?_;refine po_all ?_;(conv=>whnf);refine pw_block ?_;refine pw_loop (τ := Int) (fun e => ⟨[(3, (.pointer (some ⟨0, 0, none⟩))), (4, (.pointer (some ⟨1, 0, none⟩))), (5, (.pointer (some ⟨2, 0, none⟩))), (7, (VS 1 (y33.1.map eI))), (9, (VS 1 (y41.1.map eI))), (11, (.int .i64 e))], ⟨3, [(2, .rw [(VS 1 (a7.map eI)), (.int .i64 a8)]), (1, .rw [(.int .i64 a3), (.int .i64 a4), (.int .i64 a5), (VS 3 (a6.map e_III))]), (0, .rw [(.int .i64 a0), (.int .i64 a1), (VS 4 (a2.map e_SIII))])], false⟩⟩) h56 ?_ (fun _ => Nat.le_of_ble_eq_true rfl) ?_
              · exact .sub' (Nat.le_of_ble_eq_true rfl) (.cons rfl (.cons rfl (.cons rfl (.cons rfl (.cons rfl (.cons rfl .nil))))))
              · intro e59 x60 h61; unfold l301_5 at h61;refine pw_seq ?_;refine pw_so ?_;refine po_all ?_;(conv=>whnf);refine pw_cond ?_;(conv=>whnf);refine pbr_oite h61 (fun g62 h61 => ?_) (fun g62 h61 => ?_)
                · (conv=>whnf);refine pw_skip ?_;(conv=>whnf);obtain ⟨r63, h64, h65, h66⟩ := obndS_some h61;refine pw_joinS (ρ := Unit) (fun e => ⟨[(3, (.pointer (some ⟨0, 0, none⟩))), (4, (.pointer (some ⟨1, 0, none⟩))), (5, (.pointer (some ⟨2, 0, none⟩))), (7, (VS 1 (y33.1.map eI))), (9, (VS 1 (y41.1.map eI))), (11, (.int .i64 e59))], ⟨3, [(2, .rw [(VS 1 (a7.map eI)), (.int .i64 a8)]), (1, .rw [(.int .i64 a3), (.int .i64 a4), (.int .i64 a5), (VS 3 (a6.map e_III))]), (0, .rw [(.int .i64 a0), (.int .i64 a1), (VS 4 (a2.map e_SIII))])], false⟩⟩) r63 ?_ ?_
                  · refine pw_block ?_;refine pw_seq ?_;obtain ⟨r67, h68, h64⟩ := obnd_some h64;refine pw_join (ρ := Bool) (fun e => ⟨[(3, (.pointer (some ⟨0, 0, none⟩))), (4, (.pointer (some ⟨1, 0, none⟩))), (5, (.pointer (some ⟨2, 0, none⟩))), (7, (VS 1 (y33.1.map eI))), (9, (VS 1 (y41.1.map eI))), (11, (.int .i64 e59)), (129, (.bool e))], ⟨3, [(2, .rw [(VS 1 (a7.map eI)), (.int .i64 a8)]), (1, .rw [(.int .i64 a3), (.int .i64 a4), (.int .i64 a5), (VS 3 (a6.map e_III))]), (0, .rw [(.int .i64 a0), (.int .i64 a1), (VS 4 (a2.map e_SIII))])], false⟩⟩) r67 ?_ ?_
                    · refine pw_draw ?_;(conv=>whnf);refine pbr_ogrd h68 (fun g71 h68 => ?_);(conv=>whnf);refine nth_o (l := y33.1) h68 (fun x72 _ h68 => ?_);(conv=>whnf);refine ⟨?_, trivial⟩;(conv=>whnf);obtain ⟨y73, h74, h68⟩ := obnd_some h68;refine (c15 h74).go ?_;(conv=>whnf);refine ⟨by repeat (first | exact trivial | refine And.intro rfl ?_), ?_⟩;(conv=>whnf);refine pbr_oite h68 (fun g75 h68 => ?_) (fun g75 h68 => ?_)
                      · (conv=>whnf);refine pbr_t g75 ?_;(conv=>whnf);refine pbr_t g75 ?_;(conv=>whnf);refine pbr_t g75 ?_;(conv=>whnf);refine pbr_t g75 ?_;(conv=>whnf);refine pbr_t g75 ?_;(conv=>whnf);refine pbr_t g75 ?_;(conv=>whnf);refine pbr_t g75 ?_;(conv=>whnf);refine ⟨?_, trivial⟩;(conv=>whnf);refine pbr_t g75 ?_;(conv=>whnf);refine pbr_t g75 ?_;(conv=>whnf);refine pbr_t g75 ?_;(conv=>whnf);cases h68;exact ⟨(.cons rfl (.cons rfl (.cons rfl (.cons rfl (.cons rfl (.cons rfl (.cons rfl .nil))))))), rfl⟩
                      · (conv=>whnf);refine pbr_f g75 ?_;(conv=>whnf);refine pbr_f g75 ?_;(conv=>whnf);refine pbr_t g71 ?_;(conv=>whnf);refine nth_o (l := y41.1) h68 (fun x76 _ h68 => ?_);(conv=>whnf);refine pbr_f g75 ?_;(conv=>whnf);refine pbr_f g75 ?_;(conv=>whnf);refine pbr_f g75 ?_;(conv=>whnf);refine pbr_f g75 ?_;(conv=>whnf);refine pbr_f g75 ?_;(conv=>whnf);refine ⟨?_, trivial⟩;(conv=>whnf);refine pbr_f g75 ?_;(conv=>whnf);obtain ⟨y77, h78, h68⟩ := obnd_some h68;refine (c15 h78).go ?_;(conv=>whnf);refine ⟨by repeat (first | exact trivial | refine And.intro rfl ?_), ?_⟩;(conv=>whnf);refine pbr_f g75 ?_;(conv=>whnf)
                        refine pbr_f g75 ?_;(conv=>whnf);cases h68;exact ⟨(.cons rfl (.cons rfl (.cons rfl (.cons rfl (.cons rfl (.cons rfl (.cons rfl .nil))))))), rfl⟩
                    · refine pw_cond ?_;(conv=>whnf);refine pbr_oite h64 (fun g79 h64 => ?_) (fun g79 h64 => ?_)
                      · (conv=>whnf);refine pw_so ?_;refine po_all ?_;(conv=>whnf);refine pw_ret ?_;(conv=>whnf);cases h64;obtain rfl := h66 _ rfl;refine ⟨_, rfl, ?_⟩; rintro rfl;(conv=>whnf);obtain rfl := h58 _ rfl; rfl
                      · (conv=>whnf);refine pw_skip ?_;(conv=>whnf);refine pw_so ?_;refine po_all ?_;(conv=>whnf);obtain ⟨r81, h82, h64⟩ := obnd_some h64;refine pw_join (ρ := Int) (fun e => ⟨[(3, (.pointer (some ⟨0, 0, none⟩))), (4, (.pointer (some ⟨1, 0, none⟩))), (5, (.pointer (some ⟨2, 0, none⟩))), (7, (VS 1 (y33.1.map eI))), (9, (VS 1 (y41.1.map eI))), (11, (.int .i64 e59)), (12, (.int .i64 e))], ⟨3, [(2, .rw [(VS 1 (a7.map eI)), (.int .i64 a8)]), (1, .rw [(.int .i64 a3), (.int .i64 a4), (.int .i64 a5), (VS 3 (a6.map e_III))]), (0, .rw [(.int .i64 a0), (.int .i64 a1), (VS 4 (a2.map e_SIII))])], false⟩⟩) r81 ?_ ?_
                        · refine pw_so ?_;refine po_all ?_;(conv=>whnf);refine pbr_ogrd h82 (fun g85 h82 => ?_);(conv=>whnf);refine nth_o (l := y33.1) h82 (fun x86 _ h82 => ?_);(conv=>whnf);refine pw_cond ?_;(conv=>whnf);refine pbr_oite h82 (fun g87 h82 => ?_) (fun g87 h82 => ?_)
                          · (conv=>whnf);refine pw_ops ?_;refine po_all ?_;(conv=>whnf);cases h82;exact ⟨(.cons rfl (.cons rfl (.cons rfl (.cons rfl (.cons rfl (.cons rfl (.cons rfl .nil))))))), rfl⟩
                          · (conv=>whnf);refine pw_skip ?_;(conv=>whnf);cases h82;exact ⟨(.cons rfl (.cons rfl (.cons rfl (.cons rfl (.cons rfl (.cons rfl (.cons rfl .nil))))))), rfl⟩
                        · refine pw_block ?_;refine pw_loop (τ := Int) (fun e => ⟨[(3, (.pointer (some ⟨0, 0, none⟩))), (4, (.pointer (some ⟨1, 0, none⟩))), (5, (.pointer (some ⟨2, 0, none⟩))), (7, (VS 1 (y33.1.map eI))), (9, (VS 1 (y41.1.map eI))), (11, (.int .i64 e59)), (12, (.int .i64 e))], ⟨3, [(2, .rw [(VS 1 (a7.map eI)), (.int .i64 a8)]), (1, .rw [(.int .i64 a3), (.int .i64 a4), (.int .i64 a5), (VS 3 (a6.map e_III))]), (0, .rw [(.int .i64 a0), (.int .i64 a1), (VS 4 (a2.map e_SIII))])], false⟩⟩) h64 ?_ (fun _ => Nat.le_of_ble_eq_true rfl) ?_
                          · exact .sub' (Nat.le_of_ble_eq_true rfl) (.cons rfl (.cons rfl (.cons rfl (.cons rfl (.cons rfl (.cons rfl (.cons rfl .nil)))))))
                          · intro e88 x89 h90; unfold l301_4 at h90;refine pw_seq ?_;refine pw_sd ?_;(conv=>whnf);refine pbr_oite h90 (fun g91 h90 => ?_) (fun g91 h90 => ?_)
                            · (conv=>whnf);refine pbr_t g91 ?_;(conv=>whnf);refine pbr_t g91 ?_;(conv=>whnf);refine pbr_t g91 ?_;(conv=>whnf);refine pbr_ogrd h90 (fun g92 h90 => ?_);(conv=>whnf);refine nth_o (l := y33.1) h90 (fun x93 _ h90 => ?_);(conv=>whnf);refine pbr_t g91 ?_;(conv=>whnf);refine pbr_t g91 ?_;(conv=>whnf);refine pbr_t g91 ?_;(conv=>whnf);refine pbr_t g91 ?_;(conv=>whnf);refine pbr_t g91 ?_;(conv=>whnf);refine pbr_t g91 ?_;(conv=>whnf);refine pbr_t g91 ?_;(conv=>whnf);refine pbr_t g91 ?_;(conv=>whnf);refine pbr_t g91 ?_;(conv=>whnf);refine pw_cond ?_;(conv=>whnf);refine pbr_oite h90 (fun g94 h90 => ?_) (fun g94 h90 => ?_)
                              · (conv=>whnf);refine pw_skip ?_;(conv=>whnf);refine pw_seq ?_;refine pw_block ?_;refine pw_sd ?_;(conv=>whnf);refine pbr_t g92 ?_;(conv=>whnf);refine nth_o (l := y41.1) h90 (fun x96 _ h90 => ?_);(conv=>whnf);refine pbr_t g92 ?_;(conv=>whnf);refine nth_o (l := y33.1) h90 (fun x97 _ h90 => ?_);(conv=>whnf);refine osl_o (f := e_III) h90 (fun m98 _ h90 h99 h100 => ?_);refine pbr_t (ile_t h99.1) ?_;(conv=>whnf);refine pbr_t (ile_t h99.2.1) ?_;(conv=>whnf);refine pbr_t (ile_t (by simpa only [List.length_map] using h99.2.2)) ?_; rw [h100];(conv=>whnf);refine ⟨?_, ?_⟩
                                · (conv=>whnf);refine ⟨by repeat (first | exact trivial | refine And.intro rfl ?_), ?_⟩;(conv=>whnf);refine ⟨?_, ?_⟩
                                  · (conv=>whnf);refine app_o (l := ([] : List (Int × Int × Int))) (m := m98) (f := e_III) h90 (by rfl) (by rfl) (by rfl) (fun h90 => ?_);(conv=>whnf);refine ⟨by repeat (first | exact trivial | refine And.intro rfl ?_), ?_⟩;(conv=>whnf);refine ⟨?_, trivial⟩;(conv=>whnf);refine ⟨by repeat (first | exact trivial | refine And.intro rfl ?_), ?_⟩;(conv=>whnf);refine ⟨?_, trivial⟩;(conv=>whnf);refine ⟨by repeat (first | exact trivial | refine And.intro rfl ?_), ?_⟩;(conv=>whnf);refine pw_so ?_;refine po_all ?_;(conv=>whnf);obtain ⟨r101, h102, h90⟩ := obnd_some h90;refine pw_join (ρ := (List Int)) (fun e => ⟨[(3, (.pointer (some ⟨0, 0, none⟩))), (4, (.pointer (some ⟨1, 0, none⟩))), (5, (.pointer (some ⟨2, 0, none⟩))), (7, (VS 1 (y33.1.map eI))), (9, (VS 1 (y41.1.map eI))), (11, (.int .i64 e59)), (12, (.int .i64 e88)), (13, (.pointer (some ⟨4, 0, none⟩))), (14, (VT 1 (e.map eI) 5))], ⟨6, [(5, .tail (e.map eI).length 1), (4, .rw [(.int .i64 x96), (.int .i64 a4), (.int .i64 0), (VT 3 ((([] : List (Int × Int × Int)) ++ m98).map e_III) 3)]), (3, .tail ((([] : List (Int × Int × Int)) ++ m98).map e_III).length 3), (2, .rw [(VS 1 (a7.map eI)), (.int .i64 a8)]), (1, .rw [(.int .i64 a3), (.int .i64 a4), (.int .i64 a5), (VS 3 (a6.map e_III))]), (0, .rw [(.int .i64 a0), (.int .i64 a1), (VS 4 (a2.map e_SIII))])], false⟩⟩) r101 ?_ ?_
                                    · refine pw_so ?_;refine po_all ?_;(conv=>whnf);refine pw_block ?_;refine pw_loop (τ := (List Int) × Int) (fun e => ⟨[(3, (.pointer (some ⟨0, 0, none⟩))), (4, (.pointer (some ⟨1, 0, none⟩))), (5, (.pointer (some ⟨2, 0, none⟩))), (7, (VS 1 (y33.1.map eI))), (9, (VS 1 (y41.1.map eI))), (11, (.int .i64 e59)), (12, (.int .i64 e88)), (13, (.pointer (some ⟨4, 0, none⟩))), (14, (VT 1 (e.1.map eI) 5)), (15, (.int .i64 e.2))], ⟨6, [(5, .tail (e.1.map eI).length 1), (4, .rw [(.int .i64 x96), (.int .i64 a4), (.int .i64 0), (VT 3 ((([] : List (Int × Int × Int)) ++ m98).map e_III) 3)]), (3, .tail ((([] : List (Int × Int × Int)) ++ m98).map e_III).length 3), (2, .rw [(VS 1 (a7.map eI)), (.int .i64 a8)]), (1, .rw [(.int .i64 a3), (.int .i64 a4), (.int .i64 a5), (VS 3 (a6.map e_III))]), (0, .rw [(.int .i64 a0), (.int .i64 a1), (VS 4 (a2.map e_SIII))])], false⟩⟩) h102 ?_ (fun _ => Nat.le_of_ble_eq_true rfl) ?_
                                      · exact (Recast.nilTs 1 (Nat.le_of_ble_eq_true rfl) (.same rfl (.same rfl (.same rfl (.same rfl (.same rfl (.same rfl (.same rfl (.same rfl (.turn rfl (.same rfl .nil)))))))))))
                                      · intro e105 x106 h107; unfold l301_1 at h107;refine pw_seq ?_;refine pw_so ?_;refine po_all ?_;(conv=>whnf);refine pbr_t g92 ?_;(conv=>whnf);refine nth_o (l := y33.1) h107 (fun x108 _ h107 => ?_);(conv=>whnf);refine pw_cond ?_;(conv=>whnf);refine pbr_oite h107 (fun g109 h107 => ?_) (fun g109 h107 => ?_)
                                        · (conv=>whnf);refine pw_skip ?_;(conv=>whnf);refine pw_seq ?_;refine pw_block ?_;refine pw_ops ?_;refine po_all ?_;(conv=>whnf);refine app_o (l := e105.1) (m := ([a8] : List Int)) (f := eI) h107 (by rfl) (by rfl) (by rfl) (fun h107 => ?_);(conv=>whnf);refine pw_ops ?_;refine po_all ?_;(conv=>whnf);cases h107;refine ⟨_, rfl, ?_⟩;exact Recast.fz (fun _ => false) (Nat.le_of_ble_eq_true rfl) (.cons (.same rfl rfl (OBnd.tail (Nat.le_of_ble_eq_true rfl))) (.cons (.same rfl rfl (OBnd.rwl (Nat.le_of_ble_eq_true rfl) rfl (.cons .cl (.cons .cl (.cons .cl (.cons (.vt (Nat.le_of_ble_eq_true rfl)) .nil)))))) (.cons (.same rfl rfl (OBnd.tail (Nat.le_of_ble_eq_true rfl))) (.cons (.same rfl rfl (OBnd.rwl (Nat.le_of_ble_eq_true rfl) rfl (.cons .cl (.cons .cl .nil)))) (.cons (.same rfl rfl (OBnd.rwl (Nat.le_of_ble_eq_true rfl) rfl (.cons .cl (.cons .cl (.cons .cl (.cons .cl .nil)))))) (.cons (.same rfl rfl (OBnd.rwl (Nat.le_of_ble_eq_true rfl) rfl (.cons .cl (.cons .cl (.cons .cl .nil))))) .nil)))))) (.cons rfl (.same _ (.ptr (Nat.le_of_ble_eq_true rfl))) (.cons rfl (.same _ (.ptr (Nat.le_of_ble_eq_true rfl))) (.cons rfl (.same _ (.ptr (Nat.le_of_ble_eq_true rfl))) (.cons rfl (.same _ .cl) (.cons rfl (.same _ .cl) (.cons rfl (.same _ .cl) (.cons rfl (.same _ .cl) (.cons rfl (.same _ (.ptr (Nat.le_of_ble_eq_true rfl))) (.cons rfl (.same _ (.vt (Nat.le_of_ble_eq_true rfl))) (.cons rfl (.same _ .cl) .nil))))))))))
                                        · (conv=>whnf);refine pw_exit ?_;(conv=>whnf);cases h107;refine ⟨_, rfl, ?_⟩; rintro rfl;(conv=>whnf);exact ⟨(.cons rfl (.cons rfl (.cons rfl (.cons rfl (.cons rfl (.cons rfl (.cons rfl (.cons rfl (.cons rfl .nil))))))))), rfl⟩
                                    · refine pw_sd ?_;(conv=>whnf);refine ⟨?_, trivial⟩;(conv=>whnf);obtain ⟨y111, h112, h90⟩ := obnd_some h90;refine (c309 h112).go ?_;(conv=>whnf);refine ⟨by repeat (first | exact trivial | refine And.intro rfl ?_), ?_⟩;(conv=>whnf);refine ⟨?_, trivial⟩;(conv=>whnf);obtain ⟨y113, h114, h90⟩ := obnd_some h90;refine ICalls.goW (c322 h114) (.cons (.refl _) (.cons (.aggl (.cons (.refl _) (.cons (.refl _) (.cons (.refl _) (.cons (.vt _ _ _) .nil))))) (.cons (.vt _ _ _) .nil))) ?_;(conv=>whnf);refine ⟨by repeat (first | exact trivial | refine And.intro rfl ?_), ?_⟩;(conv=>whnf);obtain ⟨r115, h116, h90⟩ := obnd_some h90
                                      refine pw_join (ρ := Bool) (fun e => ⟨[(3, (.pointer (some ⟨0, 0, none⟩))), (4, (.pointer (some ⟨1, 0, none⟩))), (5, (.pointer (some ⟨2, 0, none⟩))), (7, (VS 1 (y33.1.map eI))), (9, (VS 1 (y41.1.map eI))), (11, (.int .i64 e59)), (12, (.int .i64 e88)), (210, (.bool e))], ⟨6, [(5, .tail (r101.map eI).length 1), (4, .rw [(.int .i64 x96), (.int .i64 a4), (.int .i64 0), (VT 3 ((([] : List (Int × Int × Int)) ++ m98).map e_III) 3)]), (3, .tail ((([] : List (Int × Int × Int)) ++ m98).map e_III).length 3), (2, .rw [(VS 1 (a7.map eI)), (.int .i64 a8)]), (1, .rw [(.int .i64 a3), (.int .i64 a4), (.int .i64 a5), (VS 3 (a6.map e_III))]), (0, .rw [(.int .i64 a0), (.int .i64 a1), (VS 4 (a2.map e_SIII))])], false⟩⟩) r115 ?_ ?_
                                      · refine pw_ops ?_;refine po_ops 3 ?_;(conv=>whnf);obtain ⟨r119, h120, h116⟩ := obnd_some h116;refine po_seg (τ := Bool) 3 (fun e => ⟨[(3, (.pointer (some ⟨0, 0, none⟩))), (4, (.pointer (some ⟨1, 0, none⟩))), (5, (.pointer (some ⟨2, 0, none⟩))), (7, (VS 1 (y33.1.map eI))), (9, (VS 1 (y41.1.map eI))), (11, (.int .i64 e59)), (12, (.int .i64 e88)), (17, (.int .i64 y113.2)), (202, (.bool e))], ⟨6, [(5, .tail (r101.map eI).length 1), (4, .rw [(.int .i64 x96), (.int .i64 a4), (.int .i64 0), (VT 3 ((([] : List (Int × Int × Int)) ++ m98).map e_III) 3)]), (3, .tail ((([] : List (Int × Int × Int)) ++ m98).map e_III).length 3), (2, .rw [(VS 1 (a7.map eI)), (.int .i64 a8)]), (1, .rw [(.int .i64 a3), (.int .i64 a4), (.int .i64 a5), (VS 3 (a6.map e_III))]), (0, .rw [(.int .i64 a0), (.int .i64 a1), (VS 4 (a2.map e_SIII))])], false⟩⟩) r119 ?_ ?_
                                        · refine po_all ?_;(conv=>whnf);refine pbr_oite h120 (fun g121 h120 => ?_) (fun g121 h120 => ?_)
                                          · (conv=>whnf);refine pbr_t g121 ?_;(conv=>whnf);refine pbr_t g121 ?_;(conv=>whnf);cases h120;exact ⟨(.cons rfl (.cons rfl (.cons rfl (.cons rfl (.cons rfl (.cons rfl (.cons rfl (.cons rfl (.cons rfl .nil))))))))), rfl⟩
                                          · (conv=>whnf);refine pbr_f g121 ?_;(conv=>whnf);refine pbr_f g121 ?_;(conv=>whnf);cases h120;exact ⟨(.cons rfl (.cons rfl (.cons rfl (.cons rfl (.cons rfl (.cons rfl (.cons rfl (.cons rfl (.cons rfl .nil))))))))), rfl⟩
                                        · refine po_ops 4 ?_;(conv=>whnf);refine pbr_oite h116 (fun g122 h116 => ?_) (fun g122 h116 => ?_)
                                          · (conv=>whnf);refine pbr_t g122 ?_;(conv=>whnf);refine pbr_t g122 ?_;(conv=>whnf);refine po_ops 3 ?_;(conv=>whnf);refine pbr_t g122 ?_;(conv=>whnf);refine po_all ?_;(conv=>whnf);refine pbr_t g122 ?_;(conv=>whnf);cases h116;exact ⟨(.cons rfl (.cons rfl (.cons rfl (.cons rfl (.cons rfl (.cons rfl (.cons rfl (.cons rfl .nil)))))))), rfl⟩
                                          · (conv=>whnf);refine pbr_f g122 ?_;(conv=>whnf);refine pbr_f g122 ?_;(conv=>whnf);obtain ⟨r123, h124, h116⟩ := obnd_some h116;refine po_seg (τ := Bool) 3 (fun e => ⟨[(3, (.pointer (some ⟨0, 0, none⟩))), (4, (.pointer (some ⟨1, 0, none⟩))), (5, (.pointer (some ⟨2, 0, none⟩))), (7, (VS 1 (y33.1.map eI))), (9, (VS 1 (y41.1.map eI))), (11, (.int .i64 e59)), (12, (.int .i64 e88)), (203, (.bool r119)), (204, (.int .i64 e88)), (205, (.bool (ieq e88 (1 : Int)))), (206, (.bool (ieq e88 (1 : Int)))), (209, (.bool e))], ⟨6, [(5, .tail (r101.map eI).length 1), (4, .rw [(.int .i64 x96), (.int .i64 a4), (.int .i64 0), (VT 3 ((([] : List (Int × Int × Int)) ++ m98).map e_III) 3)]), (3, .tail ((([] : List (Int × Int × Int)) ++ m98).map e_III).length 3), (2, .rw [(VS 1 (a7.map eI)), (.int .i64 a8)]), (1, .rw [(.int .i64 a3), (.int .i64 a4), (.int .i64 a5), (VS 3 (a6.map e_III))]), (0, .rw [(.int .i64 a0), (.int .i64 a1), (VS 4 (a2.map e_SIII))])], false⟩⟩) r123 ?_ ?_
                                            · refine po_all ?_;(conv=>whnf);refine pbr_oite h124 (fun g125 h124 => ?_) (fun g125 h124 => ?_)
                                              · (conv=>whnf);refine pbr_t g125 ?_;(conv=>whnf);refine pbr_f g122 ?_;(conv=>whnf);refine pbr_t g125 ?_;(conv=>whnf);cases h124;exact ⟨(.cons rfl (.cons rfl (.cons rfl (.cons rfl (.cons rfl (.cons rfl (.cons rfl (.cons rfl (.cons rfl (.cons rfl (.cons rfl (.cons rfl .nil)))))))))))), rfl⟩
                                              · (conv=>whnf);refine pbr_f g125 ?_;(conv=>whnf);refine pbr_f g122 ?_;(conv=>whnf);refine pbr_f g125 ?_;(conv=>whnf);cases h124;exact ⟨(.cons rfl (.cons rfl (.cons rfl (.cons rfl (.cons rfl (.cons rfl (.cons rfl (.cons rfl (.cons rfl (.cons rfl (.cons rfl (.cons rfl .nil)))))))))))), rfl⟩
                                            · refine po_all ?_;(conv=>whnf);refine pbr_f g122 ?_;(conv=>whnf);cases h116;exact ⟨(.cons rfl (.cons rfl (.cons rfl (.cons rfl (.cons rfl (.cons rfl (.cons rfl (.cons rfl .nil)))))))), rfl⟩
                                      · refine pw_cond ?_;(conv=>whnf);refine pbr_oite h90 (fun g126 h90 => ?_) (fun g126 h90 => ?_)
                                        · (conv=>whnf);refine pw_so ?_;refine po_all ?_;(conv=>whnf);refine pw_ret ?_;(conv=>whnf);cases h90;refine ⟨_, rfl, ?_⟩; rintro rfl;(conv=>whnf);obtain rfl := h66 _ rfl;refine ⟨_, rfl, ?_⟩; rintro rfl;(conv=>whnf);obtain rfl := h58 _ rfl; rfl
                                        · (conv=>whnf);refine pw_skip ?_;(conv=>whnf);refine pw_ops ?_;refine po_all ?_;(conv=>whnf);cases h90;refine ⟨_, rfl, ?_⟩;refine Recast.trunc (Nat.le_of_ble_eq_true rfl) ?_ ?_
                                          · repeat (first | exact .nil | refine .cons rfl (by first | exact OBnd.rwc (Nat.le_of_ble_eq_true rfl) rfl | exact OBnd.tail (Nat.le_of_ble_eq_true rfl) | trivial) ?_)
                                          · repeat (first | exact .nil | refine .cons rfl (by first | exact Bnd.ptr (Nat.le_of_ble_eq_true rfl) | exact Bnd.vt (Nat.le_of_ble_eq_true rfl) | exact Bnd.cl) ?_)
                                  · (conv=>whnf);refine ⟨?_, trivial⟩;(conv=>whnf);refine ⟨by repeat (first | exact trivial | refine And.intro rfl ?_), ?_⟩;(conv=>whnf);refine ⟨?_, trivial⟩;(conv=>whnf);refine app_o (l := ([] : List (Int × Int × Int))) (m := m98) (f := e_III) h90 (by rfl) (by rfl) (by rfl) (fun h90 => ?_);(conv=>whnf);refine ⟨by repeat (first | exact trivial | refine And.intro rfl ?_), ?_⟩;(conv=>whnf);refine ⟨?_, trivial⟩;(conv=>whnf);refine ⟨by repeat (first | exact trivial | refine And.intro rfl ?_), ?_⟩;(conv=>whnf);refine pw_so ?_;refine po_all ?_;(conv=>whnf);obtain ⟨r129, h130, h90⟩ := obnd_some h90;refine pw_join (ρ := (List Int)) (fun e => ⟨[(3, (.pointer (some ⟨0, 0, none⟩))), (4, (.pointer (some ⟨1, 0, none⟩))), (5, (.pointer (some ⟨2, 0, none⟩))), (7, (VS 1 (y33.1.map eI))), (9, (VS 1 (y41.1.map eI))), (11, (.int .i64 e59)), (12, (.int .i64 e88)), (13, (.pointer (some ⟨4, 0, none⟩))), (14, (VT 1 (e.map eI) 5))], ⟨6, [(5, .tail (e.map eI).length 1), (4, .rw [(.int .i64 x96), (.int .i64 a4), (.int .i64 0), (VT 3 ((([] : List (Int × Int × Int)) ++ m98).map e_III) 3)]), (3, .tail ((([] : List (Int × Int × Int)) ++ m98).map e_III).length 3), (2, .rw [(VS 1 (a7.map eI)), (.int .i64 a8)]), (1, .rw [(.int .i64 a3), (.int .i64 a4), (.int .i64 a5), (VS 3 (a6.map e_III))]), (0, .rw [(.int .i64 a0), (.int .i64 a1), (VS 4 (a2.map e_SIII))])], false⟩⟩) r129 ?_ ?_
                                    · refine pw_so ?_;refine po_all ?_;(conv=>whnf);refine pw_block ?_;refine pw_loop (τ := (List Int) × Int) (fun e => ⟨[(3, (.pointer (some ⟨0, 0, none⟩))), (4, (.pointer (some ⟨1, 0, none⟩))), (5, (.pointer (some ⟨2, 0, none⟩))), (7, (VS 1 (y33.1.map eI))), (9, (VS 1 (y41.1.map eI))), (11, (.int .i64 e59)), (12, (.int .i64 e88)), (13, (.pointer (some ⟨4, 0, none⟩))), (14, (VT 1 (e.1.map eI) 5)), (15, (.int .i64 e.2))], ⟨6, [(5, .tail (e.1.map eI).length 1), (4, .rw [(.int .i64 x96), (.int .i64 a4), (.int .i64 0), (VT 3 ((([] : List (Int × Int × Int)) ++ m98).map e_III) 3)]), (3, .tail ((([] : List (Int × Int × Int)) ++ m98).map e_III).length 3), (2, .rw [(VS 1 (a7.map eI)), (.int .i64 a8)]), (1, .rw [(.int .i64 a3), (.int .i64 a4), (.int .i64 a5), (VS 3 (a6.map e_III))]), (0, .rw [(.int .i64 a0), (.int .i64 a1), (VS 4 (a2.map e_SIII))])], false⟩⟩) h130 ?_ (fun _ => Nat.le_of_ble_eq_true rfl) ?_
                                      · exact (Recast.nilTs 1 (Nat.le_of_ble_eq_true rfl) (.same rfl (.same rfl (.same rfl (.same rfl (.same rfl (.same rfl (.same rfl (.same rfl (.turn rfl (.same rfl .nil)))))))))))
                                      · intro e133 x134 h135; unfold l301_2 at h135;refine pw_seq ?_;refine pw_so ?_;refine po_all ?_;(conv=>whnf);refine pbr_t g92 ?_;(conv=>whnf);refine nth_o (l := y33.1) h135 (fun x136 _ h135 => ?_);(conv=>whnf);refine pw_cond ?_;(conv=>whnf);refine pbr_oite h135 (fun g137 h135 => ?_) (fun g137 h135 => ?_)
                                        · (conv=>whnf);refine pw_skip ?_;(conv=>whnf);refine pw_seq ?_;refine pw_block ?_;refine pw_ops ?_;refine po_all ?_;(conv=>whnf);refine app_o (l := e133.1) (m := ([a8] : List Int)) (f := eI) h135 (by rfl) (by rfl) (by rfl) (fun h135 => ?_);(conv=>whnf);refine pw_ops ?_;refine po_all ?_;(conv=>whnf);cases h135;refine ⟨_, rfl, ?_⟩;exact Recast.fz (fun _ => false) (Nat.le_of_ble_eq_true rfl) (.cons (.same rfl rfl (OBnd.tail (Nat.le_of_ble_eq_true rfl))) (.cons (.same rfl rfl (OBnd.rwl (Nat.le_of_ble_eq_true rfl) rfl (.cons .cl (.cons .cl (.cons .cl (.cons (.vt (Nat.le_of_ble_eq_true rfl)) .nil)))))) (.cons (.same rfl rfl (OBnd.tail (Nat.le_of_ble_eq_true rfl))) (.cons (.same rfl rfl (OBnd.rwl (Nat.le_of_ble_eq_true rfl) rfl (.cons .cl (.cons .cl .nil)))) (.cons (.same rfl rfl (OBnd.rwl (Nat.le_of_ble_eq_true rfl) rfl (.cons .cl (.cons .cl (.cons .cl (.cons .cl .nil)))))) (.cons (.same rfl rfl (OBnd.rwl (Nat.le_of_ble_eq_true rfl) rfl (.cons .cl (.cons .cl (.cons .cl .nil))))) .nil)))))) (.cons rfl (.same _ (.ptr (Nat.le_of_ble_eq_true rfl))) (.cons rfl (.same _ (.ptr (Nat.le_of_ble_eq_true rfl))) (.cons rfl (.same _ (.ptr (Nat.le_of_ble_eq_true rfl))) (.cons rfl (.same _ .cl) (.cons rfl (.same _ .cl) (.cons rfl (.same _ .cl) (.cons rfl (.same _ .cl) (.cons rfl (.same _ (.ptr (Nat.le_of_ble_eq_true rfl))) (.cons rfl (.same _ (.vt (Nat.le_of_ble_eq_true rfl))) (.cons rfl (.same _ .cl) .nil))))))))))
                                        · (conv=>whnf);refine pw_exit ?_;(conv=>whnf);cases h135;refine ⟨_, rfl, ?_⟩; rintro rfl;(conv=>whnf);exact ⟨(.cons rfl (.cons rfl (.cons rfl (.cons rfl (.cons rfl (.cons rfl (.cons rfl (.cons rfl (.cons rfl .nil))))))))), rfl⟩
                                    · refine pw_sd ?_;(conv=>whnf);refine ⟨?_, trivial⟩;(conv=>whnf);obtain ⟨y139, h140, h90⟩ := obnd_some h90;refine (c309 h140).go ?_;(conv=>whnf);refine ⟨by repeat (first | exact trivial | refine And.intro rfl ?_), ?_⟩;(conv=>whnf);refine ⟨?_, trivial⟩;(conv=>whnf);obtain ⟨y141, h142, h90⟩ := obnd_some h90;refine ICalls.goW (c322 h142) (.cons (.refl _) (.cons (.aggl (.cons (.refl _) (.cons (.refl _) (.cons (.refl _) (.cons (.vt _ _ _) .nil))))) (.cons (.vt _ _ _) .nil))) ?_;(conv=>whnf);refine ⟨by repeat (first | exact trivial | refine And.intro rfl ?_), ?_⟩;(conv=>whnf);obtain ⟨r143, h144, h90⟩ := obnd_some h90
                                      refine pw_join (ρ := Bool) (fun e => ⟨[(3, (.pointer (some ⟨0, 0, none⟩))), (4, (.pointer (some ⟨1, 0, none⟩))), (5, (.pointer (some ⟨2, 0, none⟩))), (7, (VS 1 (y33.1.map eI))), (9, (VS 1 (y41.1.map eI))), (11, (.int .i64 e59)), (12, (.int .i64 e88)), (210, (.bool e))], ⟨6, [(5, .tail (r129.map eI).length 1), (4, .rw [(.int .i64 x96), (.int .i64 a4), (.int .i64 0), (VT 3 ((([] : List (Int × Int × Int)) ++ m98).map e_III) 3)]), (3, .tail ((([] : List (Int × Int × Int)) ++ m98).map e_III).length 3), (2, .rw [(VS 1 (a7.map eI)), (.int .i64 a8)]), (1, .rw [(.int .i64 a3), (.int .i64 a4), (.int .i64 a5), (VS 3 (a6.map e_III))]), (0, .rw [(.int .i64 a0), (.int .i64 a1), (VS 4 (a2.map e_SIII))])], false⟩⟩) r143 ?_ ?_
                                      · refine pw_ops ?_;refine po_ops 3 ?_;(conv=>whnf);obtain ⟨r147, h148, h144⟩ := obnd_some h144;refine po_seg (τ := Bool) 3 (fun e => ⟨[(3, (.pointer (some ⟨0, 0, none⟩))), (4, (.pointer (some ⟨1, 0, none⟩))), (5, (.pointer (some ⟨2, 0, none⟩))), (7, (VS 1 (y33.1.map eI))), (9, (VS 1 (y41.1.map eI))), (11, (.int .i64 e59)), (12, (.int .i64 e88)), (17, (.int .i64 y141.2)), (202, (.bool e))], ⟨6, [(5, .tail (r129.map eI).length 1), (4, .rw [(.int .i64 x96), (.int .i64 a4), (.int .i64 0), (VT 3 ((([] : List (Int × Int × Int)) ++ m98).map e_III) 3)]), (3, .tail ((([] : List (Int × Int × Int)) ++ m98).map e_III).length 3), (2, .rw [(VS 1 (a7.map eI)), (.int .i64 a8)]), (1, .rw [(.int .i64 a3), (.int .i64 a4), (.int .i64 a5), (VS 3 (a6.map e_III))]), (0, .rw [(.int .i64 a0), (.int .i64 a1), (VS 4 (a2.map e_SIII))])], false⟩⟩) r147 ?_ ?_
                                        · refine po_all ?_;(conv=>whnf);refine pbr_oite h148 (fun g149 h148 => ?_) (fun g149 h148 => ?_)
                                          · (conv=>whnf);refine pbr_t g149 ?_;(conv=>whnf);refine pbr_t g149 ?_;(conv=>whnf);cases h148;exact ⟨(.cons rfl (.cons rfl (.cons rfl (.cons rfl (.cons rfl (.cons rfl (.cons rfl (.cons rfl (.cons rfl .nil))))))))), rfl⟩
                                          · (conv=>whnf);refine pbr_f g149 ?_;(conv=>whnf);refine pbr_f g149 ?_;(conv=>whnf);cases h148;exact ⟨(.cons rfl (.cons rfl (.cons rfl (.cons rfl (.cons rfl (.cons rfl (.cons rfl (.cons rfl (.cons rfl .nil))))))))), rfl⟩
                                        · refine po_ops 4 ?_;(conv=>whnf);refine pbr_oite h144 (fun g150 h144 => ?_) (fun g150 h144 => ?_)
                                          · (conv=>whnf);refine pbr_t g150 ?_;(conv=>whnf);refine pbr_t g150 ?_;(conv=>whnf);refine po_ops 3 ?_;(conv=>whnf);refine pbr_t g150 ?_;(conv=>whnf);refine po_all ?_;(conv=>whnf);refine pbr_t g150 ?_;(conv=>whnf);cases h144;exact ⟨(.cons rfl (.cons rfl (.cons rfl (.cons rfl (.cons rfl (.cons rfl (.cons rfl (.cons rfl .nil)))))))), rfl⟩
                                          · (conv=>whnf);refine pbr_f g150 ?_;(conv=>whnf);refine pbr_f g150 ?_;(conv=>whnf);obtain ⟨r151, h152, h144⟩ := obnd_some h144;refine po_seg (τ := Bool) 3 (fun e => ⟨[(3, (.pointer (some ⟨0, 0, none⟩))), (4, (.pointer (some ⟨1, 0, none⟩))), (5, (.pointer (some ⟨2, 0, none⟩))), (7, (VS 1 (y33.1.map eI))), (9, (VS 1 (y41.1.map eI))), (11, (.int .i64 e59)), (12, (.int .i64 e88)), (203, (.bool r147)), (204, (.int .i64 e88)), (205, (.bool (ieq e88 (1 : Int)))), (206, (.bool (ieq e88 (1 : Int)))), (209, (.bool e))], ⟨6, [(5, .tail (r129.map eI).length 1), (4, .rw [(.int .i64 x96), (.int .i64 a4), (.int .i64 0), (VT 3 ((([] : List (Int × Int × Int)) ++ m98).map e_III) 3)]), (3, .tail ((([] : List (Int × Int × Int)) ++ m98).map e_III).length 3), (2, .rw [(VS 1 (a7.map eI)), (.int .i64 a8)]), (1, .rw [(.int .i64 a3), (.int .i64 a4), (.int .i64 a5), (VS 3 (a6.map e_III))]), (0, .rw [(.int .i64 a0), (.int .i64 a1), (VS 4 (a2.map e_SIII))])], false⟩⟩) r151 ?_ ?_
                                            · refine po_all ?_;(conv=>whnf);refine pbr_oite h152 (fun g153 h152 => ?_) (fun g153 h152 => ?_)
                                              · (conv=>whnf);refine pbr_t g153 ?_;(conv=>whnf);refine pbr_f g150 ?_;(conv=>whnf);refine pbr_t g153 ?_;(conv=>whnf);cases h152;exact ⟨(.cons rfl (.cons rfl (.cons rfl (.cons rfl (.cons rfl (.cons rfl (.cons rfl (.cons rfl (.cons rfl (.cons rfl (.cons rfl (.cons rfl .nil)))))))))))), rfl⟩
                                              · (conv=>whnf);refine pbr_f g153 ?_;(conv=>whnf);refine pbr_f g150 ?_;(conv=>whnf);refine pbr_f g153 ?_;(conv=>whnf);cases h152;exact ⟨(.cons rfl (.cons rfl (.cons rfl (.cons rfl (.cons rfl (.cons rfl (.cons rfl (.cons rfl (.cons rfl (.cons rfl (.cons rfl (.cons rfl .nil)))))))))))), rfl⟩
                                            · refine po_all ?_;(conv=>whnf);refine pbr_f g150 ?_;(conv=>whnf);cases h144;exact ⟨(.cons rfl (.cons rfl (.cons rfl (.cons rfl (.cons rfl (.cons rfl (.cons rfl (.cons rfl .nil)))))))), rfl⟩
                                      · refine pw_cond ?_;(conv=>whnf);refine pbr_oite h90 (fun g154 h90 => ?_) (fun g154 h90 => ?_)
                                        · (conv=>whnf);refine pw_so ?_;refine po_all ?_;(conv=>whnf);refine pw_ret ?_;(conv=>whnf);cases h90;refine ⟨_, rfl, ?_⟩; rintro rfl;(conv=>whnf);obtain rfl := h66 _ rfl;refine ⟨_, rfl, ?_⟩; rintro rfl;(conv=>whnf);obtain rfl := h58 _ rfl; rfl
                                        · (conv=>whnf);refine pw_skip ?_;(conv=>whnf);refine pw_ops ?_;refine po_all ?_;(conv=>whnf);cases h90;refine ⟨_, rfl, ?_⟩;refine Recast.trunc (Nat.le_of_ble_eq_true rfl) ?_ ?_
                                          · repeat (first | exact .nil | refine .cons rfl (by first | exact OBnd.rwc (Nat.le_of_ble_eq_true rfl) rfl | exact OBnd.tail (Nat.le_of_ble_eq_true rfl) | trivial) ?_)
                                          · repeat (first | exact .nil | refine .cons rfl (by first | exact Bnd.ptr (Nat.le_of_ble_eq_true rfl) | exact Bnd.vt (Nat.le_of_ble_eq_true rfl) | exact Bnd.cl) ?_)
                                · (conv=>whnf);refine ⟨?_, trivial⟩;(conv=>whnf);refine ⟨by repeat (first | exact trivial | refine And.intro rfl ?_), ?_⟩;(conv=>whnf);refine ⟨?_, trivial⟩;(conv=>whnf);refine ⟨by repeat (first | exact trivial | refine And.intro rfl ?_), ?_⟩;(conv=>whnf);refine ⟨?_, trivial⟩;(conv=>whnf);refine app_o (l := ([] : List (Int × Int × Int))) (m := m98) (f := e_III) h90 (by rfl) (by rfl) (by rfl) (fun h90 => ?_);(conv=>whnf);refine ⟨by repeat (first | exact trivial | refine And.intro rfl ?_), ?_⟩;(conv=>whnf);refine ⟨?_, trivial⟩;(conv=>whnf);refine ⟨by repeat (first | exact trivial | refine And.intro rfl ?_), ?_⟩
                                  (conv=>whnf);refine pw_so ?_;refine po_all ?_;(conv=>whnf);obtain ⟨r157, h158, h90⟩ := obnd_some h90;refine pw_join (ρ := (List Int)) (fun e => ⟨[(3, (.pointer (some ⟨0, 0, none⟩))), (4, (.pointer (some ⟨1, 0, none⟩))), (5, (.pointer (some ⟨2, 0, none⟩))), (7, (VS 1 (y33.1.map eI))), (9, (VS 1 (y41.1.map eI))), (11, (.int .i64 e59)), (12, (.int .i64 e88)), (13, (.pointer (some ⟨3, 0, none⟩))), (14, (VT 1 (e.map eI) 5))], ⟨6, [(5, .tail (e.map eI).length 1), (4, .tail ((([] : List (Int × Int × Int)) ++ m98).map e_III).length 3), (3, .rw [(.int .i64 x96), (.int .i64 a4), (.int .i64 0), (VT 3 ((([] : List (Int × Int × Int)) ++ m98).map e_III) 4)]), (2, .rw [(VS 1 (a7.map eI)), (.int .i64 a8)]), (1, .rw [(.int .i64 a3), (.int .i64 a4), (.int .i64 a5), (VS 3 (a6.map e_III))]), (0, .rw [(.int .i64 a0), (.int .i64 a1), (VS 4 (a2.map e_SIII))])], false⟩⟩) r157 ?_ ?_
                                  · refine pw_so ?_;refine po_all ?_;(conv=>whnf);refine pw_block ?_;refine pw_loop (τ := (List Int) × Int) (fun e => ⟨[(3, (.pointer (some ⟨0, 0, none⟩))), (4, (.pointer (some ⟨1, 0, none⟩))), (5, (.pointer (some ⟨2, 0, none⟩))), (7, (VS 1 (y33.1.map eI))), (9, (VS 1 (y41.1.map eI))), (11, (.int .i64 e59)), (12, (.int .i64 e88)), (13, (.pointer (some ⟨3, 0, none⟩))), (14, (VT 1 (e.1.map eI) 5)), (15, (.int .i64 e.2))], ⟨6, [(5, .tail (e.1.map eI).length 1), (4, .tail ((([] : List (Int × Int × Int)) ++ m98).map e_III).length 3), (3, .rw [(.int .i64 x96), (.int .i64 a4), (.int .i64 0), (VT 3 ((([] : List (Int × Int × Int)) ++ m98).map e_III) 4)]), (2, .rw [(VS 1 (a7.map eI)), (.int .i64 a8)]), (1, .rw [(.int .i64 a3), (.int .i64 a4), (.int .i64 a5), (VS 3 (a6.map e_III))]), (0, .rw [(.int .i64 a0), (.int .i64 a1), (VS 4 (a2.map e_SIII))])], false⟩⟩) h158 ?_ (fun _ => Nat.le_of_ble_eq_true rfl) ?_
                                    · exact (Recast.nilTs 1 (Nat.le_of_ble_eq_true rfl) (.same rfl (.same rfl (.same rfl (.same rfl (.same rfl (.same rfl (.same rfl (.same rfl (.turn rfl (.same rfl .nil)))))))))))
                                    · intro e161 x162 h163; unfold l301_3 at h163;refine pw_seq ?_;refine pw_so ?_;refine po_all ?_;(conv=>whnf);refine pbr_t g92 ?_;(conv=>whnf);refine nth_o (l := y33.1) h163 (fun x164 _ h163 => ?_);(conv=>whnf);refine pw_cond ?_;(conv=>whnf);refine pbr_oite h163 (fun g165 h163 => ?_) (fun g165 h163 => ?_)
                                      · (conv=>whnf);refine pw_skip ?_;(conv=>whnf);refine pw_seq ?_;refine pw_block ?_;refine pw_ops ?_;refine po_all ?_;(conv=>whnf);refine app_o (l := e161.1) (m := ([a8] : List Int)) (f := eI) h163 (by rfl) (by rfl) (by rfl) (fun h163 => ?_);(conv=>whnf);refine pw_ops ?_;refine po_all ?_;(conv=>whnf);cases h163;refine ⟨_, rfl, ?_⟩;exact Recast.fz (fun _ => false) (Nat.le_of_ble_eq_true rfl) (.cons (.same rfl rfl (OBnd.tail (Nat.le_of_ble_eq_true rfl))) (.cons (.same rfl rfl (OBnd.tail (Nat.le_of_ble_eq_true rfl))) (.cons (.same rfl rfl (OBnd.rwl (Nat.le_of_ble_eq_true rfl) rfl (.cons .cl (.cons .cl (.cons .cl (.cons (.vt (Nat.le_of_ble_eq_true rfl)) .nil)))))) (.cons (.same rfl rfl (OBnd.rwl (Nat.le_of_ble_eq_true rfl) rfl (.cons .cl (.cons .cl .nil)))) (.cons (.same rfl rfl (OBnd.rwl (Nat.le_of_ble_eq_true rfl) rfl (.cons .cl (.cons .cl (.cons .cl (.cons .cl .nil)))))) (.cons (.same rfl rfl (OBnd.rwl (Nat.le_of_ble_eq_true rfl) rfl (.cons .cl (.cons .cl (.cons .cl .nil))))) .nil)))))) (.cons rfl (.same _ (.ptr (Nat.le_of_ble_eq_true rfl))) (.cons rfl (.same _ (.ptr (Nat.le_of_ble_eq_true rfl))) (.cons rfl (.same _ (.ptr (Nat.le_of_ble_eq_true rfl))) (.cons rfl (.same _ .cl) (.cons rfl (.same _ .cl) (.cons rfl (.same _ .cl) (.cons rfl (.same _ .cl) (.cons rfl (.same _ (.ptr (Nat.le_of_ble_eq_true rfl))) (.cons rfl (.same _ (.vt (Nat.le_of_ble_eq_true rfl))) (.cons rfl (.same _ .cl) .nil))))))))))
                                      · (conv=>whnf);refine pw_exit ?_;(conv=>whnf);cases h163;refine ⟨_, rfl, ?_⟩; rintro rfl;(conv=>whnf);exact ⟨(.cons rfl (.cons rfl (.cons rfl (.cons rfl (.cons rfl (.cons rfl (.cons rfl (.cons rfl (.cons rfl .nil))))))))), rfl⟩
                                  · refine pw_sd ?_;(conv=>whnf);refine ⟨?_, trivial⟩;(conv=>whnf);obtain ⟨y167, h168, h90⟩ := obnd_some h90;refine (c309 h168).go ?_;(conv=>whnf);refine ⟨by repeat (first | exact trivial | refine And.intro rfl ?_), ?_⟩;(conv=>whnf);refine ⟨?_, trivial⟩;(conv=>whnf);obtain ⟨y169, h170, h90⟩ := obnd_some h90;refine ICalls.goW (c322 h170) (.cons (.refl _) (.cons (.aggl (.cons (.refl _) (.cons (.refl _) (.cons (.refl _) (.cons (.vt _ _ _) .nil))))) (.cons (.vt _ _ _) .nil))) ?_;(conv=>whnf);refine ⟨by repeat (first | exact trivial | refine And.intro rfl ?_), ?_⟩;(conv=>whnf);obtain ⟨r171, h172, h90⟩ := obnd_some h90
                                    refine pw_join (ρ := Bool) (fun e => ⟨[(3, (.pointer (some ⟨0, 0, none⟩))), (4, (.pointer (some ⟨1, 0, none⟩))), (5, (.pointer (some ⟨2, 0, none⟩))), (7, (VS 1 (y33.1.map eI))), (9, (VS 1 (y41.1.map eI))), (11, (.int .i64 e59)), (12, (.int .i64 e88)), (210, (.bool e))], ⟨6, [(5, .tail (r157.map eI).length 1), (4, .tail ((([] : List (Int × Int × Int)) ++ m98).map e_III).length 3), (3, .rw [(.int .i64 x96), (.int .i64 a4), (.int .i64 0), (VT 3 ((([] : List (Int × Int × Int)) ++ m98).map e_III) 4)]), (2, .rw [(VS 1 (a7.map eI)), (.int .i64 a8)]), (1, .rw [(.int .i64 a3), (.int .i64 a4), (.int .i64 a5), (VS 3 (a6.map e_III))]), (0, .rw [(.int .i64 a0), (.int .i64 a1), (VS 4 (a2.map e_SIII))])], false⟩⟩) r171 ?_ ?_
                                    · refine pw_ops ?_;refine po_ops 3 ?_;(conv=>whnf);obtain ⟨r175, h176, h172⟩ := obnd_some h172;refine po_seg (τ := Bool) 3 (fun e => ⟨[(3, (.pointer (some ⟨0, 0, none⟩))), (4, (.pointer (some ⟨1, 0, none⟩))), (5, (.pointer (some ⟨2, 0, none⟩))), (7, (VS 1 (y33.1.map eI))), (9, (VS 1 (y41.1.map eI))), (11, (.int .i64 e59)), (12, (.int .i64 e88)), (17, (.int .i64 y169.2)), (202, (.bool e))], ⟨6, [(5, .tail (r157.map eI).length 1), (4, .tail ((([] : List (Int × Int × Int)) ++ m98).map e_III).length 3), (3, .rw [(.int .i64 x96), (.int .i64 a4), (.int .i64 0), (VT 3 ((([] : List (Int × Int × Int)) ++ m98).map e_III) 4)]), (2, .rw [(VS 1 (a7.map eI)), (.int .i64 a8)]), (1, .rw [(.int .i64 a3), (.int .i64 a4), (.int .i64 a5), (VS 3 (a6.map e_III))]), (0, .rw [(.int .i64 a0), (.int .i64 a1), (VS 4 (a2.map e_SIII))])], false⟩⟩) r175 ?_ ?_
                                      · refine po_all ?_;(conv=>whnf);refine pbr_oite h176 (fun g177 h176 => ?_) (fun g177 h176 => ?_)
                                        · (conv=>whnf);refine pbr_t g177 ?_;(conv=>whnf);refine pbr_t g177 ?_;(conv=>whnf);cases h176;exact ⟨(.cons rfl (.cons rfl (.cons rfl (.cons rfl (.cons rfl (.cons rfl (.cons rfl (.cons rfl (.cons rfl .nil))))))))), rfl⟩
                                        · (conv=>whnf);refine pbr_f g177 ?_;(conv=>whnf);refine pbr_f g177 ?_;(conv=>whnf);cases h176;exact ⟨(.cons rfl (.cons rfl (.cons rfl (.cons rfl (.cons rfl (.cons rfl (.cons rfl (.cons rfl (.cons rfl .nil))))))))), rfl⟩
                                      · refine po_ops 4 ?_;(conv=>whnf);refine pbr_oite h172 (fun g178 h172 => ?_) (fun g178 h172 => ?_)
                                        · (conv=>whnf);refine pbr_t g178 ?_;(conv=>whnf);refine pbr_t g178 ?_;(conv=>whnf);refine po_ops 3 ?_;(conv=>whnf);refine pbr_t g178 ?_;(conv=>whnf);refine po_all ?_;(conv=>whnf);refine pbr_t g178 ?_;(conv=>whnf);cases h172;exact ⟨(.cons rfl (.cons rfl (.cons rfl (.cons rfl (.cons rfl (.cons rfl (.cons rfl (.cons rfl .nil)))))))), rfl⟩
                                        · (conv=>whnf);refine pbr_f g178 ?_;(conv=>whnf);refine pbr_f g178 ?_;(conv=>whnf);obtain ⟨r179, h180, h172⟩ := obnd_some h172;refine po_seg (τ := Bool) 3 (fun e => ⟨[(3, (.pointer (some ⟨0, 0, none⟩))), (4, (.pointer (some ⟨1, 0, none⟩))), (5, (.pointer (some ⟨2, 0, none⟩))), (7, (VS 1 (y33.1.map eI))), (9, (VS 1 (y41.1.map eI))), (11, (.int .i64 e59)), (12, (.int .i64 e88)), (203, (.bool r175)), (204, (.int .i64 e88)), (205, (.bool (ieq e88 (1 : Int)))), (206, (.bool (ieq e88 (1 : Int)))), (209, (.bool e))], ⟨6, [(5, .tail (r157.map eI).length 1), (4, .tail ((([] : List (Int × Int × Int)) ++ m98).map e_III).length 3), (3, .rw [(.int .i64 x96), (.int .i64 a4), (.int .i64 0), (VT 3 ((([] : List (Int × Int × Int)) ++ m98).map e_III) 4)]), (2, .rw [(VS 1 (a7.map eI)), (.int .i64 a8)]), (1, .rw [(.int .i64 a3), (.int .i64 a4), (.int .i64 a5), (VS 3 (a6.map e_III))]), (0, .rw [(.int .i64 a0), (.int .i64 a1), (VS 4 (a2.map e_SIII))])], false⟩⟩) r179 ?_ ?_
                                          · refine po_all ?_;(conv=>whnf);refine pbr_oite h180 (fun g181 h180 => ?_) (fun g181 h180 => ?_)
                                            · (conv=>whnf);refine pbr_t g181 ?_;(conv=>whnf);refine pbr_f g178 ?_;(conv=>whnf);refine pbr_t g181 ?_;(conv=>whnf);cases h180;exact ⟨(.cons rfl (.cons rfl (.cons rfl (.cons rfl (.cons rfl (.cons rfl (.cons rfl (.cons rfl (.cons rfl (.cons rfl (.cons rfl (.cons rfl .nil)))))))))))), rfl⟩
                                            · (conv=>whnf);refine pbr_f g181 ?_;(conv=>whnf);refine pbr_f g178 ?_;(conv=>whnf);refine pbr_f g181 ?_;(conv=>whnf);cases h180;exact ⟨(.cons rfl (.cons rfl (.cons rfl (.cons rfl (.cons rfl (.cons rfl (.cons rfl (.cons rfl (.cons rfl (.cons rfl (.cons rfl (.cons rfl .nil)))))))))))), rfl⟩
                                          · refine po_all ?_;(conv=>whnf);refine pbr_f g178 ?_;(conv=>whnf);cases h172;exact ⟨(.cons rfl (.cons rfl (.cons rfl (.cons rfl (.cons rfl (.cons rfl (.cons rfl (.cons rfl .nil)))))))), rfl⟩
                                    · refine pw_cond ?_;(conv=>whnf);refine pbr_oite h90 (fun g182 h90 => ?_) (fun g182 h90 => ?_)
                                      · (conv=>whnf);refine pw_so ?_;refine po_all ?_;(conv=>whnf);refine pw_ret ?_;(conv=>whnf);cases h90;refine ⟨_, rfl, ?_⟩; rintro rfl;(conv=>whnf);obtain rfl := h66 _ rfl;refine ⟨_, rfl, ?_⟩; rintro rfl;(conv=>whnf);obtain rfl := h58 _ rfl; rfl
                                      · (conv=>whnf);refine pw_skip ?_;(conv=>whnf);refine pw_ops ?_;refine po_all ?_;(conv=>whnf);cases h90;refine ⟨_, rfl, ?_⟩;refine Recast.trunc (Nat.le_of_ble_eq_true rfl) ?_ ?_
                                        · repeat (first | exact .nil | refine .cons rfl (by first | exact OBnd.rwc (Nat.le_of_ble_eq_true rfl) rfl | exact OBnd.tail (Nat.le_of_ble_eq_true rfl) | trivial) ?_)
                                        · repeat (first | exact .nil | refine .cons rfl (by first | exact Bnd.ptr (Nat.le_of_ble_eq_true rfl) | exact Bnd.vt (Nat.le_of_ble_eq_true rfl) | exact Bnd.cl) ?_)
                              · (conv=>whnf);refine pw_exit ?_;(conv=>whnf);cases h90;refine ⟨_, rfl, ?_⟩; rintro rfl;(conv=>whnf);exact ⟨_, rfl, ⟨(.cons rfl (.cons rfl (.cons rfl (.cons rfl (.cons rfl (.cons rfl .nil)))))), rfl⟩⟩
                            · (conv=>whnf);refine pbr_f g91 ?_;(conv=>whnf);refine pbr_f g91 ?_;(conv=>whnf);refine pbr_f g91 ?_;(conv=>whnf);refine pbr_f g91 ?_;(conv=>whnf);refine pbr_f g91 ?_;(conv=>whnf);refine pbr_f g91 ?_;(conv=>whnf);refine pbr_f g91 ?_;(conv=>whnf);refine pbr_f g91 ?_;(conv=>whnf);refine pbr_f g91 ?_;(conv=>whnf);refine pbr_f g91 ?_;(conv=>whnf);refine pbr_f g91 ?_;(conv=>whnf);refine pbr_f g91 ?_;(conv=>whnf);refine pw_cond ?_;(conv=>whnf);refine pw_exit ?_;(conv=>whnf);cases h90;refine ⟨_, rfl, ?_⟩; rintro rfl;(conv=>whnf);exact ⟨_, rfl, ⟨(.cons rfl (.cons rfl (.cons rfl (.cons rfl (.cons rfl (.cons rfl .nil)))))), rfl⟩⟩
                  · intro r187 hr; have h61 := h65 _ hr;refine pw_ops ?_;refine po_all ?_;(conv=>whnf);cases h61;refine ⟨_, rfl, ?_⟩;exact .sub' (Nat.le_of_ble_eq_true rfl) (.cons rfl (.cons rfl (.cons rfl (.cons rfl (.cons rfl (.cons rfl .nil))))))
                · (conv=>whnf);refine pw_exit ?_;(conv=>whnf);cases h61;refine ⟨_, rfl, ?_⟩; rintro rfl;(conv=>whnf);exact ⟨_, rfl, ⟨(.cons rfl (.cons rfl (.cons rfl .nil))), rfl⟩⟩
            · intro r189 hr; have H := h57 _ hr;refine pw_so ?_;refine po_all ?_;(conv=>whnf);obtain ⟨r190, h191, h192, h193⟩ := obndS_some H;refine pw_joinS (ρ := Unit) (fun e => ⟨[], ⟨3, [(2, .rw [(VS 1 (a7.map eI)), (.int .i64 a8)]), (1, .rw [(.int .i64 a3), (.int .i64 a4), (.int .i64 a5), (VS 3 (a6.map e_III))]), (0, .rw [(.int .i64 a0), (.int .i64 a1), (VS 4 (a2.map e_SIII))])], false⟩⟩) r190 ?_ ?_
              · refine pw_so ?_;refine po_all ?_;(conv=>whnf);refine pw_block ?_;refine pw_unroll 5 ?_;(conv=>whnf);refine pw_seq ?_;refine pw_so ?_;refine po_all ?_;(conv=>whnf);refine pw_cond ?_;(conv=>whnf);refine pw_skip ?_;(conv=>whnf);refine pw_seq ?_;refine pw_block ?_;refine pw_sd ?_;(conv=>whnf);refine ⟨?_, trivial⟩;(conv=>whnf);obtain ⟨y194, h195, h191⟩ := obnd_some h191;refine (c309 h195).go ?_;(conv=>whnf);refine ⟨by repeat (first | exact trivial | refine And.intro rfl ?_), ?_⟩;(conv=>whnf);refine ⟨?_, trivial⟩;(conv=>whnf);obtain ⟨y196, h197, h191⟩ := obnd_some h191;refine (c310 h197).go ?_;(conv=>whnf);refine ⟨by repeat (first | exact trivial | refine And.intro rfl ?_), ?_⟩
                (conv=>whnf);refine ⟨?_, trivial⟩;(conv=>whnf);obtain ⟨y198, h199, h191⟩ := obnd_some h191;refine (c314 h199).go ?_;(conv=>whnf);refine ⟨by repeat (first | exact trivial | refine And.intro rfl ?_), ?_⟩;(conv=>whnf);refine pw_seq ?_;refine pw_so ?_;refine po_all ?_;(conv=>whnf);refine pw_cond ?_;(conv=>whnf);refine pw_sd ?_;(conv=>whnf);refine ⟨?_, trivial⟩;(conv=>whnf);obtain ⟨y200, h201, h191⟩ := obnd_some h191;refine (c309 h201).go ?_;(conv=>whnf);refine ⟨by repeat (first | exact trivial | refine And.intro rfl ?_), ?_⟩;(conv=>whnf);refine ⟨?_, trivial⟩;(conv=>whnf);obtain ⟨y202, h203, h191⟩ := obnd_some h191
                refine (c310 h203).go ?_;(conv=>whnf);refine ⟨by repeat (first | exact trivial | refine And.intro rfl ?_), ?_⟩;(conv=>whnf);refine ⟨?_, trivial⟩;(conv=>whnf);obtain ⟨y204, h205, h191⟩ := obnd_some h191;refine (c206 h205).go ?_;(conv=>whnf);refine ⟨by repeat (first | exact trivial | refine And.intro rfl ?_), ?_⟩;(conv=>whnf);refine pw_seq ?_;obtain ⟨r206, h207, h191⟩ := obnd_some h191;refine pw_join (ρ := Bool) (fun e => ⟨[(3, (.pointer (some ⟨0, 0, none⟩))), (4, (.pointer (some ⟨1, 0, none⟩))), (5, (.pointer (some ⟨2, 0, none⟩))), (19, (.int .i64 0)), (21, (.int .i64 y198.2.1)), (257, (.bool e))], ⟨3, [(2, .rw [(VS 1 (a7.map eI)), (.int .i64 a8)]), (1, .rw [(.int .i64 a3), (.int .i64 a4), (.int .i64 a5), (VS 3 (a6.map e_III))]), (0, .rw [(.int .i64 a0), (.int .i64 a1), (VS 4 (a2.map e_SIII))])], false⟩⟩) r206 ?_ ?_
                · refine pw_ops ?_;refine po_ops 3 ?_;(conv=>whnf);obtain ⟨r210, h211, h207⟩ := obnd_some h207;refine po_seg (τ := Bool) 3 (fun e => ⟨[(3, (.pointer (some ⟨0, 0, none⟩))), (4, (.pointer (some ⟨1, 0, none⟩))), (5, (.pointer (some ⟨2, 0, none⟩))), (19, (.int .i64 0)), (20, (VS 1 (y198.1.map eI))), (21, (.int .i64 y198.2.1)), (23, (VS 1 (y204.1.map eI))), (24, (.int .i64 y204.2.1)), (246, (.bool e))], ⟨3, [(2, .rw [(VS 1 (a7.map eI)), (.int .i64 a8)]), (1, .rw [(.int .i64 a3), (.int .i64 a4), (.int .i64 a5), (VS 3 (a6.map e_III))]), (0, .rw [(.int .i64 a0), (.int .i64 a1), (VS 4 (a2.map e_SIII))])], false⟩⟩) r210 ?_ ?_
                  · refine po_all ?_;(conv=>whnf);refine pbr_oite h211 (fun g212 h211 => ?_) (fun g212 h211 => ?_)
                    · (conv=>whnf);refine pbr_t g212 ?_;(conv=>whnf);refine pbr_t g212 ?_;(conv=>whnf);cases h211;exact ⟨(.cons rfl (.cons rfl (.cons rfl (.cons rfl (.cons rfl (.cons rfl (.cons rfl (.cons rfl (.cons rfl .nil))))))))), rfl⟩
                    · (conv=>whnf);refine pbr_f g212 ?_;(conv=>whnf);refine pbr_f g212 ?_;(conv=>whnf);cases h211;exact ⟨(.cons rfl (.cons rfl (.cons rfl (.cons rfl (.cons rfl (.cons rfl (.cons rfl (.cons rfl (.cons rfl .nil))))))))), rfl⟩
                  · refine po_ops 1 ?_;(conv=>whnf);obtain ⟨r213, h214, h207⟩ := obnd_some h207;refine po_seg (τ := Bool) 4 (fun e => ⟨[(3, (.pointer (some ⟨0, 0, none⟩))), (4, (.pointer (some ⟨1, 0, none⟩))), (5, (.pointer (some ⟨2, 0, none⟩))), (19, (.int .i64 0)), (20, (VS 1 (y198.1.map eI))), (21, (.int .i64 y198.2.1)), (23, (VS 1 (y204.1.map eI))), (251, (.bool e))], ⟨3, [(2, .rw [(VS 1 (a7.map eI)), (.int .i64 a8)]), (1, .rw [(.int .i64 a3), (.int .i64 a4), (.int .i64 a5), (VS 3 (a6.map e_III))]), (0, .rw [(.int .i64 a0), (.int .i64 a1), (VS 4 (a2.map e_SIII))])], false⟩⟩) r213 ?_ ?_
                    · refine po_all ?_;(conv=>whnf);refine pbr_oite h214 (fun g215 h214 => ?_) (fun g215 h214 => ?_)
                      · (conv=>whnf);refine pbr_t g215 ?_;(conv=>whnf);refine pbr_t g215 ?_;(conv=>whnf);refine pbr_t g215 ?_;(conv=>whnf);cases h214;exact ⟨(.cons rfl (.cons rfl (.cons rfl (.cons rfl (.cons rfl (.cons rfl (.cons rfl (.cons rfl .nil)))))))), rfl⟩
                      · (conv=>whnf);refine pbr_f g215 ?_;(conv=>whnf);refine pbr_f g215 ?_;(conv=>whnf);refine pbr_f g215 ?_;(conv=>whnf);cases h214;exact ⟨(.cons rfl (.cons rfl (.cons rfl (.cons rfl (.cons rfl (.cons rfl (.cons rfl (.cons rfl .nil)))))))), rfl⟩
                    · refine po_all ?_;(conv=>whnf);refine pbr_oite h207 (fun g216 h207 => ?_) (fun g216 h207 => ?_)
                      · (conv=>whnf);refine pbr_t g216 ?_;(conv=>whnf);refine pbr_t g216 ?_;(conv=>whnf);refine pbr_t g216 ?_;(conv=>whnf);refine pbr_t g216 ?_;(conv=>whnf);cases h207;exact ⟨(.cons rfl (.cons rfl (.cons rfl (.cons rfl (.cons rfl (.cons rfl .nil)))))), rfl⟩
                      · (conv=>whnf);refine pbr_f g216 ?_;(conv=>whnf);refine pbr_f g216 ?_;(conv=>whnf);obtain ⟨y217, h218, h207⟩ := obnd_some h207;refine (c26 h218).go ?_;(conv=>whnf);refine pbr_f g216 ?_;(conv=>whnf);refine pbr_f g216 ?_;(conv=>whnf);cases h207;exact ⟨(.cons rfl (.cons rfl (.cons rfl (.cons rfl (.cons rfl (.cons rfl .nil)))))), rfl⟩
                · refine pw_cond ?_;(conv=>whnf);refine pbr_oite h191 (fun g219 h191 => ?_) (fun g219 h191 => ?_)
                  · (conv=>whnf);refine pw_so ?_;refine po_all ?_;(conv=>whnf);refine pw_ret ?_;(conv=>whnf);cases h191;obtain rfl := h193 _ rfl; rfl
                  · (conv=>whnf);refine pw_skip ?_;(conv=>whnf);refine pw_so ?_;refine po_all ?_;(conv=>whnf);refine pw_exit ?_;(conv=>whnf);refine pw_ops ?_;refine po_all ?_;(conv=>whnf);refine ⟨_, .refl, Nat.le_of_ble_eq_true rfl, ?_⟩;(conv=>whnf);refine pw_seq ?_;refine pw_so ?_;refine po_all ?_;(conv=>whnf);refine pw_cond ?_;(conv=>whnf);refine pw_skip ?_;(conv=>whnf);refine pw_seq ?_;refine pw_block ?_;refine pw_sd ?_;(conv=>whnf);refine ⟨?_, trivial⟩;(conv=>whnf);obtain ⟨y220, h221, h191⟩ := obnd_some h191;refine (c309 h221).go ?_;(conv=>whnf);refine ⟨by repeat (first | exact trivial | refine And.intro rfl ?_), ?_⟩
                    (conv=>whnf);refine ⟨?_, trivial⟩;(conv=>whnf);obtain ⟨y222, h223, h191⟩ := obnd_some h191;refine (c310 h223).go ?_;(conv=>whnf);refine ⟨by repeat (first | exact trivial | refine And.intro rfl ?_), ?_⟩;(conv=>whnf);refine ⟨?_, trivial⟩;(conv=>whnf);obtain ⟨y224, h225, h191⟩ := obnd_some h191;refine (c314 h225).go ?_;(conv=>whnf);refine ⟨by repeat (first | exact trivial | refine And.intro rfl ?_), ?_⟩;(conv=>whnf);refine pw_seq ?_;refine pw_so ?_;refine po_all ?_;(conv=>whnf);refine pw_cond ?_;(conv=>whnf);refine pw_skip ?_;(conv=>whnf);refine pw_seq ?_;refine pw_so ?_;refine po_all ?_;(conv=>whnf);refine pw_cond ?_
                    (conv=>whnf);refine pbr_oite h191 (fun g226 h191 => ?_) (fun g226 h191 => ?_)
                    · (conv=>whnf);refine pw_so ?_;refine po_all ?_;(conv=>whnf);refine pw_ret ?_;(conv=>whnf);cases h191;obtain rfl := h193 _ rfl; rfl
                    · (conv=>whnf);refine pw_skip ?_;(conv=>whnf);refine pw_sd ?_;(conv=>whnf);refine ⟨?_, trivial⟩;(conv=>whnf);obtain ⟨y227, h228, h191⟩ := obnd_some h191;refine (c309 h228).go ?_;(conv=>whnf);refine ⟨by repeat (first | exact trivial | refine And.intro rfl ?_), ?_⟩;(conv=>whnf);refine ⟨?_, trivial⟩;(conv=>whnf);obtain ⟨y229, h230, h191⟩ := obnd_some h191;refine (c310 h230).go ?_;(conv=>whnf);refine ⟨by repeat (first | exact trivial | refine And.intro rfl ?_), ?_⟩;(conv=>whnf);refine ⟨?_, trivial⟩;(conv=>whnf);obtain ⟨y231, h232, h191⟩ := obnd_some h191;refine (c38 h232).go ?_;(conv=>whnf);refine ⟨by repeat (first | exact trivial | refine And.intro rfl ?_), ?_⟩
                      (conv=>whnf);refine ⟨?_, trivial⟩;(conv=>whnf);obtain ⟨y233, h234, h191⟩ := obnd_some h191;refine (c318 h234).go ?_;(conv=>whnf);refine ⟨by repeat (first | exact trivial | refine And.intro rfl ?_), ?_⟩;(conv=>whnf);refine pw_seq ?_;obtain ⟨r235, h236, h191⟩ := obnd_some h191;refine pw_join (ρ := Bool) (fun e => ⟨[(3, (.pointer (some ⟨0, 0, none⟩))), (4, (.pointer (some ⟨1, 0, none⟩))), (5, (.pointer (some ⟨2, 0, none⟩))), (19, (.int .i64 1)), (21, (.int .i64 y224.2.1)), (287, (.bool e))], ⟨3, [(2, .rw [(VS 1 (a7.map eI)), (.int .i64 a8)]), (1, .rw [(.int .i64 a3), (.int .i64 a4), (.int .i64 a5), (VS 3 (a6.map e_III))]), (0, .rw [(.int .i64 a0), (.int .i64 a1), (VS 4 (a2.map e_SIII))])], false⟩⟩) r235 ?_ ?_
                      · refine pw_ops ?_;refine po_ops 4 ?_;(conv=>whnf);obtain ⟨r239, h240, h236⟩ := obnd_some h236;refine po_seg (τ := Bool) 3 (fun e => ⟨[(3, (.pointer (some ⟨0, 0, none⟩))), (4, (.pointer (some ⟨1, 0, none⟩))), (5, (.pointer (some ⟨2, 0, none⟩))), (19, (.int .i64 1)), (21, (.int .i64 y224.2.1)), (26, (.int .i64 y233.1)), (282, (.bool e))], ⟨3, [(2, .rw [(VS 1 (a7.map eI)), (.int .i64 a8)]), (1, .rw [(.int .i64 a3), (.int .i64 a4), (.int .i64 a5), (VS 3 (a6.map e_III))]), (0, .rw [(.int .i64 a0), (.int .i64 a1), (VS 4 (a2.map e_SIII))])], false⟩⟩) r239 ?_ ?_
                        · refine po_all ?_;(conv=>whnf);refine pbr_oite h240 (fun g241 h240 => ?_) (fun g241 h240 => ?_)
                          · (conv=>whnf);refine pbr_t g241 ?_;(conv=>whnf);refine pbr_t g241 ?_;(conv=>whnf);cases h240;exact ⟨(.cons rfl (.cons rfl (.cons rfl (.cons rfl (.cons rfl (.cons rfl (.cons rfl .nil))))))), rfl⟩
                          · (conv=>whnf);refine pbr_f g241 ?_;(conv=>whnf);refine pbr_f g241 ?_;(conv=>whnf);cases h240;exact ⟨(.cons rfl (.cons rfl (.cons rfl (.cons rfl (.cons rfl (.cons rfl (.cons rfl .nil))))))), rfl⟩
                        · refine po_all ?_;(conv=>whnf);refine pbr_oite h236 (fun g242 h236 => ?_) (fun g242 h236 => ?_)
                          · (conv=>whnf);refine pbr_t g242 ?_;(conv=>whnf);refine pbr_t g242 ?_;(conv=>whnf);refine pbr_t g242 ?_;(conv=>whnf);cases h236;exact ⟨(.cons rfl (.cons rfl (.cons rfl (.cons rfl (.cons rfl (.cons rfl .nil)))))), rfl⟩
                          · (conv=>whnf);refine pbr_f g242 ?_;(conv=>whnf);refine pbr_f g242 ?_;(conv=>whnf);refine pbr_f g242 ?_;(conv=>whnf);cases h236;exact ⟨(.cons rfl (.cons rfl (.cons rfl (.cons rfl (.cons rfl (.cons rfl .nil)))))), rfl⟩
                      · refine pw_cond ?_;(conv=>whnf);refine pbr_oite h191 (fun g243 h191 => ?_) (fun g243 h191 => ?_)
                        · (conv=>whnf);refine pw_so ?_;refine po_all ?_;(conv=>whnf);refine pw_ret ?_;(conv=>whnf);cases h191;obtain rfl := h193 _ rfl; rfl
                        · (conv=>whnf);refine pw_skip ?_;(conv=>whnf);refine pw_ops ?_;refine po_all ?_;(conv=>whnf);refine pw_ops ?_;refine po_all ?_;(conv=>whnf);refine ⟨_, .refl, Nat.le_of_ble_eq_true rfl, ?_⟩;(conv=>whnf);refine pw_seq ?_;refine pw_so ?_;refine po_all ?_;(conv=>whnf);refine pw_cond ?_;(conv=>whnf);refine pw_skip ?_;(conv=>whnf);refine pw_seq ?_;refine pw_block ?_;refine pw_sd ?_;(conv=>whnf);refine ⟨?_, trivial⟩;(conv=>whnf);obtain ⟨y244, h245, h191⟩ := obnd_some h191;refine (c309 h245).go ?_;(conv=>whnf);refine ⟨by repeat (first | exact trivial | refine And.intro rfl ?_), ?_⟩;(conv=>whnf);refine ⟨?_, trivial⟩
                          (conv=>whnf);obtain ⟨y246, h247, h191⟩ := obnd_some h191;refine (c310 h247).go ?_;(conv=>whnf);refine ⟨by repeat (first | exact trivial | refine And.intro rfl ?_), ?_⟩;(conv=>whnf);refine ⟨?_, trivial⟩;(conv=>whnf);obtain ⟨y248, h249, h191⟩ := obnd_some h191;refine (c314 h249).go ?_;(conv=>whnf);refine ⟨by repeat (first | exact trivial | refine And.intro rfl ?_), ?_⟩;(conv=>whnf);refine pw_seq ?_;refine pw_so ?_;refine po_all ?_;(conv=>whnf);refine pw_cond ?_;(conv=>whnf);refine pw_skip ?_;(conv=>whnf);refine pw_seq ?_;refine pw_so ?_;refine po_all ?_;(conv=>whnf);refine pw_cond ?_;(conv=>whnf);refine pbr_oite h191 (fun g250 h191 => ?_) (fun g250 h191 => ?_)
                          · (conv=>whnf);refine pw_so ?_;refine po_all ?_;(conv=>whnf);refine pw_ret ?_;(conv=>whnf);cases h191;obtain rfl := h193 _ rfl; rfl
                          · (conv=>whnf);refine pw_skip ?_;(conv=>whnf);refine pw_sd ?_;(conv=>whnf);refine ⟨?_, trivial⟩;(conv=>whnf);obtain ⟨y251, h252, h191⟩ := obnd_some h191;refine (c309 h252).go ?_;(conv=>whnf);refine ⟨by repeat (first | exact trivial | refine And.intro rfl ?_), ?_⟩;(conv=>whnf);refine ⟨?_, trivial⟩;(conv=>whnf);obtain ⟨y253, h254, h191⟩ := obnd_some h191;refine (c310 h254).go ?_;(conv=>whnf);refine ⟨by repeat (first | exact trivial | refine And.intro rfl ?_), ?_⟩;(conv=>whnf);refine ⟨?_, trivial⟩;(conv=>whnf);obtain ⟨y255, h256, h191⟩ := obnd_some h191;refine (c38 h256).go ?_;(conv=>whnf);refine ⟨by repeat (first | exact trivial | refine And.intro rfl ?_), ?_⟩
                            (conv=>whnf);refine ⟨?_, trivial⟩;(conv=>whnf);obtain ⟨y257, h258, h191⟩ := obnd_some h191;refine (c318 h258).go ?_;(conv=>whnf);refine ⟨by repeat (first | exact trivial | refine And.intro rfl ?_), ?_⟩;(conv=>whnf);refine pw_seq ?_;obtain ⟨r259, h260, h191⟩ := obnd_some h191;refine pw_join (ρ := Bool) (fun e => ⟨[(3, (.pointer (some ⟨0, 0, none⟩))), (4, (.pointer (some ⟨1, 0, none⟩))), (5, (.pointer (some ⟨2, 0, none⟩))), (19, (.int .i64 3)), (21, (.int .i64 y248.2.1)), (287, (.bool e))], ⟨3, [(2, .rw [(VS 1 (a7.map eI)), (.int .i64 a8)]), (1, .rw [(.int .i64 a3), (.int .i64 a4), (.int .i64 a5), (VS 3 (a6.map e_III))]), (0, .rw [(.int .i64 a0), (.int .i64 a1), (VS 4 (a2.map e_SIII))])], false⟩⟩) r259 ?_ ?_
                            · refine pw_ops ?_;refine po_ops 4 ?_;(conv=>whnf);obtain ⟨r263, h264, h260⟩ := obnd_some h260;refine po_seg (τ := Bool) 3 (fun e => ⟨[(3, (.pointer (some ⟨0, 0, none⟩))), (4, (.pointer (some ⟨1, 0, none⟩))), (5, (.pointer (some ⟨2, 0, none⟩))), (19, (.int .i64 3)), (21, (.int .i64 y248.2.1)), (26, (.int .i64 y257.1)), (282, (.bool e))], ⟨3, [(2, .rw [(VS 1 (a7.map eI)), (.int .i64 a8)]), (1, .rw [(.int .i64 a3), (.int .i64 a4), (.int .i64 a5), (VS 3 (a6.map e_III))]), (0, .rw [(.int .i64 a0), (.int .i64 a1), (VS 4 (a2.map e_SIII))])], false⟩⟩) r263 ?_ ?_
                              · refine po_all ?_;(conv=>whnf);refine pbr_oite h264 (fun g265 h264 => ?_) (fun g265 h264 => ?_)
                                · (conv=>whnf);refine pbr_t g265 ?_;(conv=>whnf);refine pbr_t g265 ?_;(conv=>whnf);cases h264;exact ⟨(.cons rfl (.cons rfl (.cons rfl (.cons rfl (.cons rfl (.cons rfl (.cons rfl .nil))))))), rfl⟩
                                · (conv=>whnf);refine pbr_f g265 ?_;(conv=>whnf);refine pbr_f g265 ?_;(conv=>whnf);cases h264;exact ⟨(.cons rfl (.cons rfl (.cons rfl (.cons rfl (.cons rfl (.cons rfl (.cons rfl .nil))))))), rfl⟩
                              · refine po_all ?_;(conv=>whnf);refine pbr_oite h260 (fun g266 h260 => ?_) (fun g266 h260 => ?_)
                                · (conv=>whnf);refine pbr_t g266 ?_;(conv=>whnf);refine pbr_t g266 ?_;(conv=>whnf);refine pbr_t g266 ?_;(conv=>whnf);cases h260;exact ⟨(.cons rfl (.cons rfl (.cons rfl (.cons rfl (.cons rfl (.cons rfl .nil)))))), rfl⟩
                                · (conv=>whnf);refine pbr_f g266 ?_;(conv=>whnf);refine pbr_f g266 ?_;(conv=>whnf);refine pbr_f g266 ?_;(conv=>whnf);cases h260;exact ⟨(.cons rfl (.cons rfl (.cons rfl (.cons rfl (.cons rfl (.cons rfl .nil)))))), rfl⟩
                            · refine pw_cond ?_;(conv=>whnf);refine pbr_oite h191 (fun g267 h191 => ?_) (fun g267 h191 => ?_)
                              · (conv=>whnf);refine pw_so ?_;refine po_all ?_;(conv=>whnf);refine pw_ret ?_;(conv=>whnf);cases h191;obtain rfl := h193 _ rfl; rfl
                              · (conv=>whnf);refine pw_skip ?_;(conv=>whnf);refine pw_ops ?_;refine po_all ?_;(conv=>whnf);refine pw_ops ?_;refine po_all ?_;(conv=>whnf);refine ⟨_, .refl, Nat.le_of_ble_eq_true rfl, ?_⟩;(conv=>whnf);refine pw_seq ?_;refine pw_so ?_;refine po_all ?_;(conv=>whnf);refine pw_cond ?_;(conv=>whnf);refine pw_skip ?_;(conv=>whnf);refine pw_seq ?_;refine pw_block ?_;refine pw_sd ?_;(conv=>whnf);refine ⟨?_, trivial⟩;(conv=>whnf);obtain ⟨y268, h269, h191⟩ := obnd_some h191;refine (c309 h269).go ?_;(conv=>whnf);refine ⟨by repeat (first | exact trivial | refine And.intro rfl ?_), ?_⟩;(conv=>whnf);refine ⟨?_, trivial⟩
                                (conv=>whnf);obtain ⟨y270, h271, h191⟩ := obnd_some h191;refine (c310 h271).go ?_;(conv=>whnf);refine ⟨by repeat (first | exact trivial | refine And.intro rfl ?_), ?_⟩;(conv=>whnf);refine ⟨?_, trivial⟩;(conv=>whnf);obtain ⟨y272, h273, h191⟩ := obnd_some h191;refine (c314 h273).go ?_;(conv=>whnf);refine ⟨by repeat (first | exact trivial | refine And.intro rfl ?_), ?_⟩;(conv=>whnf);refine pw_seq ?_;refine pw_so ?_;refine po_all ?_;(conv=>whnf);refine pw_cond ?_;(conv=>whnf);refine pw_skip ?_;(conv=>whnf);refine pw_seq ?_;refine pw_so ?_;refine po_all ?_;(conv=>whnf);refine pw_cond ?_;(conv=>whnf);refine pbr_oite h191 (fun g274 h191 => ?_) (fun g274 h191 => ?_)
                                · (conv=>whnf);refine pw_so ?_;refine po_all ?_;(conv=>whnf);refine pw_ret ?_;(conv=>whnf);cases h191;obtain rfl := h193 _ rfl; rfl
                                · (conv=>whnf);refine pw_skip ?_;(conv=>whnf);refine pw_sd ?_;(conv=>whnf);refine ⟨?_, trivial⟩;(conv=>whnf);obtain ⟨y275, h276, h191⟩ := obnd_some h191;refine (c309 h276).go ?_;(conv=>whnf);refine ⟨by repeat (first | exact trivial | refine And.intro rfl ?_), ?_⟩;(conv=>whnf);refine ⟨?_, trivial⟩;(conv=>whnf);obtain ⟨y277, h278, h191⟩ := obnd_some h191;refine (c310 h278).go ?_;(conv=>whnf);refine ⟨by repeat (first | exact trivial | refine And.intro rfl ?_), ?_⟩;(conv=>whnf);refine ⟨?_, trivial⟩;(conv=>whnf);obtain ⟨y279, h280, h191⟩ := obnd_some h191;refine (c38 h280).go ?_;(conv=>whnf);refine ⟨by repeat (first | exact trivial | refine And.intro rfl ?_), ?_⟩
                                  (conv=>whnf);refine ⟨?_, trivial⟩;(conv=>whnf);obtain ⟨y281, h282, h191⟩ := obnd_some h191;refine (c318 h282).go ?_;(conv=>whnf);refine ⟨by repeat (first | exact trivial | refine And.intro rfl ?_), ?_⟩;(conv=>whnf);refine pw_seq ?_;obtain ⟨r283, h284, h191⟩ := obnd_some h191;refine pw_join (ρ := Bool) (fun e => ⟨[(3, (.pointer (some ⟨0, 0, none⟩))), (4, (.pointer (some ⟨1, 0, none⟩))), (5, (.pointer (some ⟨2, 0, none⟩))), (19, (.int .i64 7)), (21, (.int .i64 y272.2.1)), (287, (.bool e))], ⟨3, [(2, .rw [(VS 1 (a7.map eI)), (.int .i64 a8)]), (1, .rw [(.int .i64 a3), (.int .i64 a4), (.int .i64 a5), (VS 3 (a6.map e_III))]), (0, .rw [(.int .i64 a0), (.int .i64 a1), (VS 4 (a2.map e_SIII))])], false⟩⟩) r283 ?_ ?_
                                  · refine pw_ops ?_;refine po_ops 4 ?_;(conv=>whnf);obtain ⟨r287, h288, h284⟩ := obnd_some h284;refine po_seg (τ := Bool) 3 (fun e => ⟨[(3, (.pointer (some ⟨0, 0, none⟩))), (4, (.pointer (some ⟨1, 0, none⟩))), (5, (.pointer (some ⟨2, 0, none⟩))), (19, (.int .i64 7)), (21, (.int .i64 y272.2.1)), (26, (.int .i64 y281.1)), (282, (.bool e))], ⟨3, [(2, .rw [(VS 1 (a7.map eI)), (.int .i64 a8)]), (1, .rw [(.int .i64 a3), (.int .i64 a4), (.int .i64 a5), (VS 3 (a6.map e_III))]), (0, .rw [(.int .i64 a0), (.int .i64 a1), (VS 4 (a2.map e_SIII))])], false⟩⟩) r287 ?_ ?_
                                    · refine po_all ?_;(conv=>whnf);refine pbr_oite h288 (fun g289 h288 => ?_) (fun g289 h288 => ?_)
                                      · (conv=>whnf);refine pbr_t g289 ?_;(conv=>whnf);refine pbr_t g289 ?_;(conv=>whnf);cases h288;exact ⟨(.cons rfl (.cons rfl (.cons rfl (.cons rfl (.cons rfl (.cons rfl (.cons rfl .nil))))))), rfl⟩
                                      · (conv=>whnf);refine pbr_f g289 ?_;(conv=>whnf);refine pbr_f g289 ?_;(conv=>whnf);cases h288;exact ⟨(.cons rfl (.cons rfl (.cons rfl (.cons rfl (.cons rfl (.cons rfl (.cons rfl .nil))))))), rfl⟩
                                    · refine po_all ?_;(conv=>whnf);refine pbr_oite h284 (fun g290 h284 => ?_) (fun g290 h284 => ?_)
                                      · (conv=>whnf);refine pbr_t g290 ?_;(conv=>whnf);refine pbr_t g290 ?_;(conv=>whnf);refine pbr_t g290 ?_;(conv=>whnf);cases h284;exact ⟨(.cons rfl (.cons rfl (.cons rfl (.cons rfl (.cons rfl (.cons rfl .nil)))))), rfl⟩
                                      · (conv=>whnf);refine pbr_f g290 ?_;(conv=>whnf);refine pbr_f g290 ?_;(conv=>whnf);refine pbr_f g290 ?_;(conv=>whnf);cases h284;exact ⟨(.cons rfl (.cons rfl (.cons rfl (.cons rfl (.cons rfl (.cons rfl .nil)))))), rfl⟩
                                  · refine pw_cond ?_;(conv=>whnf);refine pbr_oite h191 (fun g291 h191 => ?_) (fun g291 h191 => ?_)
                                    · (conv=>whnf);refine pw_so ?_;refine po_all ?_;(conv=>whnf);refine pw_ret ?_;(conv=>whnf);cases h191;obtain rfl := h193 _ rfl; rfl
                                    · (conv=>whnf);refine pw_skip ?_;(conv=>whnf);refine pw_ops ?_;refine po_all ?_;(conv=>whnf);refine pw_ops ?_;refine po_all ?_;(conv=>whnf);refine ⟨_, .refl, Nat.le_of_ble_eq_true rfl, ?_⟩;(conv=>whnf);refine pw_seq ?_;refine pw_so ?_;refine po_all ?_;(conv=>whnf);refine pw_cond ?_;(conv=>whnf);refine pw_exit ?_;(conv=>whnf);cases h191;exact ⟨_, rfl, ⟨.nil, rfl⟩⟩
              · intro r292 hr; have H := h192 _ hr;refine pw_so ?_;refine po_all ?_;(conv=>whnf);refine pw_ret ?_;(conv=>whnf);cases H; rfl

end Go.Proofs.YtmbekcealcjabaaGreat.AM
