/- Computations of functions, and that the functions do them (printed by tools/lift.py). Conditions: none. -/
import Derived.Test.YtacgibkgojnfeaaAmMan
namespace Go.Proofs.Ytacgibkgojnfeaa.AM
set_option linter.unusedSimpArgs false
set_option linter.unusedVariables false
open Go Go.RowKit
attribute [local irreducible] ICallV ICalls Recast rng
abbrev e_II (x : Int × Int) : Value := .agg ⟨[(.int .i64 x.1), (.int .i64 x.2)]⟩
instance {x : Int × Int} : Cl (e_II x) := inferInstanceAs (Cl (.agg ⟨[(.int .i64 x.1), (.int .i64 x.2)]⟩))

/-- guidevane/guidevanebase.Within -/
noncomputable def f15  (a0 : Int) (a1 : Int) (a2 : Int) : Option Bool :=
  obnd (
   oite ((ile a1 a0)) (
    some (ile a0 a2)
     ) (
    some false
     )
    ) fun (r1 : Bool) =>
  some r1
set_option maxHeartbeats 1000000 in
theorem c15  {a0 : Int} {a1 : Int} {a2 : Int} {x : Bool} (H : f15 a0 a1 a2 = some x) : ICalls E 15 [(.int .i64 a0), (.int .i64 a1), (.int .i64 a2)] AHeap.none fun v _ => v = (.bool x) := by
  refine icalls_fn (pfnw ?_); unfold f15 at H;(conv=>whnf);refine pw_so ?_;refine po_all ?_;(conv=>whnf);refine pw_so ?_;refine po_ops 4 ?_;(conv=>whnf);obtain ⟨r1, h2, H⟩ := obnd_some H;refine po_seg (τ := Bool) 4 (fun e => ⟨[(14, (.bool e))], ⟨0, [], false⟩⟩) r1 ?_ ?_
  · refine po_all ?_;(conv=>whnf);refine pbr_oite h2 (fun g3 h2 => ?_) (fun g3 h2 => ?_)
    · (conv=>whnf);refine pbr_t g3 ?_;(conv=>whnf);refine pbr_t g3 ?_;(conv=>whnf);refine pbr_t g3 ?_;(conv=>whnf);cases h2;exact ⟨(.cons rfl .nil), rfl⟩
    · (conv=>whnf);refine pbr_f g3 ?_;(conv=>whnf);refine pbr_f g3 ?_;(conv=>whnf);refine pbr_f g3 ?_;(conv=>whnf);cases h2;exact ⟨(.cons rfl .nil), rfl⟩
  · refine po_all ?_;(conv=>whnf);refine pw_ret ?_;(conv=>whnf);cases H; rfl

/-- guidevane/guidevaneref09.ReadingErr -/
noncomputable def f32  (a0 : Int) (a1 : Int) (a2 : Int) : Option Int :=
  obnd (
   obnd (f15 a0 (0 : Int) (36000 : Int)) fun (y5 : Bool) =>
   obnd (
    oite (!y5) (
     some true
      ) (
     obnd (f15 a1 (-50 : Int) (50 : Int)) fun (y10 : Bool) =>
     some (!y10)
      )
     ) fun (r7 : Bool) =>
   oite r7 (
    some true
     ) (
    obnd (f15 a2 (-2000 : Int) (2000 : Int)) fun (y13 : Bool) =>
    some (!y13)
     )
    ) fun (r1 : Bool) =>
  oite r1 (
   some (2 : Int)
    ) (
   some (0 : Int)
    )
set_option maxHeartbeats 1000000 in
theorem c32  {a0 : Int} {a1 : Int} {a2 : Int} {x : Int} (H : f32 a0 a1 a2 = some x) : ICalls E 32 [(.agg ⟨[(.int .i64 a0), (.int .i64 a1), (.int .i64 a2)]⟩)] AHeap.none fun v _ => v = (.int .i64 x) := by
  refine icalls_fn (pfnw ?_); unfold f32 at H;(conv=>whnf);refine pw_so ?_;refine po_all ?_;(conv=>whnf);refine pw_seq ?_;obtain ⟨r1, h2, H⟩ := obnd_some H;refine pw_join (ρ := Bool) (fun e => ⟨[(18, (.bool e))], ⟨1, [(0, .rw [(.int .i64 a0), (.int .i64 a1), (.int .i64 a2)])], false⟩⟩) r1 ?_ ?_
  · refine pw_ops ?_;refine po_ops 5 ?_;(conv=>whnf);obtain ⟨y5, h6, h2⟩ := obnd_some h2;refine (c15 h6).go ?_;(conv=>whnf);obtain ⟨r7, h8, h2⟩ := obnd_some h2;refine po_seg (τ := Bool) 5 (fun e => ⟨[(1, (.pointer (some ⟨0, 0, none⟩))), (12, (.bool e))], ⟨1, [(0, .rw [(.int .i64 a0), (.int .i64 a1), (.int .i64 a2)])], false⟩⟩) r7 ?_ ?_
    · refine po_all ?_;(conv=>whnf);refine pbr_oite h8 (fun g9 h8 => ?_) (fun g9 h8 => ?_)
      · (conv=>whnf);refine pbr_t g9 ?_;(conv=>whnf);refine pbr_t g9 ?_;(conv=>whnf);refine pbr_t g9 ?_;(conv=>whnf);refine pbr_t g9 ?_;(conv=>whnf);cases h8;exact ⟨(.cons rfl (.cons rfl .nil)), rfl⟩
      · (conv=>whnf);refine pbr_f g9 ?_;(conv=>whnf);refine pbr_f g9 ?_;(conv=>whnf);obtain ⟨y10, h11, h8⟩ := obnd_some h8;refine (c15 h11).go ?_;(conv=>whnf);refine pbr_f g9 ?_;(conv=>whnf);refine pbr_f g9 ?_;(conv=>whnf);cases h8;exact ⟨(.cons rfl (.cons rfl .nil)), rfl⟩
    · refine po_all ?_;(conv=>whnf);refine pbr_oite h2 (fun g12 h2 => ?_) (fun g12 h2 => ?_)
      · (conv=>whnf);refine pbr_t g12 ?_;(conv=>whnf);refine pbr_t g12 ?_;(conv=>whnf);refine pbr_t g12 ?_;(conv=>whnf);refine pbr_t g12 ?_;(conv=>whnf);cases h2;exact ⟨(.cons rfl .nil), rfl⟩
      · (conv=>whnf);refine pbr_f g12 ?_;(conv=>whnf);refine pbr_f g12 ?_;(conv=>whnf);obtain ⟨y13, h14, h2⟩ := obnd_some h2;refine (c15 h14).go ?_;(conv=>whnf);refine pbr_f g12 ?_;(conv=>whnf);refine pbr_f g12 ?_;(conv=>whnf);cases h2;exact ⟨(.cons rfl .nil), rfl⟩
  · refine pw_cond ?_;(conv=>whnf);refine pbr_oite H (fun g15 H => ?_) (fun g15 H => ?_)
    · (conv=>whnf);refine pw_so ?_;refine po_all ?_;(conv=>whnf);refine pw_ret ?_;(conv=>whnf);cases H; rfl
    · (conv=>whnf);refine pw_skip ?_;(conv=>whnf);refine pw_so ?_;refine po_all ?_;(conv=>whnf);refine pw_ret ?_;(conv=>whnf);cases H; rfl

/-- guidevane/guidevaneref09.ReadingsErr -/
noncomputable def f51 [LO]  (a0 : List (Int × Int × Int)) : Option Int :=
  oite ((ieq ((a0.map e_III).length : Int) (0 : Int))) (
   some (10 : Int)
    ) (
   oite ((ilt (12 : Int) ((a0.map e_III).length : Int))) (
    some (8 : Int)
     ) (
    obndS (
     oloop (τ := Int) (ρ := (Unit) ⊕ Int) (fun e7 =>
      oite ((ilt e7 ((a0.map e_III).length : Int))) (
       ogrd ((ile 0 e7)) (
       obnd (a0[e7.toNat]?) fun (x12 : Int × Int × Int) =>
       obnd (f32 x12.1 x12.2.1 x12.2.2) fun (y13 : Int) =>
       oite ((!(ieq y13 (0 : Int)))) (
        some (.inr (.inr (y13)))
         ) (
        some (.inl (IntKind.i64.wrap (e7 + (1 : Int))))
         )
       )
        ) (
       some (.inr (.inl ()))
        )
       ) (0 : Int)
      ) fun (_ : Unit) =>
    some (0 : Int)
     )
    )
set_option maxHeartbeats 1000000 in
theorem c51 [LO]  {a0 : List (Int × Int × Int)} {x : Int} (H : f51 a0 = some x) : ICalls E 51 [(VS 3 (a0.map e_III))] AHeap.none fun v _ => v = (.int .i64 x) := by
  refine icalls_fn (pfnw ?_); unfold f51 at H;(conv=>whnf);refine pw_so ?_;refine po_all ?_;(conv=>whnf);refine pw_seq ?_;refine pw_so ?_;refine po_all ?_;(conv=>whnf);refine pw_cond ?_;(conv=>whnf);refine pbr_oite H (fun g1 H => ?_) (fun g1 H => ?_)
  · (conv=>whnf);refine pw_so ?_;refine po_all ?_;(conv=>whnf);refine pw_ret ?_;(conv=>whnf);cases H; rfl
  · (conv=>whnf);refine pw_skip ?_;(conv=>whnf);refine pw_seq ?_;refine pw_so ?_;refine po_all ?_;(conv=>whnf);refine pw_cond ?_;(conv=>whnf);refine pbr_oite H (fun g2 H => ?_) (fun g2 H => ?_)
    · (conv=>whnf);refine pw_so ?_;refine po_all ?_;(conv=>whnf);refine pw_ret ?_;(conv=>whnf);cases H; rfl
    · (conv=>whnf);refine pw_skip ?_;(conv=>whnf);obtain ⟨r3, h4, h5, h6⟩ := obndS_some H;refine pw_joinS (ρ := Unit) (fun e => ⟨[], ⟨0, [], false⟩⟩) r3 ?_ ?_
      · refine pw_so ?_;refine po_all ?_;(conv=>whnf);refine pw_block ?_;refine pw_loop (τ := Int) (fun e => ⟨[(0, (VS 3 (a0.map e_III))), (3, (.int .i64 e))], ⟨0, [], false⟩⟩) h4 ?_ (fun _ => Nat.le_of_ble_eq_true rfl) ?_
        · exact .sub' (Nat.le_of_ble_eq_true rfl) (.cons rfl (.cons rfl .nil))
        · intro e7 x8 h9;refine pw_seq ?_;refine pw_so ?_;refine po_all ?_;(conv=>whnf);refine pw_cond ?_;(conv=>whnf);refine pbr_oite h9 (fun g10 h9 => ?_) (fun g10 h9 => ?_)
          · (conv=>whnf);refine pw_skip ?_;(conv=>whnf);refine pw_seq ?_;refine pw_block ?_;refine pw_so ?_;refine po_all ?_;(conv=>whnf);refine pbr_ogrd h9 (fun g11 h9 => ?_);(conv=>whnf);refine nth_o (l := a0) h9 (fun x12 _ h9 => ?_);(conv=>whnf);obtain ⟨y13, h14, h9⟩ := obnd_some h9;refine (c32 h14).go ?_;(conv=>whnf);refine pw_so ?_;refine po_all ?_;(conv=>whnf);refine pw_cond ?_;(conv=>whnf);refine pbr_oite h9 (fun g15 h9 => ?_) (fun g15 h9 => ?_)
            · (conv=>whnf);refine pw_so ?_;refine po_all ?_;(conv=>whnf);refine pw_ret ?_;(conv=>whnf);cases h9;refine ⟨_, rfl, ?_⟩; rintro rfl;(conv=>whnf);obtain rfl := h6 _ rfl; rfl
            · (conv=>whnf);refine pw_skip ?_;(conv=>whnf);refine pw_ops ?_;refine po_all ?_;(conv=>whnf);cases h9;refine ⟨_, rfl, ?_⟩;exact .sub' (Nat.le_of_ble_eq_true rfl) (.cons rfl (.cons rfl .nil))
          · (conv=>whnf);refine pw_exit ?_;(conv=>whnf);cases h9;refine ⟨_, rfl, ?_⟩; rintro rfl;(conv=>whnf);exact ⟨_, rfl, ⟨.nil, rfl⟩⟩
      · intro r18 hr; have H := h5 _ hr;refine pw_so ?_;refine po_all ?_;(conv=>whnf);refine pw_ret ?_;(conv=>whnf);cases H; rfl

/-- guidevane/guidevaneref09.TermsErr -/
noncomputable def f52  (a0 : Int) : Option Int :=
  obnd (f15 a0 (1 : Int) (31 : Int)) fun (y1 : Bool) =>
  oite (!y1) (
   some (2 : Int)
    ) (
   some (0 : Int)
    )
set_option maxHeartbeats 1000000 in
theorem c52  {a0 : Int} {x : Int} (H : f52 a0 = some x) : ICalls E 52 [(.int .i64 a0)] AHeap.none fun v _ => v = (.int .i64 x) := by
  refine icalls_fn (pfnw ?_); unfold f52 at H;(conv=>whnf);refine pw_so ?_;refine po_all ?_;(conv=>whnf);refine pw_seq ?_;refine pw_so ?_;refine po_all ?_;(conv=>whnf);obtain ⟨y1, h2, H⟩ := obnd_some H;refine (c15 h2).go ?_;(conv=>whnf);refine pw_cond ?_;(conv=>whnf);refine pbr_oite H (fun g3 H => ?_) (fun g3 H => ?_)
  · (conv=>whnf);refine pw_so ?_;refine po_all ?_;(conv=>whnf);refine pw_ret ?_;(conv=>whnf);cases H; rfl
  · (conv=>whnf);refine pw_skip ?_;(conv=>whnf);refine pw_so ?_;refine po_all ?_;(conv=>whnf);refine pw_ret ?_;(conv=>whnf);cases H; rfl

/-- guidevane/guidevaneref09.CopyReadings -/
noncomputable def f53  (a0 : List (Int × Int × Int)) : Option ((List (Int × Int × Int))) :=
  ogrd (fits 24 (([] : List (Int × Int × Int)).length + a0.length)) (
  some (([] : List (Int × Int × Int)) ++ a0)
  )
set_option maxHeartbeats 1000000 in
theorem c53  {a0 : List (Int × Int × Int)} {x : (List (Int × Int × Int))} (H : f53 a0 = some x) : ICalls E 53 [(VS 3 (a0.map e_III))] AHeap.none fun v _ => v = (VS 3 (x.map e_III)) := by
  refine ICalls.frz ?_;refine icalls_fn (pfnw ?_); unfold f53 at H;(conv=>whnf);refine pw_so ?_;refine po_all ?_;(conv=>whnf);refine pw_so ?_;refine po_all ?_;(conv=>whnf);refine app_o (l := ([] : List (Int × Int × Int))) (m := a0) (f := e_III) H (by rfl) (by rfl) (by rfl) (fun H => ?_);(conv=>whnf);refine pw_ret ?_;(conv=>whnf);cases H; show ∃ D, Fz _ D 0 (VT 3 _ 0) _;exact ⟨fun _ => false, .vtc⟩

/-- guidevane/guidevaneref09.Terms -/
noncomputable def f34  (a0 : Int) (a1 : Int) (_ : Int) : Option (Int × Int × Int × Int × Int) :=
  ogrd ((ile 0 (IntKind.i64.wrap ((a0.tmod (360 : Int)).tdiv (90 : Int))))) (
  obnd (([(1 : Int), (0 : Int), (-1 : Int), (0 : Int)] : List Int)[(IntKind.i64.wrap ((a0.tmod (360 : Int)).tdiv (90 : Int))).toNat]?) fun (x2 : Int) =>
  obnd (([(0 : Int), (1 : Int), (0 : Int), (-1 : Int)] : List Int)[(IntKind.i64.wrap ((a0.tmod (360 : Int)).tdiv (90 : Int))).toNat]?) fun (x4 : Int) =>
  some ((1 : Int), a1, x2, x4, (IntKind.i64.wrap (a0.tdiv (360 : Int))))
  )
set_option maxHeartbeats 1000000 in
theorem c34  {a0 : Int} {a1 : Int} {a2 : Int} {x : Int × Int × Int × Int × Int} (H : f34 a0 a1 a2 = some x) : ICalls E 34 [(.agg ⟨[(.int .i64 a0), (.int .i64 a1), (.int .i64 a2)]⟩)] AHeap.none fun v _ => v = (.agg ⟨[(.int .i64 x.1), (.int .i64 x.2.1), (.int .i64 x.2.2.1), (.int .i64 x.2.2.2.1), (.int .i64 x.2.2.2.2)]⟩) := by
  refine icalls_fn (pfnw ?_); unfold f34 at H;(conv=>whnf);refine pw_so ?_;refine po_all ?_;(conv=>whnf);refine pw_so ?_;refine po_all ?_;(conv=>whnf);refine pw_sd ?_;(conv=>whnf);refine ⟨?_, ?_⟩
  · (conv=>whnf);refine ⟨by repeat (first | exact trivial | refine And.intro rfl ?_), ?_⟩;(conv=>whnf);refine pbr_ogrd H (fun g1 H => ?_);(conv=>whnf);refine nth_o (l := ([(1 : Int), (0 : Int), (-1 : Int), (0 : Int)] : List Int)) H (fun x2 _ H => ?_);(conv=>whnf);refine ⟨?_, trivial⟩;(conv=>whnf);refine ⟨by repeat (first | exact trivial | refine And.intro rfl ?_), ?_⟩;(conv=>whnf);refine pbr_t g1 ?_;(conv=>whnf);refine nth_o (l := ([(0 : Int), (1 : Int), (0 : Int), (-1 : Int)] : List Int)) H (fun x4 _ H => ?_);(conv=>whnf);refine ⟨?_, trivial⟩;(conv=>whnf);refine ⟨by repeat (first | exact trivial | refine And.intro rfl ?_), ?_⟩
    (conv=>whnf);refine pw_ret ?_;(conv=>whnf);cases H; rfl
  · obtain ⟨g1, H⟩ := ogrd_some H;obtain ⟨x2, h3, H⟩ := obnd_some H;obtain ⟨x4, h5, H⟩ := obnd_some H;(conv=>whnf);refine ⟨?_, trivial⟩;(conv=>whnf);refine ⟨by repeat (first | exact trivial | refine And.intro rfl ?_), ?_⟩;(conv=>whnf);refine pbr_t g1 ?_;(conv=>whnf);refine nth_p (l := ([(0 : Int), (1 : Int), (0 : Int), (-1 : Int)] : List Int)) h5 ?_;(conv=>whnf);refine ⟨?_, trivial⟩;(conv=>whnf);refine ⟨by repeat (first | exact trivial | refine And.intro rfl ?_), ?_⟩;(conv=>whnf);refine pbr_t g1 ?_;(conv=>whnf);refine nth_p (l := ([(1 : Int), (0 : Int), (-1 : Int), (0 : Int)] : List Int)) h3 ?_;(conv=>whnf)
    refine ⟨?_, trivial⟩;(conv=>whnf);refine ⟨by repeat (first | exact trivial | refine And.intro rfl ?_), ?_⟩;(conv=>whnf);refine pw_ret ?_;(conv=>whnf);cases H; rfl

/-- guidevane/guidevanetop.damAdded -/
noncomputable def f54  (a0 : Int) (a1 : Int) (a2 : Int) (a3 : Int) (a4 : Int) (a5 : Int) (a6 : Int) (a7 : Int) (a8 : Int) : Option Int :=
  obnd (f34 a6 a7 a8) fun (y1 : Int × Int × Int × Int × Int) =>
  obnd (
   obnd (
    oite ((ieq (IntKind.i64.wrap (BitVec.ofInt (IntKind.bits .i64) (a0.fdiv (2 ^ (min (0 : Int).toNat (IntKind.bits .i64)))) &&& BitVec.ofInt (IntKind.bits .i64) (1 : Int)).toNat) (1 : Int))) (
     some (IntKind.i64.wrap ((0 : Int) + (IntKind.i64.wrap (a1 * y1.1))))
      ) (
     some (0 : Int)
      )
     ) fun (r7 : Int) =>
   obnd (
    oite ((ieq (IntKind.i64.wrap (BitVec.ofInt (IntKind.bits .i64) (a0.fdiv (2 ^ (min (1 : Int).toNat (IntKind.bits .i64)))) &&& BitVec.ofInt (IntKind.bits .i64) (1 : Int)).toNat) (1 : Int))) (
     some (IntKind.i64.wrap (r7 + (IntKind.i64.wrap (a2 * y1.2.1))))
      ) (
     some r7
      )
     ) fun (r12 : Int) =>
   obnd (
    oite ((ieq (IntKind.i64.wrap (BitVec.ofInt (IntKind.bits .i64) (a0.fdiv (2 ^ (min (2 : Int).toNat (IntKind.bits .i64)))) &&& BitVec.ofInt (IntKind.bits .i64) (1 : Int)).toNat) (1 : Int))) (
     some (IntKind.i64.wrap (r12 + (IntKind.i64.wrap (a3 * y1.2.2.1))))
      ) (
     some r12
      )
     ) fun (r17 : Int) =>
   obnd (
    oite ((ieq (IntKind.i64.wrap (BitVec.ofInt (IntKind.bits .i64) (a0.fdiv (2 ^ (min (3 : Int).toNat (IntKind.bits .i64)))) &&& BitVec.ofInt (IntKind.bits .i64) (1 : Int)).toNat) (1 : Int))) (
     some (IntKind.i64.wrap (r17 + (IntKind.i64.wrap (a4 * y1.2.2.2.1))))
      ) (
     some r17
      )
     ) fun (r22 : Int) =>
   obnd (
    oite ((ieq (IntKind.i64.wrap (BitVec.ofInt (IntKind.bits .i64) (a0.fdiv (2 ^ (min (4 : Int).toNat (IntKind.bits .i64)))) &&& BitVec.ofInt (IntKind.bits .i64) (1 : Int)).toNat) (1 : Int))) (
     some (IntKind.i64.wrap (r22 + (IntKind.i64.wrap (a5 * y1.2.2.2.2))))
      ) (
     some r22
      )
     ) fun (r27 : Int) =>
   some r27
    ) fun (r3 : Int) =>
  some r3
set_option maxHeartbeats 1000000 in
theorem c54  {a0 : Int} {a1 : Int} {a2 : Int} {a3 : Int} {a4 : Int} {a5 : Int} {a6 : Int} {a7 : Int} {a8 : Int} {x : Int} (H : f54 a0 a1 a2 a3 a4 a5 a6 a7 a8 = some x) : ICalls E 54 [(.agg ⟨[(.int .i64 a0), (.int .i64 a1), (.int .i64 a2), (.int .i64 a3), (.int .i64 a4), (.int .i64 a5)]⟩), (.agg ⟨[(.int .i64 a6), (.int .i64 a7), (.int .i64 a8)]⟩)] AHeap.none fun v _ => v = (.int .i64 x) := by
  refine icalls_fn (pfnw ?_); unfold f54 at H;(conv=>whnf);refine pw_so ?_;refine po_all ?_;(conv=>whnf);refine pw_so ?_;refine po_all ?_;(conv=>whnf);refine pw_so ?_;refine po_all ?_;(conv=>whnf);obtain ⟨y1, h2, H⟩ := obnd_some H;refine (c34 h2).go ?_;(conv=>whnf);obtain ⟨r3, h4, H⟩ := obnd_some H;refine pw_join (ρ := Int) (fun e => ⟨[(5, (.int .i64 e))], ⟨3, [(2, .rw [(.int .i64 y1.1), (.int .i64 y1.2.1), (.int .i64 y1.2.2.1), (.int .i64 y1.2.2.2.1), (.int .i64 y1.2.2.2.2)]), (1, .rw [(.int .i64 a6), (.int .i64 a7), (.int .i64 a8)]), (0, .rw [(.int .i64 a0), (.int .i64 a1), (.int .i64 a2), (.int .i64 a3), (.int .i64 a4), (.int .i64 a5)])], false⟩⟩) r3 ?_ ?_
  · refine pw_so ?_;refine po_all ?_;(conv=>whnf);refine pw_block ?_;refine pw_unroll 6 ?_;(conv=>whnf);refine pw_seq ?_;refine pw_so ?_;refine po_all ?_;(conv=>whnf);refine pw_cond ?_;(conv=>whnf);refine pw_skip ?_;(conv=>whnf);obtain ⟨r7, h8, h4⟩ := obnd_some h4;refine pw_join (ρ := Int) (fun e => ⟨[(2, (.pointer (some ⟨0, 0, none⟩))), (5, (.int .i64 e)), (6, (.pointer (some ⟨2, 0, none⟩))), (7, (.int .i64 0))], ⟨3, [(2, .rw [(.int .i64 y1.1), (.int .i64 y1.2.1), (.int .i64 y1.2.2.1), (.int .i64 y1.2.2.2.1), (.int .i64 y1.2.2.2.2)]), (1, .rw [(.int .i64 a6), (.int .i64 a7), (.int .i64 a8)]), (0, .rw [(.int .i64 a0), (.int .i64 a1), (.int .i64 a2), (.int .i64 a3), (.int .i64 a4), (.int .i64 a5)])], false⟩⟩) r7 ?_ ?_
    · refine pw_block ?_;refine pw_so ?_;refine po_all ?_;(conv=>whnf);refine pw_cond ?_;(conv=>whnf);refine pbr_oite h8 (fun g11 h8 => ?_) (fun g11 h8 => ?_)
      · (conv=>whnf);refine pw_draw ?_;(conv=>whnf);refine ⟨?_, trivial⟩;(conv=>whnf);refine ⟨by repeat (first | exact trivial | refine And.intro rfl ?_), ?_⟩;(conv=>whnf);cases h8;exact ⟨(.cons rfl (.cons rfl (.cons rfl (.cons rfl .nil)))), rfl⟩
      · (conv=>whnf);refine pw_skip ?_;(conv=>whnf);cases h8;exact ⟨(.cons rfl (.cons rfl (.cons rfl (.cons rfl .nil)))), rfl⟩
    · refine pw_ops ?_;refine po_all ?_;(conv=>whnf);refine ⟨_, .refl, Nat.le_of_ble_eq_true rfl, ?_⟩;(conv=>whnf);refine pw_seq ?_;refine pw_so ?_;refine po_all ?_;(conv=>whnf);refine pw_cond ?_;(conv=>whnf);refine pw_skip ?_;(conv=>whnf);obtain ⟨r12, h13, h4⟩ := obnd_some h4;refine pw_join (ρ := Int) (fun e => ⟨[(2, (.pointer (some ⟨0, 0, none⟩))), (5, (.int .i64 e)), (6, (.pointer (some ⟨2, 0, none⟩))), (7, (.int .i64 1))], ⟨3, [(2, .rw [(.int .i64 y1.1), (.int .i64 y1.2.1), (.int .i64 y1.2.2.1), (.int .i64 y1.2.2.2.1), (.int .i64 y1.2.2.2.2)]), (1, .rw [(.int .i64 a6), (.int .i64 a7), (.int .i64 a8)]), (0, .rw [(.int .i64 a0), (.int .i64 a1), (.int .i64 a2), (.int .i64 a3), (.int .i64 a4), (.int .i64 a5)])], false⟩⟩) r12 ?_ ?_
      · refine pw_block ?_;refine pw_so ?_;refine po_all ?_;(conv=>whnf);refine pw_cond ?_;(conv=>whnf);refine pbr_oite h13 (fun g16 h13 => ?_) (fun g16 h13 => ?_)
        · (conv=>whnf);refine pw_draw ?_;(conv=>whnf);refine ⟨?_, trivial⟩;(conv=>whnf);refine ⟨by repeat (first | exact trivial | refine And.intro rfl ?_), ?_⟩;(conv=>whnf);cases h13;exact ⟨(.cons rfl (.cons rfl (.cons rfl (.cons rfl .nil)))), rfl⟩
        · (conv=>whnf);refine pw_skip ?_;(conv=>whnf);cases h13;exact ⟨(.cons rfl (.cons rfl (.cons rfl (.cons rfl .nil)))), rfl⟩
      · refine pw_ops ?_;refine po_all ?_;(conv=>whnf);refine ⟨_, .refl, Nat.le_of_ble_eq_true rfl, ?_⟩;(conv=>whnf);refine pw_seq ?_;refine pw_so ?_;refine po_all ?_;(conv=>whnf);refine pw_cond ?_;(conv=>whnf);refine pw_skip ?_;(conv=>whnf);obtain ⟨r17, h18, h4⟩ := obnd_some h4;refine pw_join (ρ := Int) (fun e => ⟨[(2, (.pointer (some ⟨0, 0, none⟩))), (5, (.int .i64 e)), (6, (.pointer (some ⟨2, 0, none⟩))), (7, (.int .i64 2))], ⟨3, [(2, .rw [(.int .i64 y1.1), (.int .i64 y1.2.1), (.int .i64 y1.2.2.1), (.int .i64 y1.2.2.2.1), (.int .i64 y1.2.2.2.2)]), (1, .rw [(.int .i64 a6), (.int .i64 a7), (.int .i64 a8)]), (0, .rw [(.int .i64 a0), (.int .i64 a1), (.int .i64 a2), (.int .i64 a3), (.int .i64 a4), (.int .i64 a5)])], false⟩⟩) r17 ?_ ?_
        · refine pw_block ?_;refine pw_so ?_;refine po_all ?_;(conv=>whnf);refine pw_cond ?_;(conv=>whnf);refine pbr_oite h18 (fun g21 h18 => ?_) (fun g21 h18 => ?_)
          · (conv=>whnf);refine pw_draw ?_;(conv=>whnf);refine ⟨?_, trivial⟩;(conv=>whnf);refine ⟨by repeat (first | exact trivial | refine And.intro rfl ?_), ?_⟩;(conv=>whnf);cases h18;exact ⟨(.cons rfl (.cons rfl (.cons rfl (.cons rfl .nil)))), rfl⟩
          · (conv=>whnf);refine pw_skip ?_;(conv=>whnf);cases h18;exact ⟨(.cons rfl (.cons rfl (.cons rfl (.cons rfl .nil)))), rfl⟩
        · refine pw_ops ?_;refine po_all ?_;(conv=>whnf);refine ⟨_, .refl, Nat.le_of_ble_eq_true rfl, ?_⟩;(conv=>whnf);refine pw_seq ?_;refine pw_so ?_;refine po_all ?_;(conv=>whnf);refine pw_cond ?_;(conv=>whnf);refine pw_skip ?_;(conv=>whnf);obtain ⟨r22, h23, h4⟩ := obnd_some h4;refine pw_join (ρ := Int) (fun e => ⟨[(2, (.pointer (some ⟨0, 0, none⟩))), (5, (.int .i64 e)), (6, (.pointer (some ⟨2, 0, none⟩))), (7, (.int .i64 3))], ⟨3, [(2, .rw [(.int .i64 y1.1), (.int .i64 y1.2.1), (.int .i64 y1.2.2.1), (.int .i64 y1.2.2.2.1), (.int .i64 y1.2.2.2.2)]), (1, .rw [(.int .i64 a6), (.int .i64 a7), (.int .i64 a8)]), (0, .rw [(.int .i64 a0), (.int .i64 a1), (.int .i64 a2), (.int .i64 a3), (.int .i64 a4), (.int .i64 a5)])], false⟩⟩) r22 ?_ ?_
          · refine pw_block ?_;refine pw_so ?_;refine po_all ?_;(conv=>whnf);refine pw_cond ?_;(conv=>whnf);refine pbr_oite h23 (fun g26 h23 => ?_) (fun g26 h23 => ?_)
            · (conv=>whnf);refine pw_draw ?_;(conv=>whnf);refine ⟨?_, trivial⟩;(conv=>whnf);refine ⟨by repeat (first | exact trivial | refine And.intro rfl ?_), ?_⟩;(conv=>whnf);cases h23;exact ⟨(.cons rfl (.cons rfl (.cons rfl (.cons rfl .nil)))), rfl⟩
            · (conv=>whnf);refine pw_skip ?_;(conv=>whnf);cases h23;exact ⟨(.cons rfl (.cons rfl (.cons rfl (.cons rfl .nil)))), rfl⟩
          · refine pw_ops ?_;refine po_all ?_;(conv=>whnf);refine ⟨_, .refl, Nat.le_of_ble_eq_true rfl, ?_⟩;(conv=>whnf);refine pw_seq ?_;refine pw_so ?_;refine po_all ?_;(conv=>whnf);refine pw_cond ?_;(conv=>whnf);refine pw_skip ?_;(conv=>whnf);obtain ⟨r27, h28, h4⟩ := obnd_some h4;refine pw_join (ρ := Int) (fun e => ⟨[(2, (.pointer (some ⟨0, 0, none⟩))), (5, (.int .i64 e)), (6, (.pointer (some ⟨2, 0, none⟩))), (7, (.int .i64 4))], ⟨3, [(2, .rw [(.int .i64 y1.1), (.int .i64 y1.2.1), (.int .i64 y1.2.2.1), (.int .i64 y1.2.2.2.1), (.int .i64 y1.2.2.2.2)]), (1, .rw [(.int .i64 a6), (.int .i64 a7), (.int .i64 a8)]), (0, .rw [(.int .i64 a0), (.int .i64 a1), (.int .i64 a2), (.int .i64 a3), (.int .i64 a4), (.int .i64 a5)])], false⟩⟩) r27 ?_ ?_
            · refine pw_block ?_;refine pw_so ?_;refine po_all ?_;(conv=>whnf);refine pw_cond ?_;(conv=>whnf);refine pbr_oite h28 (fun g31 h28 => ?_) (fun g31 h28 => ?_)
              · (conv=>whnf);refine pw_draw ?_;(conv=>whnf);refine ⟨?_, trivial⟩;(conv=>whnf);refine ⟨by repeat (first | exact trivial | refine And.intro rfl ?_), ?_⟩;(conv=>whnf);cases h28;exact ⟨(.cons rfl (.cons rfl (.cons rfl (.cons rfl .nil)))), rfl⟩
              · (conv=>whnf);refine pw_skip ?_;(conv=>whnf);cases h28;exact ⟨(.cons rfl (.cons rfl (.cons rfl (.cons rfl .nil)))), rfl⟩
            · refine pw_ops ?_;refine po_all ?_;(conv=>whnf);refine ⟨_, .refl, Nat.le_of_ble_eq_true rfl, ?_⟩;(conv=>whnf);refine pw_seq ?_;refine pw_so ?_;refine po_all ?_;(conv=>whnf);refine pw_cond ?_;(conv=>whnf);refine pw_exit ?_;(conv=>whnf);cases h4;exact ⟨(.cons rfl .nil), rfl⟩
  · refine pw_so ?_;refine po_all ?_;(conv=>whnf);refine pw_ret ?_;(conv=>whnf);cases H; rfl

/-- guidevane/dam.unless -/
noncomputable def f64  (a0 : Bool) (a1 : Int) : Option Int :=
  oite a0 (
   some (0 : Int)
    ) (
   some a1
    )
set_option maxHeartbeats 1000000 in
theorem c64  {a0 : Bool} {a1 : Int} {x : Int} (H : f64 a0 a1 = some x) : ICalls E 64 [(.bool a0), (.int .i64 a1)] AHeap.none fun v _ => v = (.int .i64 x) := by
  refine icalls_fn (pfnw ?_); unfold f64 at H;(conv=>whnf);refine pw_so ?_;refine po_all ?_;(conv=>whnf);refine pw_seq ?_;refine pw_so ?_;refine po_all ?_;(conv=>whnf);refine pw_cond ?_;(conv=>whnf);refine pbr_oite H (fun g1 H => ?_) (fun g1 H => ?_)
  · (conv=>whnf);refine pw_so ?_;refine po_all ?_;(conv=>whnf);refine pw_ret ?_;(conv=>whnf);cases H; rfl
  · (conv=>whnf);refine pw_skip ?_;(conv=>whnf);refine pw_so ?_;refine po_all ?_;(conv=>whnf);refine pw_ret ?_;(conv=>whnf);cases H; rfl

/-- guidevane/dam.first -/
noncomputable def f63 [LO]  (a0 : List Int) : Option Int :=
  obndS (
   oloop (τ := Int) (ρ := (Unit) ⊕ Int) (fun e5 =>
    oite ((ilt e5 ((a0.map eI).length : Int))) (
     ogrd ((ile 0 e5)) (
     obnd (a0[e5.toNat]?) fun (x10 : Int) =>
     oite ((!(ieq x10 (0 : Int)))) (
      some (.inr (.inr (x10)))
       ) (
      some (.inl (IntKind.i64.wrap (e5 + (1 : Int))))
       )
     )
      ) (
     some (.inr (.inl ()))
      )
     ) (0 : Int)
    ) fun (_ : Unit) =>
  some (0 : Int)
set_option maxHeartbeats 1000000 in
theorem c63 [LO]  {a0 : List Int} {x : Int} (H : f63 a0 = some x) : ICalls E 63 [(VS 1 (a0.map eI))] AHeap.none fun v _ => v = (.int .i64 x) := by
  refine icalls_fn (pfnw ?_); unfold f63 at H;(conv=>whnf);refine pw_so ?_;refine po_all ?_;(conv=>whnf);obtain ⟨r1, h2, h3, h4⟩ := obndS_some H;refine pw_joinS (ρ := Unit) (fun e => ⟨[], ⟨0, [], false⟩⟩) r1 ?_ ?_
  · refine pw_so ?_;refine po_all ?_;(conv=>whnf);refine pw_block ?_;refine pw_loop (τ := Int) (fun e => ⟨[(5, (VS 1 (a0.map eI))), (6, (.int .i64 ((a0.map eI).length : Int))), (7, (.int .i64 e))], ⟨0, [], false⟩⟩) h2 ?_ (fun _ => Nat.le_of_ble_eq_true rfl) ?_
    · exact .sub' (Nat.le_of_ble_eq_true rfl) (.cons rfl (.cons rfl (.cons rfl .nil)))
    · intro e5 x6 h7;refine pw_so ?_;refine po_all ?_;(conv=>whnf);refine pw_seq ?_;refine pw_cond ?_;(conv=>whnf);refine pbr_oite h7 (fun g8 h7 => ?_) (fun g8 h7 => ?_)
      · (conv=>whnf);refine pw_skip ?_;(conv=>whnf);refine pw_seq ?_;refine pw_block ?_;refine pw_so ?_;refine po_all ?_;(conv=>whnf);refine pbr_ogrd h7 (fun g9 h7 => ?_);(conv=>whnf);refine nth_o (l := a0) h7 (fun x10 _ h7 => ?_);(conv=>whnf);refine pw_so ?_;refine po_all ?_;(conv=>whnf);refine pw_cond ?_;(conv=>whnf);refine pbr_oite h7 (fun g11 h7 => ?_) (fun g11 h7 => ?_)
        · (conv=>whnf);refine pw_so ?_;refine po_all ?_;(conv=>whnf);refine pw_ret ?_;(conv=>whnf);cases h7;refine ⟨_, rfl, ?_⟩; rintro rfl;(conv=>whnf);obtain rfl := h4 _ rfl; rfl
        · (conv=>whnf);refine pw_skip ?_;(conv=>whnf);refine pw_ops ?_;refine po_all ?_;(conv=>whnf);cases h7;refine ⟨_, rfl, ?_⟩;exact .sub' (Nat.le_of_ble_eq_true rfl) (.cons rfl (.cons rfl (.cons rfl .nil)))
      · (conv=>whnf);refine pw_exit ?_;(conv=>whnf);cases h7;refine ⟨_, rfl, ?_⟩; rintro rfl;(conv=>whnf);exact ⟨_, rfl, ⟨.nil, rfl⟩⟩
  · intro r14 hr; have H := h3 _ hr;refine pw_so ?_;refine po_all ?_;(conv=>whnf);refine pw_ret ?_;(conv=>whnf);cases H; rfl

/-- guidevane/dam.within -/
noncomputable def f65  (a0 : Int) (a1 : Int) (a2 : Int) : Option Bool :=
  obnd (
   oite ((ile a1 a0)) (
    some (ile a0 a2)
     ) (
    some false
     )
    ) fun (r1 : Bool) =>
  some r1
set_option maxHeartbeats 1000000 in
theorem c65  {a0 : Int} {a1 : Int} {a2 : Int} {x : Bool} (H : f65 a0 a1 a2 = some x) : ICalls E 65 [(.int .i64 a0), (.int .i64 a1), (.int .i64 a2)] AHeap.none fun v _ => v = (.bool x) := by
  refine icalls_fn (pfnw ?_); unfold f65 at H;(conv=>whnf);refine pw_so ?_;refine po_all ?_;(conv=>whnf);refine pw_so ?_;refine po_ops 4 ?_;(conv=>whnf);obtain ⟨r1, h2, H⟩ := obnd_some H;refine po_seg (τ := Bool) 4 (fun e => ⟨[(14, (.bool e))], ⟨0, [], false⟩⟩) r1 ?_ ?_
  · refine po_all ?_;(conv=>whnf);refine pbr_oite h2 (fun g3 h2 => ?_) (fun g3 h2 => ?_)
    · (conv=>whnf);refine pbr_t g3 ?_;(conv=>whnf);refine pbr_t g3 ?_;(conv=>whnf);refine pbr_t g3 ?_;(conv=>whnf);cases h2;exact ⟨(.cons rfl .nil), rfl⟩
    · (conv=>whnf);refine pbr_f g3 ?_;(conv=>whnf);refine pbr_f g3 ?_;(conv=>whnf);refine pbr_f g3 ?_;(conv=>whnf);cases h2;exact ⟨(.cons rfl .nil), rfl⟩
  · refine po_all ?_;(conv=>whnf);refine pw_ret ?_;(conv=>whnf);cases H; rfl

/-- guidevane/dam.isSized -/
noncomputable def f78  (a0 : Int) (a1 : Int) : Option Bool :=
  obnd (f65 a0 (IntKind.i64.wrap (0 - a1)) a1) fun (y1 : Bool) =>
  some y1
set_option maxHeartbeats 1000000 in
theorem c78  {a0 : Int} {a1 : Int} {x : Bool} (H : f78 a0 a1 = some x) : ICalls E 78 [(.int .i64 a0), (.int .i64 a1)] AHeap.none fun v _ => v = (.bool x) := by
  refine icalls_fn (pfnw ?_); unfold f78 at H;(conv=>whnf);refine pw_so ?_;refine po_all ?_;(conv=>whnf);refine pw_so ?_;refine po_all ?_;(conv=>whnf);obtain ⟨y1, h2, H⟩ := obnd_some H;refine (c65 h2).go ?_;(conv=>whnf);refine pw_ret ?_;(conv=>whnf);cases H; rfl

/-- guidevane/dam.CheckReading -/
noncomputable def f33  (a0 : Int) (a1 : Int) (a2 : Int) : Option Int :=
  obnd (f65 a0 (0 : Int) (36000 : Int)) fun (y1 : Bool) =>
  obnd (
   oite y1 (
    obnd (f78 a1 (50 : Int)) fun (y6 : Bool) =>
    some y6
     ) (
    some false
     )
    ) fun (r3 : Bool) =>
  obnd (
   oite r3 (
    obnd (f78 a2 (2000 : Int)) fun (y11 : Bool) =>
    some y11
     ) (
    some false
     )
    ) fun (r8 : Bool) =>
  obnd (f64 r8 (2 : Int)) fun (y13 : Int) =>
  some y13
set_option maxHeartbeats 1000000 in
theorem c33  {a0 : Int} {a1 : Int} {a2 : Int} {x : Int} (H : f33 a0 a1 a2 = some x) : ICalls E 33 [(.agg ⟨[(.int .i64 a0), (.int .i64 a1), (.int .i64 a2)]⟩)] AHeap.none fun v _ => v = (.int .i64 x) := by
  refine icalls_fn (pfnw ?_); unfold f33 at H;(conv=>whnf);refine pw_so ?_;refine po_all ?_;(conv=>whnf);refine pw_so ?_;refine po_ops 4 ?_;(conv=>whnf);obtain ⟨y1, h2, H⟩ := obnd_some H;refine (c65 h2).go ?_;(conv=>whnf);obtain ⟨r3, h4, H⟩ := obnd_some H;refine po_seg (τ := Bool) 4 (fun e => ⟨[(1, (.pointer (some ⟨0, 0, none⟩))), (10, (.bool e))], ⟨1, [(0, .rw [(.int .i64 a0), (.int .i64 a1), (.int .i64 a2)])], false⟩⟩) r3 ?_ ?_
  · refine po_all ?_;(conv=>whnf);refine pbr_oite h4 (fun g5 h4 => ?_) (fun g5 h4 => ?_)
    · (conv=>whnf);refine pbr_t g5 ?_;(conv=>whnf);refine pbr_t g5 ?_;(conv=>whnf);obtain ⟨y6, h7, h4⟩ := obnd_some h4;refine (c78 h7).go ?_;(conv=>whnf);refine pbr_t g5 ?_;(conv=>whnf);cases h4;exact ⟨(.cons rfl (.cons rfl .nil)), rfl⟩
    · (conv=>whnf);refine pbr_f g5 ?_;(conv=>whnf);refine pbr_f g5 ?_;(conv=>whnf);refine pbr_f g5 ?_;(conv=>whnf);cases h4;exact ⟨(.cons rfl (.cons rfl .nil)), rfl⟩
  · refine po_ops 1 ?_;(conv=>whnf);obtain ⟨r8, h9, H⟩ := obnd_some H;refine po_seg (τ := Bool) 4 (fun e => ⟨[(15, (.bool e))], ⟨1, [(0, .rw [(.int .i64 a0), (.int .i64 a1), (.int .i64 a2)])], false⟩⟩) r8 ?_ ?_
    · refine po_all ?_;(conv=>whnf);refine pbr_oite h9 (fun g10 h9 => ?_) (fun g10 h9 => ?_)
      · (conv=>whnf);refine pbr_t g10 ?_;(conv=>whnf);refine pbr_t g10 ?_;(conv=>whnf);obtain ⟨y11, h12, h9⟩ := obnd_some h9;refine (c78 h12).go ?_;(conv=>whnf);refine pbr_t g10 ?_;(conv=>whnf);cases h9;exact ⟨(.cons rfl .nil), rfl⟩
      · (conv=>whnf);refine pbr_f g10 ?_;(conv=>whnf);refine pbr_f g10 ?_;(conv=>whnf);refine pbr_f g10 ?_;(conv=>whnf);cases h9;exact ⟨(.cons rfl .nil), rfl⟩
    · refine po_all ?_;(conv=>whnf);obtain ⟨y13, h14, H⟩ := obnd_some H;refine (c64 h14).go ?_;(conv=>whnf);refine pw_ret ?_;(conv=>whnf);cases H; rfl

/-- guidevane/dam.readingsErr -/
noncomputable def f93 [LO]  (a0 : List (Int × Int × Int)) : Option Int :=
  obnd (f64 ((ilt (0 : Int) ((a0.map e_III).length : Int))) (10 : Int)) fun (y1 : Int) =>
  obnd (f64 ((ile ((a0.map e_III).length : Int) (12 : Int))) (8 : Int)) fun (y3 : Int) =>
  obnd (f63 ([y1, y3] : List Int)) fun (y5 : Int) =>
  obnd (
   oloop (τ := Int × Int) (ρ := Int) (fun e11 =>
    oite ((ilt e11.2 ((a0.map e_III).length : Int))) (
     oite ((ieq e11.1 (0 : Int))) (
      ogrd ((ile 0 e11.2)) (
      obnd (a0[e11.2.toNat]?) fun (x17 : Int × Int × Int) =>
      obnd (f33 x17.1 x17.2.1 x17.2.2) fun (y18 : Int) =>
      some (.inl (y18, (IntKind.i64.wrap (e11.2 + (1 : Int)))))
      )
       ) (
      some (.inr (e11.1))
       )
      ) (
     some (.inr (e11.1))
      )
     ) (y5, (0 : Int))
    ) fun (r7 : Int) =>
  some r7
set_option maxHeartbeats 1000000 in
theorem c93 [LO]  {a0 : List (Int × Int × Int)} {x : Int} (H : f93 a0 = some x) : ICalls E 93 [(VS 3 (a0.map e_III))] AHeap.none fun v _ => v = (.int .i64 x) := by
  refine icalls_fn (pfnw ?_); unfold f93 at H;(conv=>whnf);refine pw_so ?_;refine po_all ?_;(conv=>whnf);refine pw_so ?_;refine po_all ?_;(conv=>whnf);obtain ⟨y1, h2, H⟩ := obnd_some H;refine (c64 h2).go ?_;(conv=>whnf);obtain ⟨y3, h4, H⟩ := obnd_some H;refine (c64 h4).go ?_;(conv=>whnf);obtain ⟨y5, h6, H⟩ := obnd_some H;refine ICalls.goW (c63 h6) (.cons (.vt _ _ _) .nil) ?_;(conv=>whnf);obtain ⟨r7, h8, H⟩ := obnd_some H;refine pw_join (ρ := Int) (fun e => ⟨[(3, (.int .i64 e))], ⟨1, [(0, .tail 2 1)], false⟩⟩) r7 ?_ ?_
  · refine pw_so ?_;refine po_all ?_;(conv=>whnf);refine pw_block ?_;refine pw_loop (τ := Int × Int) (fun e => ⟨[(0, (VS 3 (a0.map e_III))), (3, (.int .i64 e.1)), (4, (.int .i64 e.2))], ⟨1, [(0, .tail 2 1)], false⟩⟩) h8 ?_ (fun _ => Nat.le_of_ble_eq_true rfl) ?_
    · exact .sub' (Nat.le_of_ble_eq_true rfl) (.cons rfl (.cons rfl (.cons rfl .nil)))
    · intro e11 x12 h13;refine pw_seq ?_;refine pw_so ?_;refine po_all ?_;(conv=>whnf);refine pbr_oite h13 (fun g14 h13 => ?_) (fun g14 h13 => ?_)
      · (conv=>whnf);refine pbr_t g14 ?_;(conv=>whnf);refine pbr_t g14 ?_;(conv=>whnf);refine pw_cond ?_;(conv=>whnf);refine pbr_oite h13 (fun g15 h13 => ?_) (fun g15 h13 => ?_)
        · (conv=>whnf);refine pw_skip ?_;(conv=>whnf);refine pw_seq ?_;refine pw_block ?_;refine pw_ops ?_;refine po_all ?_;(conv=>whnf);refine pbr_ogrd h13 (fun g16 h13 => ?_);(conv=>whnf);refine nth_o (l := a0) h13 (fun x17 _ h13 => ?_);(conv=>whnf);obtain ⟨y18, h19, h13⟩ := obnd_some h13;refine (c33 h19).go ?_;(conv=>whnf);refine pw_ops ?_;refine po_all ?_;(conv=>whnf);cases h13;refine ⟨_, rfl, ?_⟩;exact .sub' (Nat.le_of_ble_eq_true rfl) (.cons rfl (.cons rfl (.cons rfl .nil)))
        · (conv=>whnf);refine pw_exit ?_;(conv=>whnf);cases h13;refine ⟨_, rfl, ?_⟩; rintro rfl;(conv=>whnf);exact ⟨(.cons rfl .nil), rfl⟩
      · (conv=>whnf);refine pbr_f g14 ?_;(conv=>whnf);refine pbr_f g14 ?_;(conv=>whnf);refine pw_cond ?_;(conv=>whnf);refine pw_exit ?_;(conv=>whnf);cases h13;refine ⟨_, rfl, ?_⟩; rintro rfl;(conv=>whnf);exact ⟨(.cons rfl .nil), rfl⟩
  · refine pw_so ?_;refine po_all ?_;(conv=>whnf);refine pw_ret ?_;(conv=>whnf);cases H; rfl

/-- (guidevane/dam.model).err -/
noncomputable def f94  (a0 : Int) : Option Int :=
  obnd (f65 a0 (1 : Int) (31 : Int)) fun (y1 : Bool) =>
  obnd (f64 y1 (2 : Int)) fun (y3 : Int) =>
  some y3
set_option maxHeartbeats 1000000 in
theorem c94  {a0 : Int} {x : Int} (H : f94 a0 = some x) : ICalls E 94 [(.int .i64 a0)] AHeap.none fun v _ => v = (.int .i64 x) := by
  refine icalls_fn (pfnw ?_); unfold f94 at H;(conv=>whnf);refine pw_so ?_;refine po_all ?_;(conv=>whnf);refine pw_so ?_;refine po_all ?_;(conv=>whnf);obtain ⟨y1, h2, H⟩ := obnd_some H;refine (c65 h2).go ?_;(conv=>whnf);obtain ⟨y3, h4, H⟩ := obnd_some H;refine (c64 h4).go ?_;(conv=>whnf);refine pw_ret ?_;(conv=>whnf);cases H; rfl

/-- (guidevane/dam.model).has -/
noncomputable def f114  (a0 : Int) (a1 : Int) : Option Bool :=
  ogrd (!((ilt a1 0))) (
  some (ieq (IntKind.i64.wrap (BitVec.ofInt (IntKind.bits .i64) (a0.fdiv (2 ^ (min a1.toNat (IntKind.bits .i64)))) &&& BitVec.ofInt (IntKind.bits .i64) (1 : Int)).toNat) (1 : Int))
  )
set_option maxHeartbeats 1000000 in
theorem c114  {a0 : Int} {a1 : Int} {x : Bool} (H : f114 a0 a1 = some x) : ICalls E 114 [(.int .i64 a0), (.int .i64 a1)] AHeap.none fun v _ => v = (.bool x) := by
  refine icalls_fn (pfnw ?_); unfold f114 at H;(conv=>whnf);refine pw_so ?_;refine po_all ?_;(conv=>whnf);refine pw_so ?_;refine po_all ?_;(conv=>whnf);refine pbr_ogrdn H (fun g1 H => ?_);(conv=>whnf);refine pw_ret ?_;(conv=>whnf);cases H; rfl

/-- (guidevane/dam.model).chosen -/
noncomputable def f95 [LO]  (a0 : Int) : Option ((List Int)) :=
  obnd (
   oloop (τ := (List Int) × Int) (ρ := (List Int)) (fun e5 =>
    oite ((ilt e5.2 (5 : Int))) (
     obnd (f114 a0 e5.2) fun (y9 : Bool) =>
     oite y9 (
      ogrd (fits 8 (e5.1.length + ([e5.2] : List Int).length)) (
      some (.inl (((e5.1 ++ ([e5.2] : List Int)), (IntKind.i64.wrap (e5.2 + (1 : Int))))))
      )
       ) (
      some (.inl (e5.1, (IntKind.i64.wrap (e5.2 + (1 : Int)))))
       )
      ) (
     some (.inr (e5.1))
      )
     ) ((([] : List Int), (0 : Int)))
    ) fun (r1 : (List Int)) =>
  some r1
set_option maxHeartbeats 1000000 in
theorem c95 [LO]  {a0 : Int} {x : (List Int)} (H : f95 a0 = some x) : ICalls E 95 [(.int .i64 a0)] AHeap.none fun v _ => v = (VS 1 (x.map eI)) := by
  refine ICalls.frz ?_;refine icalls_fn (pfnw ?_); unfold f95 at H;(conv=>whnf);refine pw_so ?_;refine po_all ?_;(conv=>whnf);refine pw_so ?_;refine po_all ?_;(conv=>whnf);obtain ⟨r1, h2, H⟩ := obnd_some H;refine pw_join (ρ := (List Int)) (fun e => ⟨[(3, (VT 1 (e.map eI) 0))], ⟨1, [(0, .tail (e.map eI).length 1)], false⟩⟩) r1 ?_ ?_
  · refine pw_so ?_;refine po_all ?_;(conv=>whnf);refine pw_block ?_;refine pw_loop (τ := (List Int) × Int) (fun e => ⟨[(0, (.int .i64 a0)), (3, (VT 1 (e.1.map eI) 0)), (5, (.int .i64 e.2))], ⟨1, [(0, .tail (e.1.map eI).length 1)], false⟩⟩) h2 ?_ (fun _ => Nat.le_of_ble_eq_true rfl) ?_
    · exact (Recast.nilTs 1 (Nat.le_of_ble_eq_true rfl) (.same rfl (.turn rfl (.same rfl .nil))))
    · intro e5 x6 h7;refine pw_so ?_;refine po_all ?_;(conv=>whnf);refine pw_seq ?_;refine pw_cond ?_;(conv=>whnf);refine pbr_oite h7 (fun g8 h7 => ?_) (fun g8 h7 => ?_)
      · (conv=>whnf);refine pw_skip ?_;(conv=>whnf);refine pw_seq ?_;refine pw_block ?_;refine pw_so ?_;refine po_all ?_;(conv=>whnf);refine pw_so ?_;refine po_all ?_;(conv=>whnf);obtain ⟨y9, h10, h7⟩ := obnd_some h7;refine (c114 h10).go ?_;(conv=>whnf);refine pw_cond ?_;(conv=>whnf);refine pbr_oite h7 (fun g11 h7 => ?_) (fun g11 h7 => ?_)
        · (conv=>whnf);refine pw_ops ?_;refine po_all ?_;(conv=>whnf);refine app_o (l := e5.1) (m := ([e5.2] : List Int)) (f := eI) h7 (by rfl) (by rfl) (by rfl) (fun h7 => ?_);(conv=>whnf);refine pw_ops ?_;refine po_all ?_;(conv=>whnf);cases h7;refine ⟨_, rfl, ?_⟩;refine Recast.trunc (Nat.le_of_ble_eq_true rfl) ?_ ?_
          · repeat (first | exact .nil | refine .cons rfl (by first | exact OBnd.rwc (Nat.le_of_ble_eq_true rfl) rfl | exact OBnd.tail (Nat.le_of_ble_eq_true rfl) | trivial) ?_)
          · repeat (first | exact .nil | refine .cons rfl (by first | exact Bnd.ptr (Nat.le_of_ble_eq_true rfl) | exact Bnd.vt (Nat.le_of_ble_eq_true rfl) | exact Bnd.cl) ?_)
        · (conv=>whnf);refine pw_skip ?_;(conv=>whnf);refine pw_ops ?_;refine po_all ?_;(conv=>whnf);cases h7;refine ⟨_, rfl, ?_⟩;exact .sub' (Nat.le_of_ble_eq_true rfl) (.cons rfl (.cons rfl (.cons rfl .nil)))
      · (conv=>whnf);refine pw_exit ?_;(conv=>whnf);cases h7;refine ⟨_, rfl, ?_⟩; rintro rfl;(conv=>whnf);exact ⟨(.cons rfl .nil), rfl⟩
  · refine pw_so ?_;refine po_all ?_;(conv=>whnf);refine pw_ret ?_;(conv=>whnf);cases H; show ∃ D, Fz _ D 0 (VT 1 _ 0) _;exact ⟨fun _ => false, .vtc⟩

/-- guidevane/dam.terms -/
noncomputable def f77  (a0 : Int) (a1 : Int) (_ : Int) : Option (Int × Int × Int × Int × Int) :=
  ogrd ((ile 0 (IntKind.i64.wrap ((IntKind.i64.wrap ((a0.tmod (360 : Int)) * (4 : Int))).tdiv (360 : Int))))) (
  ogrd ((ilt (IntKind.i64.wrap ((IntKind.i64.wrap ((a0.tmod (360 : Int)) * (4 : Int))).tdiv (360 : Int))) 4)) (
  obnd (([((1 : Int), (0 : Int)), ((0 : Int), (1 : Int)), ((-1 : Int), (0 : Int)), ((0 : Int), (-1 : Int))] : List (Int × Int))[(IntKind.i64.wrap ((IntKind.i64.wrap ((a0.tmod (360 : Int)) * (4 : Int))).tdiv (360 : Int))).toNat]?) fun (x3 : Int × Int) =>
  some ((1 : Int), a1, x3.1, x3.2, (IntKind.i64.wrap (a0.tdiv (360 : Int))))
  )
  )
set_option maxHeartbeats 1000000 in
theorem c77  {a0 : Int} {a1 : Int} {a2 : Int} {x : Int × Int × Int × Int × Int} (H : f77 a0 a1 a2 = some x) : ICalls E 77 [(.agg ⟨[(.int .i64 a0), (.int .i64 a1), (.int .i64 a2)]⟩)] AHeap.none fun v _ => v = (.agg ⟨[(.int .i64 x.1), (.int .i64 x.2.1), (.int .i64 x.2.2.1), (.int .i64 x.2.2.2.1), (.int .i64 x.2.2.2.2)]⟩) := by
  refine icalls_fn (pfnw ?_); unfold f77 at H;(conv=>whnf);refine pw_so ?_;refine po_all ?_;(conv=>whnf);refine pw_so ?_;refine po_all ?_;(conv=>whnf);refine pbr_ogrd H (fun g1 H => ?_);(conv=>whnf);refine pbr_ogrd H (fun g2 H => ?_);(conv=>whnf);refine agg_o (l := ([((1 : Int), (0 : Int)), ((0 : Int), (1 : Int)), ((-1 : Int), (0 : Int)), ((0 : Int), (-1 : Int))] : List (Int × Int))) (f := (fun x => [(.int .i64 x.1), (.int .i64 x.2)])) H rfl (fun _ => rfl) (fun x3 _ H => ?_);(conv=>whnf);refine pw_so ?_;refine po_all ?_;(conv=>whnf);refine pw_ret ?_;(conv=>whnf);cases H; rfl

/-- guidevane/dam.size -/
noncomputable def f100  (a0 : Int) : Option Int :=
  some (imax a0 (IntKind.i64.wrap (0 - a0)))
set_option maxHeartbeats 1000000 in
theorem c100  {a0 : Int} {x : Int} (H : f100 a0 = some x) : ICalls E 100 [(.int .i64 a0)] AHeap.none fun v _ => v = (.int .i64 x) := by
  refine icalls_fn (pfnw ?_); unfold f100 at H;(conv=>whnf);refine pw_so ?_;refine po_all ?_;(conv=>whnf);refine pw_so ?_;refine po_all ?_;(conv=>whnf);refine pw_ret ?_;(conv=>whnf);cases H; rfl

/-- guidevane/dam.divisor -/
noncomputable def f97 [LO]  (a0 : Int) (a1 : Int) (a2 : Int) (a3 : Int) (a4 : Int) (a5 : Int) : Option Int :=
  obnd (
   obnd (
    oloop (τ := Int × Int) (ρ := Int) (fun e9 =>
     oite ((!(ieq e9.2 (0 : Int)))) (
      ogrd (!((ieq e9.2 0))) (
      some (.inl (e9.2, (e9.1.tmod e9.2)))
      )
       ) (
      some (.inr (e9.1))
       )
      ) (a0, a1)
     ) fun (r5 : Int) =>
   obnd (
    oloop (τ := Int × Int) (ρ := Int) (fun e19 =>
     oite ((!(ieq e19.2 (0 : Int)))) (
      ogrd (!((ieq e19.2 0))) (
      some (.inl (e19.2, (e19.1.tmod e19.2)))
      )
       ) (
      some (.inr (e19.1))
       )
      ) (r5, a2)
     ) fun (r15 : Int) =>
   obnd (
    oloop (τ := Int × Int) (ρ := Int) (fun e29 =>
     oite ((!(ieq e29.2 (0 : Int)))) (
      ogrd (!((ieq e29.2 0))) (
      some (.inl (e29.2, (e29.1.tmod e29.2)))
      )
       ) (
      some (.inr (e29.1))
       )
      ) (r15, a3)
     ) fun (r25 : Int) =>
   obnd (
    oloop (τ := Int × Int) (ρ := Int) (fun e39 =>
     oite ((!(ieq e39.2 (0 : Int)))) (
      ogrd (!((ieq e39.2 0))) (
      some (.inl (e39.2, (e39.1.tmod e39.2)))
      )
       ) (
      some (.inr (e39.1))
       )
      ) (r25, a4)
     ) fun (r35 : Int) =>
   obnd (
    oloop (τ := Int × Int) (ρ := Int) (fun e49 =>
     oite ((!(ieq e49.2 (0 : Int)))) (
      ogrd (!((ieq e49.2 0))) (
      some (.inl (e49.2, (e49.1.tmod e49.2)))
      )
       ) (
      some (.inr (e49.1))
       )
      ) (r35, a5)
     ) fun (r45 : Int) =>
   some r45
    ) fun (r1 : Int) =>
  obnd (f100 r1) fun (y55 : Int) =>
  some y55
set_option maxHeartbeats 1000000 in
theorem c97 [LO]  {a0 : Int} {a1 : Int} {a2 : Int} {a3 : Int} {a4 : Int} {a5 : Int} {x : Int} (H : f97 a0 a1 a2 a3 a4 a5 = some x) : ICalls E 97 [(.agg ⟨[(.int .i64 a0), (.int .i64 a1), (.int .i64 a2), (.int .i64 a3), (.int .i64 a4), (.int .i64 a5)]⟩)] AHeap.none fun v _ => v = (.int .i64 x) := by
  refine icalls_fn (pfnw ?_); unfold f97 at H;(conv=>whnf);refine pw_so ?_;refine po_all ?_;(conv=>whnf);refine pw_so ?_;refine po_all ?_;(conv=>whnf);obtain ⟨r1, h2, H⟩ := obnd_some H;refine pw_join (ρ := Int) (fun e => ⟨[(3, (.int .i64 e))], ⟨1, [(0, .rw [(.int .i64 a0), (.int .i64 a1), (.int .i64 a2), (.int .i64 a3), (.int .i64 a4), (.int .i64 a5)])], false⟩⟩) r1 ?_ ?_
  · refine pw_so ?_;refine po_all ?_;(conv=>whnf);refine pw_block ?_;refine pw_unroll 6 ?_;(conv=>whnf);refine pw_so ?_;refine po_all ?_;(conv=>whnf);refine pw_seq ?_;refine pw_cond ?_;(conv=>whnf);refine pw_skip ?_;(conv=>whnf);obtain ⟨r5, h6, h2⟩ := obnd_some h2;refine pw_join (ρ := Int) (fun e => ⟨[(3, (.int .i64 e)), (9, (.agg ⟨[(.int .i64 a1), (.int .i64 a2), (.int .i64 a3), (.int .i64 a4), (.int .i64 a5)]⟩)), (10, (.int .i64 0))], ⟨1, [(0, .rw [(.int .i64 a0), (.int .i64 a1), (.int .i64 a2), (.int .i64 a3), (.int .i64 a4), (.int .i64 a5)])], false⟩⟩) r5 ?_ ?_
    · refine pw_block ?_;refine pw_so ?_;refine po_all ?_;(conv=>whnf);refine pw_block ?_;refine pw_loop (τ := Int × Int) (fun e => ⟨[(3, (.int .i64 e.1)), (5, (.int .i64 e.2)), (9, (.agg ⟨[(.int .i64 a1), (.int .i64 a2), (.int .i64 a3), (.int .i64 a4), (.int .i64 a5)]⟩)), (10, (.int .i64 0))], ⟨1, [(0, .rw [(.int .i64 a0), (.int .i64 a1), (.int .i64 a2), (.int .i64 a3), (.int .i64 a4), (.int .i64 a5)])], false⟩⟩) h6 ?_ (fun _ => Nat.le_of_ble_eq_true rfl) ?_
      · exact .sub' (Nat.le_of_ble_eq_true rfl) (.cons rfl (.cons rfl (.cons rfl (.cons rfl .nil))))
      · intro e9 x10 h11;refine pw_seq ?_;refine pw_so ?_;refine po_all ?_;(conv=>whnf);refine pw_cond ?_;(conv=>whnf);refine pbr_oite h11 (fun g12 h11 => ?_) (fun g12 h11 => ?_)
        · (conv=>whnf);refine pw_skip ?_;(conv=>whnf);refine pw_block ?_;refine pw_draw ?_;(conv=>whnf);refine pbr_ogrdn h11 (fun g13 h11 => ?_);(conv=>whnf);refine ⟨?_, trivial⟩;(conv=>whnf);refine ⟨by repeat (first | exact trivial | refine And.intro rfl ?_), ?_⟩;(conv=>whnf);refine ⟨?_, trivial⟩;(conv=>whnf);refine ⟨by repeat (first | exact trivial | refine And.intro rfl ?_), ?_⟩;(conv=>whnf);cases h11;refine ⟨_, rfl, ?_⟩;exact .sub' (Nat.le_of_ble_eq_true rfl) (.cons rfl (.cons rfl (.cons rfl (.cons rfl .nil))))
        · (conv=>whnf);refine pw_exit ?_;(conv=>whnf);cases h11;refine ⟨_, rfl, ?_⟩; rintro rfl;(conv=>whnf);exact ⟨(.cons rfl (.cons rfl (.cons rfl .nil))), rfl⟩
    · refine pw_ops ?_;refine po_all ?_;(conv=>whnf);refine ⟨_, .refl, Nat.le_of_ble_eq_true rfl, ?_⟩;(conv=>whnf);refine pw_so ?_;refine po_all ?_;(conv=>whnf);refine pw_seq ?_;refine pw_cond ?_;(conv=>whnf);refine pw_skip ?_;(conv=>whnf);obtain ⟨r15, h16, h2⟩ := obnd_some h2;refine pw_join (ρ := Int) (fun e => ⟨[(3, (.int .i64 e)), (9, (.agg ⟨[(.int .i64 a1), (.int .i64 a2), (.int .i64 a3), (.int .i64 a4), (.int .i64 a5)]⟩)), (10, (.int .i64 1))], ⟨1, [(0, .rw [(.int .i64 a0), (.int .i64 a1), (.int .i64 a2), (.int .i64 a3), (.int .i64 a4), (.int .i64 a5)])], false⟩⟩) r15 ?_ ?_
      · refine pw_block ?_;refine pw_so ?_;refine po_all ?_;(conv=>whnf);refine pw_block ?_;refine pw_loop (τ := Int × Int) (fun e => ⟨[(3, (.int .i64 e.1)), (5, (.int .i64 e.2)), (9, (.agg ⟨[(.int .i64 a1), (.int .i64 a2), (.int .i64 a3), (.int .i64 a4), (.int .i64 a5)]⟩)), (10, (.int .i64 1))], ⟨1, [(0, .rw [(.int .i64 a0), (.int .i64 a1), (.int .i64 a2), (.int .i64 a3), (.int .i64 a4), (.int .i64 a5)])], false⟩⟩) h16 ?_ (fun _ => Nat.le_of_ble_eq_true rfl) ?_
        · exact .sub' (Nat.le_of_ble_eq_true rfl) (.cons rfl (.cons rfl (.cons rfl (.cons rfl .nil))))
        · intro e19 x20 h21;refine pw_seq ?_;refine pw_so ?_;refine po_all ?_;(conv=>whnf);refine pw_cond ?_;(conv=>whnf);refine pbr_oite h21 (fun g22 h21 => ?_) (fun g22 h21 => ?_)
          · (conv=>whnf);refine pw_skip ?_;(conv=>whnf);refine pw_block ?_;refine pw_draw ?_;(conv=>whnf);refine pbr_ogrdn h21 (fun g23 h21 => ?_);(conv=>whnf);refine ⟨?_, trivial⟩;(conv=>whnf);refine ⟨by repeat (first | exact trivial | refine And.intro rfl ?_), ?_⟩;(conv=>whnf);refine ⟨?_, trivial⟩;(conv=>whnf);refine ⟨by repeat (first | exact trivial | refine And.intro rfl ?_), ?_⟩;(conv=>whnf);cases h21;refine ⟨_, rfl, ?_⟩;exact .sub' (Nat.le_of_ble_eq_true rfl) (.cons rfl (.cons rfl (.cons rfl (.cons rfl .nil))))
          · (conv=>whnf);refine pw_exit ?_;(conv=>whnf);cases h21;refine ⟨_, rfl, ?_⟩; rintro rfl;(conv=>whnf);exact ⟨(.cons rfl (.cons rfl (.cons rfl .nil))), rfl⟩
      · refine pw_ops ?_;refine po_all ?_;(conv=>whnf);refine ⟨_, .refl, Nat.le_of_ble_eq_true rfl, ?_⟩;(conv=>whnf);refine pw_so ?_;refine po_all ?_;(conv=>whnf);refine pw_seq ?_;refine pw_cond ?_;(conv=>whnf);refine pw_skip ?_;(conv=>whnf);obtain ⟨r25, h26, h2⟩ := obnd_some h2;refine pw_join (ρ := Int) (fun e => ⟨[(3, (.int .i64 e)), (9, (.agg ⟨[(.int .i64 a1), (.int .i64 a2), (.int .i64 a3), (.int .i64 a4), (.int .i64 a5)]⟩)), (10, (.int .i64 2))], ⟨1, [(0, .rw [(.int .i64 a0), (.int .i64 a1), (.int .i64 a2), (.int .i64 a3), (.int .i64 a4), (.int .i64 a5)])], false⟩⟩) r25 ?_ ?_
        · refine pw_block ?_;refine pw_so ?_;refine po_all ?_;(conv=>whnf);refine pw_block ?_;refine pw_loop (τ := Int × Int) (fun e => ⟨[(3, (.int .i64 e.1)), (5, (.int .i64 e.2)), (9, (.agg ⟨[(.int .i64 a1), (.int .i64 a2), (.int .i64 a3), (.int .i64 a4), (.int .i64 a5)]⟩)), (10, (.int .i64 2))], ⟨1, [(0, .rw [(.int .i64 a0), (.int .i64 a1), (.int .i64 a2), (.int .i64 a3), (.int .i64 a4), (.int .i64 a5)])], false⟩⟩) h26 ?_ (fun _ => Nat.le_of_ble_eq_true rfl) ?_
          · exact .sub' (Nat.le_of_ble_eq_true rfl) (.cons rfl (.cons rfl (.cons rfl (.cons rfl .nil))))
          · intro e29 x30 h31;refine pw_seq ?_;refine pw_so ?_;refine po_all ?_;(conv=>whnf);refine pw_cond ?_;(conv=>whnf);refine pbr_oite h31 (fun g32 h31 => ?_) (fun g32 h31 => ?_)
            · (conv=>whnf);refine pw_skip ?_;(conv=>whnf);refine pw_block ?_;refine pw_draw ?_;(conv=>whnf);refine pbr_ogrdn h31 (fun g33 h31 => ?_);(conv=>whnf);refine ⟨?_, trivial⟩;(conv=>whnf);refine ⟨by repeat (first | exact trivial | refine And.intro rfl ?_), ?_⟩;(conv=>whnf);refine ⟨?_, trivial⟩;(conv=>whnf);refine ⟨by repeat (first | exact trivial | refine And.intro rfl ?_), ?_⟩;(conv=>whnf);cases h31;refine ⟨_, rfl, ?_⟩;exact .sub' (Nat.le_of_ble_eq_true rfl) (.cons rfl (.cons rfl (.cons rfl (.cons rfl .nil))))
            · (conv=>whnf);refine pw_exit ?_;(conv=>whnf);cases h31;refine ⟨_, rfl, ?_⟩; rintro rfl;(conv=>whnf);exact ⟨(.cons rfl (.cons rfl (.cons rfl .nil))), rfl⟩
        · refine pw_ops ?_;refine po_all ?_;(conv=>whnf);refine ⟨_, .refl, Nat.le_of_ble_eq_true rfl, ?_⟩;(conv=>whnf);refine pw_so ?_;refine po_all ?_;(conv=>whnf);refine pw_seq ?_;refine pw_cond ?_;(conv=>whnf);refine pw_skip ?_;(conv=>whnf);obtain ⟨r35, h36, h2⟩ := obnd_some h2;refine pw_join (ρ := Int) (fun e => ⟨[(3, (.int .i64 e)), (9, (.agg ⟨[(.int .i64 a1), (.int .i64 a2), (.int .i64 a3), (.int .i64 a4), (.int .i64 a5)]⟩)), (10, (.int .i64 3))], ⟨1, [(0, .rw [(.int .i64 a0), (.int .i64 a1), (.int .i64 a2), (.int .i64 a3), (.int .i64 a4), (.int .i64 a5)])], false⟩⟩) r35 ?_ ?_
          · refine pw_block ?_;refine pw_so ?_;refine po_all ?_;(conv=>whnf);refine pw_block ?_;refine pw_loop (τ := Int × Int) (fun e => ⟨[(3, (.int .i64 e.1)), (5, (.int .i64 e.2)), (9, (.agg ⟨[(.int .i64 a1), (.int .i64 a2), (.int .i64 a3), (.int .i64 a4), (.int .i64 a5)]⟩)), (10, (.int .i64 3))], ⟨1, [(0, .rw [(.int .i64 a0), (.int .i64 a1), (.int .i64 a2), (.int .i64 a3), (.int .i64 a4), (.int .i64 a5)])], false⟩⟩) h36 ?_ (fun _ => Nat.le_of_ble_eq_true rfl) ?_
            · exact .sub' (Nat.le_of_ble_eq_true rfl) (.cons rfl (.cons rfl (.cons rfl (.cons rfl .nil))))
            · intro e39 x40 h41;refine pw_seq ?_;refine pw_so ?_;refine po_all ?_;(conv=>whnf);refine pw_cond ?_;(conv=>whnf);refine pbr_oite h41 (fun g42 h41 => ?_) (fun g42 h41 => ?_)
              · (conv=>whnf);refine pw_skip ?_;(conv=>whnf);refine pw_block ?_;refine pw_draw ?_;(conv=>whnf);refine pbr_ogrdn h41 (fun g43 h41 => ?_);(conv=>whnf);refine ⟨?_, trivial⟩;(conv=>whnf);refine ⟨by repeat (first | exact trivial | refine And.intro rfl ?_), ?_⟩;(conv=>whnf);refine ⟨?_, trivial⟩;(conv=>whnf);refine ⟨by repeat (first | exact trivial | refine And.intro rfl ?_), ?_⟩;(conv=>whnf);cases h41;refine ⟨_, rfl, ?_⟩;exact .sub' (Nat.le_of_ble_eq_true rfl) (.cons rfl (.cons rfl (.cons rfl (.cons rfl .nil))))
              · (conv=>whnf);refine pw_exit ?_;(conv=>whnf);cases h41;refine ⟨_, rfl, ?_⟩; rintro rfl;(conv=>whnf);exact ⟨(.cons rfl (.cons rfl (.cons rfl .nil))), rfl⟩
          · refine pw_ops ?_;refine po_all ?_;(conv=>whnf);refine ⟨_, .refl, Nat.le_of_ble_eq_true rfl, ?_⟩;(conv=>whnf);refine pw_so ?_;refine po_all ?_;(conv=>whnf);refine pw_seq ?_;refine pw_cond ?_;(conv=>whnf);refine pw_skip ?_;(conv=>whnf);obtain ⟨r45, h46, h2⟩ := obnd_some h2;refine pw_join (ρ := Int) (fun e => ⟨[(3, (.int .i64 e)), (9, (.agg ⟨[(.int .i64 a1), (.int .i64 a2), (.int .i64 a3), (.int .i64 a4), (.int .i64 a5)]⟩)), (10, (.int .i64 4))], ⟨1, [(0, .rw [(.int .i64 a0), (.int .i64 a1), (.int .i64 a2), (.int .i64 a3), (.int .i64 a4), (.int .i64 a5)])], false⟩⟩) r45 ?_ ?_
            · refine pw_block ?_;refine pw_so ?_;refine po_all ?_;(conv=>whnf);refine pw_block ?_;refine pw_loop (τ := Int × Int) (fun e => ⟨[(3, (.int .i64 e.1)), (5, (.int .i64 e.2)), (9, (.agg ⟨[(.int .i64 a1), (.int .i64 a2), (.int .i64 a3), (.int .i64 a4), (.int .i64 a5)]⟩)), (10, (.int .i64 4))], ⟨1, [(0, .rw [(.int .i64 a0), (.int .i64 a1), (.int .i64 a2), (.int .i64 a3), (.int .i64 a4), (.int .i64 a5)])], false⟩⟩) h46 ?_ (fun _ => Nat.le_of_ble_eq_true rfl) ?_
              · exact .sub' (Nat.le_of_ble_eq_true rfl) (.cons rfl (.cons rfl (.cons rfl (.cons rfl .nil))))
              · intro e49 x50 h51;refine pw_seq ?_;refine pw_so ?_;refine po_all ?_;(conv=>whnf);refine pw_cond ?_;(conv=>whnf);refine pbr_oite h51 (fun g52 h51 => ?_) (fun g52 h51 => ?_)
                · (conv=>whnf);refine pw_skip ?_;(conv=>whnf);refine pw_block ?_;refine pw_draw ?_;(conv=>whnf);refine pbr_ogrdn h51 (fun g53 h51 => ?_);(conv=>whnf);refine ⟨?_, trivial⟩;(conv=>whnf);refine ⟨by repeat (first | exact trivial | refine And.intro rfl ?_), ?_⟩;(conv=>whnf);refine ⟨?_, trivial⟩;(conv=>whnf);refine ⟨by repeat (first | exact trivial | refine And.intro rfl ?_), ?_⟩;(conv=>whnf);cases h51;refine ⟨_, rfl, ?_⟩;exact .sub' (Nat.le_of_ble_eq_true rfl) (.cons rfl (.cons rfl (.cons rfl (.cons rfl .nil))))
                · (conv=>whnf);refine pw_exit ?_;(conv=>whnf);cases h51;refine ⟨_, rfl, ?_⟩; rintro rfl;(conv=>whnf);exact ⟨(.cons rfl (.cons rfl (.cons rfl .nil))), rfl⟩
            · refine pw_ops ?_;refine po_all ?_;(conv=>whnf);refine ⟨_, .refl, Nat.le_of_ble_eq_true rfl, ?_⟩;(conv=>whnf);refine pw_so ?_;refine po_all ?_;(conv=>whnf);refine pw_seq ?_;refine pw_cond ?_;(conv=>whnf);refine pw_exit ?_;(conv=>whnf);cases h2;exact ⟨(.cons rfl .nil), rfl⟩
  · refine pw_so ?_;refine po_all ?_;(conv=>whnf);obtain ⟨y55, h56, H⟩ := obnd_some H;refine (c100 h56).go ?_;(conv=>whnf);refine pw_ret ?_;(conv=>whnf);cases H; rfl

/-- slices.IndexFunc[[]int,int] -/
noncomputable def f70 [LO] (p0 : Int → Option Bool) (a0 : List Int) : Option Int :=
  obndS (
   oloop (τ := Int) (ρ := (Unit) ⊕ Int) (fun e5 =>
    oite ((ilt e5 ((a0.map eI).length : Int))) (
     ogrd ((ile 0 e5)) (
     obnd (a0[e5.toNat]?) fun (x10 : Int) =>
     obnd (p0 x10) fun (y11 : Bool) =>
     oite y11 (
      some (.inr (.inr (e5)))
       ) (
      some (.inl (IntKind.i64.wrap (e5 + (1 : Int))))
       )
     )
      ) (
     some (.inr (.inl ()))
      )
     ) (0 : Int)
    ) fun (_ : Unit) =>
  some (-1 : Int)
set_option maxHeartbeats 1000000 in
theorem c70 [LO] {p0 : Int → Option Bool} {a0 : List Int} {g0 : Value} [Cl g0] (hp0 : ∀ y0 y, p0 y0 = some y → ICallV E g0 [(.int .i64 y0)] AHeap.none fun v _ => v = (.bool y)) {x : Int} (H : f70 p0 a0 = some x) : ICalls E 70 [(VS 1 (a0.map eI)), g0] AHeap.none fun v _ => v = (.int .i64 x) := by
  refine icalls_fn (pfnw ?_); unfold f70 at H;(conv=>whnf);refine pw_so ?_;refine po_all ?_;(conv=>whnf);obtain ⟨r1, h2, h3, h4⟩ := obndS_some H;refine pw_joinS (ρ := Unit) (fun e => ⟨[], ⟨0, [], false⟩⟩) r1 ?_ ?_
  · refine pw_so ?_;refine po_all ?_;(conv=>whnf);refine pw_block ?_;refine pw_loop (τ := Int) (fun e => ⟨[(0, (VS 1 (a0.map eI))), (1, g0), (7, (.int .i64 ((a0.map eI).length : Int))), (8, (.int .i64 e))], ⟨0, [], false⟩⟩) h2 ?_ (fun _ => Nat.le_of_ble_eq_true rfl) ?_
    · exact .sub' (Nat.le_of_ble_eq_true rfl) (.cons rfl (.cons rfl (.cons rfl (.cons rfl .nil))))
    · intro e5 x6 h7;refine pw_so ?_;refine po_all ?_;(conv=>whnf);refine pw_seq ?_;refine pw_cond ?_;(conv=>whnf);refine pbr_oite h7 (fun g8 h7 => ?_) (fun g8 h7 => ?_)
      · (conv=>whnf);refine pw_skip ?_;(conv=>whnf);refine pw_seq ?_;refine pw_block ?_;refine pw_so ?_;refine po_all ?_;(conv=>whnf);refine pw_so ?_;refine po_all ?_;(conv=>whnf);refine pbr_ogrd h7 (fun g9 h7 => ?_);(conv=>whnf);refine nth_o (l := a0) h7 (fun x10 _ h7 => ?_);(conv=>whnf);obtain ⟨y11, h12, h7⟩ := obnd_some h7;refine ICallV.go (hp0 _ _ h12) ?_;(conv=>whnf);refine pw_cond ?_;(conv=>whnf);refine pbr_oite h7 (fun g13 h7 => ?_) (fun g13 h7 => ?_)
        · (conv=>whnf);refine pw_so ?_;refine po_all ?_;(conv=>whnf);refine pw_ret ?_;(conv=>whnf);cases h7;refine ⟨_, rfl, ?_⟩; rintro rfl;(conv=>whnf);obtain rfl := h4 _ rfl; rfl
        · (conv=>whnf);refine pw_skip ?_;(conv=>whnf);refine pw_ops ?_;refine po_all ?_;(conv=>whnf);cases h7;refine ⟨_, rfl, ?_⟩;exact .sub' (Nat.le_of_ble_eq_true rfl) (.cons rfl (.cons rfl (.cons rfl (.cons rfl .nil))))
      · (conv=>whnf);refine pw_exit ?_;(conv=>whnf);cases h7;refine ⟨_, rfl, ?_⟩; rintro rfl;(conv=>whnf);exact ⟨_, rfl, ⟨.nil, rfl⟩⟩
  · intro r16 hr; have H := h3 _ hr;refine pw_so ?_;refine po_all ?_;(conv=>whnf);refine pw_ret ?_;(conv=>whnf);cases H; rfl

/-- slices.ContainsFunc[[]int,int] -/
noncomputable def f80 [LO] (p0 : Int → Option Bool) (a0 : List Int) : Option Bool :=
  obnd (f70 p0 a0) fun (y1 : Int) =>
  some (ile (0 : Int) y1)
set_option maxHeartbeats 1000000 in
theorem c80 [LO] {p0 : Int → Option Bool} {a0 : List Int} {g0 : Value} [Cl g0] (hp0 : ∀ y0 y, p0 y0 = some y → ICallV E g0 [(.int .i64 y0)] AHeap.none fun v _ => v = (.bool y)) {x : Bool} (H : f80 p0 a0 = some x) : ICalls E 80 [(VS 1 (a0.map eI)), g0] AHeap.none fun v _ => v = (.bool x) := by
  refine icalls_fn (pfnw ?_); unfold f80 at H;(conv=>whnf);refine pw_so ?_;refine po_all ?_;(conv=>whnf);refine pw_so ?_;refine po_all ?_;(conv=>whnf);obtain ⟨y1, h2, H⟩ := obnd_some H;refine (c70 hp0 h2).go ?_;(conv=>whnf);refine pw_ret ?_;(conv=>whnf);cases H; rfl

/-- guidevane/dam.fitErr$1 -/
noncomputable def f116  (a0 : Int) : Option Bool :=
  obnd (f78 a0 (1000000000000 : Int)) fun (y1 : Bool) =>
  some (!y1)
set_option maxHeartbeats 1000000 in
theorem c116  {a0 : Int} {x : Bool} (H : f116 a0 = some x) : ICalls E 116 [(.int .i64 a0)] AHeap.none fun v _ => v = (.bool x) := by
  refine icalls_fn (pfnw ?_); unfold f116 at H;(conv=>whnf);refine pw_so ?_;refine po_all ?_;(conv=>whnf);refine pw_so ?_;refine po_all ?_;(conv=>whnf);obtain ⟨y1, h2, H⟩ := obnd_some H;refine (c78 h2).go ?_;(conv=>whnf);refine pw_ret ?_;(conv=>whnf);cases H; rfl

/-- guidevane/dam.fitErr -/
noncomputable def f98 [LO]  (a0 : Int) (a1 : Int) (a2 : Int) (a3 : Int) (a4 : Int) (a5 : Int) : Option Int :=
  obnd (f80 (fun (z0 : Int) => f116 z0) ([a1, a2, a3, a4, a5] : List Int)) fun (y1 : Bool) =>
  obnd (f65 a0 (1 : Int) (1000000000000 : Int)) fun (y3 : Bool) =>
  obnd (
   oite y3 (
    some (!y1)
     ) (
    some false
     )
    ) fun (r5 : Bool) =>
  obnd (f64 r5 (2 : Int)) fun (y8 : Int) =>
  some y8
set_option maxHeartbeats 1000000 in
theorem c98 [LO]  {a0 : Int} {a1 : Int} {a2 : Int} {a3 : Int} {a4 : Int} {a5 : Int} {x : Int} (H : f98 a0 a1 a2 a3 a4 a5 = some x) : ICalls E 98 [(.agg ⟨[(.int .i64 a0), (.int .i64 a1), (.int .i64 a2), (.int .i64 a3), (.int .i64 a4), (.int .i64 a5)]⟩)] AHeap.none fun v _ => v = (.int .i64 x) := by
  refine icalls_fn (pfnw ?_); unfold f98 at H;(conv=>whnf);refine pw_so ?_;refine po_all ?_;(conv=>whnf);refine pw_so ?_;refine po_all ?_;(conv=>whnf);obtain ⟨y1, h2, H⟩ := obnd_some H;refine ICalls.goD (c80 (fun _ _ h => (c116 h).asV) h2) (.cons (.sl1 rfl rfl (Nat.le_of_ble_eq_true rfl) rfl (by intro v hv; replace hv : v ∈ ([(.int .i64 a1), (.int .i64 a2), (.int .i64 a3), (.int .i64 a4), (.int .i64 a5)] : List Value) := hv; simp only [List.mem_cons, List.not_mem_nil, or_false] at hv; rcases hv with rfl | rfl | rfl | rfl | rfl <;> rfl)) (.cons .cl .nil)) rfl ?_;(conv=>whnf);refine pw_so ?_;refine po_ops 4 ?_
  (conv=>whnf);obtain ⟨y3, h4, H⟩ := obnd_some H;refine (c65 h4).go ?_;(conv=>whnf);obtain ⟨r5, h6, H⟩ := obnd_some H;refine po_seg (τ := Bool) 3 (fun e => ⟨[(13, (.bool e))], ⟨1, [(0, .rw [(.int .i64 a0), (.int .i64 a1), (.int .i64 a2), (.int .i64 a3), (.int .i64 a4), (.int .i64 a5)])], false⟩⟩) r5 ?_ ?_
  · refine po_all ?_;(conv=>whnf);refine pbr_oite h6 (fun g7 h6 => ?_) (fun g7 h6 => ?_)
    · (conv=>whnf);refine pbr_t g7 ?_;(conv=>whnf);refine pbr_t g7 ?_;(conv=>whnf);cases h6;exact ⟨(.cons rfl .nil), rfl⟩
    · (conv=>whnf);refine pbr_f g7 ?_;(conv=>whnf);refine pbr_f g7 ?_;(conv=>whnf);cases h6;exact ⟨(.cons rfl .nil), rfl⟩
  · refine po_all ?_;(conv=>whnf);obtain ⟨y8, h9, H⟩ := obnd_some H;refine (c64 h9).go ?_;(conv=>whnf);refine pw_ret ?_;(conv=>whnf);cases H; rfl

/-- guidevane/dam.FitOf -/
noncomputable def f55 [LO]  (a0 : List (Int × Int × Int)) (a1 : Int) : Option (Int × Int × Int × Int × Int × Int × Int) :=
  obnd (f93 a0) fun (y1 : Int) =>
  obnd (f94 a1) fun (y3 : Int) =>
  obnd (f63 ([y1, y3] : List Int)) fun (y5 : Int) =>
  oite ((!(ieq y5 (0 : Int)))) (
   some ((0 : Int), (0 : Int), (0 : Int), (0 : Int), (0 : Int), (0 : Int), y5)
    ) (
   obnd (f95 a1) fun (y8 : (List Int)) =>
   obnd (
    ogrd (mfits 24 ((y8.map eI).length : Int) ((y8.map eI).length : Int)) (
    ogrd (mfits 8 ((y8.map eI).length : Int) ((y8.map eI).length : Int)) (
    some ()
    )
    )
     ) fun (_ : Unit) =>
   obnd (
    oloop (τ := Int × (List ((List Int))) × (List Int)) (ρ := (List ((List Int))) × (List Int)) (fun e20 =>
     oite ((ilt e20.1 ((y8.map eI).length : Int))) (
      obnd (
       ogrd ((ile 0 e20.1)) (
       obnd (y8[e20.1.toNat]?) fun (x29 : Int) =>
       ogrd (mfits 8 ((y8.map eI).length : Int) ((y8.map eI).length : Int)) (
       ogrd ((ilt e20.1 (((y8.map eI).length : Int).toNat : Int))) (
       ogrd (Nat.blt e20.1.toNat e20.2.1.length) (
       oloop (τ := Int × (List Int) × (List Int)) (ρ := (List Int) × (List Int)) (fun e33 =>
        oite ((ilt e33.1 ((a0.map e_III).length : Int))) (
         obnd (
          ogrd ((ile 0 e33.1)) (
          obnd (a0[e33.1.toNat]?) fun (x42 : Int × Int × Int) =>
          obnd (f77 x42.1 x42.2.1 x42.2.2) fun (y43 : Int × Int × Int × Int × Int) =>
          obnd (e33.2.1[e20.1.toNat]?) fun (x45 : Int) =>
          ogrd ((ile 0 x29)) (
          ogrd ((ilt x29 5)) (
          obnd (([y43.1, y43.2.1, y43.2.2.1, y43.2.2.2.1, y43.2.2.2.2] : List Int)[(0 + x29.toNat * 1)]?) fun (x50 : Int) =>
          ogrd (Nat.blt e20.1.toNat e33.2.1.length) (
          oloop (τ := Int × (List Int)) (ρ := Int × Int × Int × Int × Int × Int × Int × Int × (List Int) × (List Int)) (fun e52 =>
           oite ((ilt e52.1 ((y8.map eI).length : Int))) (
            ogrd ((ile 0 e52.1)) (
            obnd (y8[e52.1.toNat]?) fun (x57 : Int) =>
            ogrd ((ilt e52.1 (((y8.map eI).length : Int).toNat : Int))) (
            obnd (e52.2[e52.1.toNat]?) fun (x59 : Int) =>
            obnd (([y43.1, y43.2.1, y43.2.2.1, y43.2.2.2.1, y43.2.2.2.2] : List Int)[(0 + x29.toNat * 1)]?) fun (x62 : Int) =>
            ogrd ((ile 0 x57)) (
            ogrd ((ilt x57 5)) (
            obnd (([y43.1, y43.2.1, y43.2.2.1, y43.2.2.2.1, y43.2.2.2.2] : List Int)[(0 + x57.toNat * 1)]?) fun (x65 : Int) =>
            ogrd (Nat.blt e52.1.toNat e52.2.length) (
            some (.inl (((IntKind.i64.wrap (e52.1 + (1 : Int))), (e52.2.set e52.1.toNat (IntKind.i64.wrap (x59 + (IntKind.i64.wrap (x62 * x65))))))))
            )
            )
            )
            )
            )
             ) (
            some (.inr ((x42.1, x42.2.1, x42.2.2, y43.1, y43.2.1, y43.2.2.1, y43.2.2.2.1, y43.2.2.2.2, (e33.2.1.set e20.1.toNat (IntKind.i64.wrap (x45 + (IntKind.i64.wrap (x50 * x42.2.2))))), e52.2)))
             )
            ) ((0 : Int), e33.2.2)
          )
          )
          )
          )
           ) fun (r37 : Int × Int × Int × Int × Int × Int × Int × Int × (List Int) × (List Int)) =>
         some (.inl ((IntKind.i64.wrap (e33.1 + (1 : Int))), r37.2.2.2.2.2.2.2.2.1, r37.2.2.2.2.2.2.2.2.2))
          ) (
         some (.inr ((e33.2.1, e33.2.2)))
          )
         ) (((0 : Int), e20.2.2, (List.replicate ((y8.map eI).length : Int).toNat (0 : Int))))
       )
       )
       )
       )
        ) fun (r24 : (List Int) × (List Int)) =>
      ogrd (Nat.beq ((y8.map eI).length : Int).toNat r24.2.length) (
      some (.inl (((IntKind.i64.wrap (e20.1 + (1 : Int))), (e20.2.1.set e20.1.toNat r24.2), r24.1)))
      )
       ) (
      some (.inr ((e20.2.1, e20.2.2)))
       )
      ) (((0 : Int), (List.replicate ((y8.map eI).length : Int).toNat ([] : List Int)), (List.replicate ((y8.map eI).length : Int).toNat (0 : Int))))
     ) fun (r16 : (List ((List Int))) × (List Int)) =>
   ogrd (Nat.beq ((y8.map eI).length : Int).toNat r16.1.length) (
   obnd (f96 r16.1) fun (y72 : Int) =>
   oite ((ieq y72 (0 : Int))) (
    some ((0 : Int), (0 : Int), (0 : Int), (0 : Int), (0 : Int), (0 : Int), (12 : Int))
     ) (
    obnd (
     oloop (τ := Int × Int × Int × Int × Int × Int) (ρ := Int × Int × Int × Int × Int) (fun e79 =>
      oite ((ilt e79.1 ((y8.map eI).length : Int))) (
       ogrd ((ile 0 e79.1)) (
       obnd (y8[e79.1.toNat]?) fun (x84 : Int) =>
       ogrd (mfits 24 (((y8.map eI).length : Int).toNat : Int) (((y8.map eI).length : Int).toNat : Int)) (
       obnd (
        oloop (τ := Int × (List ((List Int)))) (ρ := (List ((List Int)))) (fun e90 =>
         oite ((ilt e90.1 (((y8.map eI).length : Int).toNat : Int))) (
          ogrd ((ile 0 e90.1)) (
          obnd (r16.1[e90.1.toNat]?) fun (x95 : (List Int)) =>
          obnd (f73 x95) fun (y98 : (List Int)) =>
          ogrd ((ilt e90.1 ((((y8.map eI).length : Int).toNat : Int).toNat : Int))) (
          ogrd (Nat.blt e90.1.toNat e90.2.length) (
          obnd (r16.2[e90.1.toNat]?) fun (x102 : Int) =>
          ogrd ((ilt e79.1 (y98.length : Int))) (
          ogrd (Nat.blt e79.1.toNat y98.length) (
          ogrd (Nat.beq y98.length (y98.set e79.1.toNat x102).length) (
          some (.inl (((IntKind.i64.wrap (e90.1 + (1 : Int))), (e90.2.set e90.1.toNat (y98.set e79.1.toNat x102)))))
          )
          )
          )
          )
          )
          )
           ) (
          some (.inr (e90.2))
           )
          ) (((0 : Int), (List.replicate (((y8.map eI).length : Int).toNat : Int).toNat ([] : List Int))))
         ) fun (r86 : (List ((List Int)))) =>
       ogrd (Nat.beq (((y8.map eI).length : Int).toNat : Int).toNat r86.length) (
       obnd (f96 r86) fun (y110 : Int) =>
       ogrd ((ile 0 x84)) (
       ogrd ((ilt x84 5)) (
       some (.inl (((IntKind.i64.wrap (e79.1 + (1 : Int))), (sel x84.toNat 0 y110 e79.2.1), (sel x84.toNat 1 y110 e79.2.2.1), (sel x84.toNat 2 y110 e79.2.2.2.1), (sel x84.toNat 3 y110 e79.2.2.2.2.1), (sel x84.toNat 4 y110 e79.2.2.2.2.2))))
       )
       )
       )
       )
       )
        ) (
       some (.inr ((e79.2.1, e79.2.2.1, e79.2.2.2.1, e79.2.2.2.2.1, e79.2.2.2.2.2)))
        )
       ) (((0 : Int), (0 : Int), (0 : Int), (0 : Int), (0 : Int), (0 : Int)))
      ) fun (r75 : Int × Int × Int × Int × Int) =>
    obnd (f97 y72 r75.1 r75.2.1 r75.2.2.1 r75.2.2.2.1 r75.2.2.2.2) fun (y115 : Int) =>
    ogrd (!((ieq y115 0))) (
    obnd (
     some ()
      ) fun (_ : Unit) =>
    obnd (f98 (IntKind.i64.wrap (y72.tdiv y115)) (IntKind.i64.wrap (r75.1.tdiv y115)) (IntKind.i64.wrap (r75.2.1.tdiv y115)) (IntKind.i64.wrap (r75.2.2.1.tdiv y115)) (IntKind.i64.wrap (r75.2.2.2.1.tdiv y115)) (IntKind.i64.wrap (r75.2.2.2.2.tdiv y115))) fun (y122 : Int) =>
    oite ((!(ieq y122 (0 : Int)))) (
     some ((0 : Int), (0 : Int), (0 : Int), (0 : Int), (0 : Int), (0 : Int), (8 : Int))
      ) (
     some ((IntKind.i64.wrap (y72.tdiv y115)), (IntKind.i64.wrap (r75.1.tdiv y115)), (IntKind.i64.wrap (r75.2.1.tdiv y115)), (IntKind.i64.wrap (r75.2.2.1.tdiv y115)), (IntKind.i64.wrap (r75.2.2.2.1.tdiv y115)), (IntKind.i64.wrap (r75.2.2.2.2.tdiv y115)), (0 : Int))
      )
    )
     )
   )
    )
set_option maxHeartbeats 1000000 in
theorem c55 [LO]  {a0 : List (Int × Int × Int)} {a1 : Int} {x : Int × Int × Int × Int × Int × Int × Int} (H : f55 a0 a1 = some x) : ICalls E 55 [(VS 3 (a0.map e_III)), (.int .i64 a1)] AHeap.none fun v _ => v = (.tuple ⟨[(.agg ⟨[(.int .i64 x.1), (.int .i64 x.2.1), (.int .i64 x.2.2.1), (.int .i64 x.2.2.2.1), (.int .i64 x.2.2.2.2.1), (.int .i64 x.2.2.2.2.2.1)]⟩), (.int .i64 x.2.2.2.2.2.2)]⟩) := by
  refine icalls_fn (pfnw ?_); unfold f55 at H;(conv=>whnf);refine pw_so ?_;refine po_all ?_;(conv=>whnf);refine pw_so ?_;refine po_all ?_;(conv=>whnf);refine pw_seq ?_;refine pw_so ?_;refine po_all ?_;(conv=>whnf);obtain ⟨y1, h2, H⟩ := obnd_some H;refine (c93 h2).go ?_;(conv=>whnf);obtain ⟨y3, h4, H⟩ := obnd_some H;refine (c94 h4).go ?_;(conv=>whnf);obtain ⟨y5, h6, H⟩ := obnd_some H;refine ICalls.goW (c63 h6) (.cons (.vt _ _ _) .nil) ?_;(conv=>whnf);refine pw_so ?_;refine po_all ?_;(conv=>whnf);refine pw_cond ?_;(conv=>whnf);refine pbr_oite H (fun g7 H => ?_) (fun g7 H => ?_)
  · (conv=>whnf);refine pw_so ?_;refine po_all ?_;(conv=>whnf);refine pw_ret ?_;(conv=>whnf);cases H; rfl
  · (conv=>whnf);refine pw_skip ?_;(conv=>whnf);refine pw_so ?_;refine po_all ?_;(conv=>whnf);obtain ⟨y8, h9, H⟩ := obnd_some H;refine (c95 h9).go ?_;(conv=>whnf);obtain ⟨r10, h11, H⟩ := obnd_some H;refine pw_joinR (ρ := Unit) (fun e => ⟨[(0, (VS 3 (a0.map e_III))), (4, (.pointer (some ⟨0, 0, none⟩))), (8, (VS 1 (y8.map eI))), (9, (.slice (some ⟨2, 0, none⟩) ((y8.map eI).length : Int).toNat 1)), (10, (.slice (some ⟨3, 0, none⟩) ((y8.map eI).length : Int).toNat 1))], ⟨4, [(3, .rw ((List.replicate ((y8.map eI).length : Int).toNat (0 : Int)).map eI)), (2, .rw ((List.replicate ((y8.map eI).length : Int).toNat ([] : List Int)).map e_L1I)), (1, .tail 2 1), (0, .rw [(.int .i64 0), (.int .i64 0), (.int .i64 0), (.int .i64 0), (.int .i64 0), (.int .i64 0)])], false⟩⟩) r10 ?_ ?_
    · refine pw_draw ?_;(conv=>whnf);refine ⟨?_, ?_⟩
      · (conv=>whnf);obtain ⟨g14, h11⟩ := ogrd_some h11;refine mk_n g14 ?_;(conv=>whnf);refine ⟨by repeat (first | exact trivial | refine And.intro rfl ?_), ?_⟩;(conv=>whnf);refine ⟨?_, trivial⟩;(conv=>whnf);obtain ⟨g15, h11⟩ := ogrd_some h11;refine mk_o (f := eI) (x := (0 : Int)) rfl g15 ?_;(conv=>whnf);refine ⟨by repeat (first | exact trivial | refine And.intro rfl ?_), ?_⟩;(conv=>whnf);cases h11;refine Recast.trans (Recast.nilrow (b := 2) (f := e_L1I) (x := ([] : List Int)) (l2 := [(3, .rw ((List.replicate ((y8.map eI).length : Int).toNat (0 : Int)).map eI)), (2, .rw ((List.replicate ((y8.map eI).length : Int).toNat ([] : List Int)).map e_L1I)), (1, .tail 2 1), (0, .rw [(.int .i64 0), (.int .i64 0), (.int .i64 0), (.int .i64 0), (.int .i64 0), (.int .i64 0)])]) rfl (Nat.le_of_ble_eq_true rfl) rfl rfl) ?_
        exact Recast.fz (fun _ => false) (Nat.le_of_ble_eq_true rfl) (.cons (.same rfl rfl (OBnd.rwc (Nat.le_of_ble_eq_true rfl) (oneL_map fun _ => rfl))) (.cons (.same rfl rfl (OBnd.rwc (Nat.le_of_ble_eq_true rfl) (oneL_map fun _ => rfl))) (.cons (.same rfl rfl (OBnd.tail (Nat.le_of_ble_eq_true rfl))) (.cons (.same rfl rfl (OBnd.rwl (Nat.le_of_ble_eq_true rfl) rfl (.cons .cl (.cons .cl (.cons .cl (.cons .cl (.cons .cl (.cons .cl .nil)))))))) .nil)))) (.cons rfl (.same _ .cl) (.cons rfl (.same _ (.ptr (Nat.le_of_ble_eq_true rfl))) (.cons rfl (.same _ .cl) (.cons rfl (.same _ (.slice (Nat.le_of_ble_eq_true rfl))) (.cons rfl (.same _ (.slice (Nat.le_of_ble_eq_true rfl))) .nil)))))
      · obtain ⟨g14, h11⟩ := ogrd_some h11;obtain ⟨g15, h11⟩ := ogrd_some h11;(conv=>whnf);refine ⟨?_, trivial⟩;(conv=>whnf);refine mk_o (f := eI) (x := (0 : Int)) rfl g15 ?_;(conv=>whnf);refine ⟨by repeat (first | exact trivial | refine And.intro rfl ?_), ?_⟩;(conv=>whnf);refine ⟨?_, trivial⟩;(conv=>whnf);refine mk_n g14 ?_;(conv=>whnf);refine ⟨by repeat (first | exact trivial | refine And.intro rfl ?_), ?_⟩;(conv=>whnf);cases h11;refine Recast.trans (Recast.nilrow (b := 3) (f := e_L1I) (x := ([] : List Int)) (l2 := [(3, .rw ((List.replicate ((y8.map eI).length : Int).toNat ([] : List Int)).map e_L1I)), (2, .rw ((List.replicate ((y8.map eI).length : Int).toNat (0 : Int)).map eI)), (1, .tail 2 1), (0, .rw [(.int .i64 0), (.int .i64 0), (.int .i64 0), (.int .i64 0), (.int .i64 0), (.int .i64 0)])]) rfl (Nat.le_of_ble_eq_true rfl) rfl rfl) ?_
        refine Recast.trans (s' := ⟨[(0, (VS 3 (a0.map e_III))), (4, (.pointer (some ⟨0, 0, none⟩))), (8, (VS 1 (y8.map eI))), (9, (.slice (some ⟨3, 0, none⟩) ((y8.map eI).length : Int).toNat 1)), (10, (.slice (some ⟨4, 0, none⟩) ((y8.map eI).length : Int).toNat 1))], ⟨5, [(3, .rw ((List.replicate ((y8.map eI).length : Int).toNat ([] : List Int)).map e_L1I)), (4, .rw ((List.replicate ((y8.map eI).length : Int).toNat (0 : Int)).map eI)), (1, .tail 2 1), (0, .rw [(.int .i64 0), (.int .i64 0), (.int .i64 0), (.int .i64 0), (.int .i64 0), (.int .i64 0)])], false⟩⟩) (Recast.mv 2 4 (Nat.le_of_ble_eq_true rfl) (Nat.le_of_ble_eq_true rfl) (.cons (.rw (Nat.ne_of_beq_eq_false rfl) (Nat.ne_of_beq_eq_false rfl) (Nat.le_of_ble_eq_true rfl) rfl (oneL_map fun _ => rfl) .cl) (.cons (.mv rfl (Nat.le_of_ble_eq_true rfl) rfl (oneL_map fun _ => rfl) .cl) (.cons (.tail (Nat.le_of_ble_eq_true rfl) rfl) (.cons (.rw (Nat.ne_of_beq_eq_false rfl) (Nat.ne_of_beq_eq_false rfl) (Nat.le_of_ble_eq_true rfl) rfl rfl (.of (.cons .cl (.cons .cl (.cons .cl (.cons .cl (.cons .cl (.cons .cl .nil)))))))) .nil)))) (.cons rfl .cl (.cons rfl (.ptr (Nat.ne_of_beq_eq_false rfl) (Nat.le_of_ble_eq_true rfl)) (.cons rfl .cl (.cons rfl (.slice (Nat.ne_of_beq_eq_false rfl) (Nat.le_of_ble_eq_true rfl)) (.cons rfl (.slicem (Nat.le_of_ble_eq_true rfl)) .nil)))))) ?_
        refine Recast.trans (s' := ⟨[(0, (VS 3 (a0.map e_III))), (4, (.pointer (some ⟨0, 0, none⟩))), (8, (VS 1 (y8.map eI))), (9, (.slice (some ⟨5, 0, none⟩) ((y8.map eI).length : Int).toNat 1)), (10, (.slice (some ⟨4, 0, none⟩) ((y8.map eI).length : Int).toNat 1))], ⟨6, [(5, .rw ((List.replicate ((y8.map eI).length : Int).toNat ([] : List Int)).map e_L1I)), (4, .rw ((List.replicate ((y8.map eI).length : Int).toNat (0 : Int)).map eI)), (1, .tail 2 1), (0, .rw [(.int .i64 0), (.int .i64 0), (.int .i64 0), (.int .i64 0), (.int .i64 0), (.int .i64 0)])], false⟩⟩) (Recast.mv 3 5 (Nat.le_of_ble_eq_true rfl) (Nat.le_of_ble_eq_true rfl) (.cons (.mv rfl (Nat.le_of_ble_eq_true rfl) rfl (oneL_map fun _ => rfl) .cl) (.cons (.rw (Nat.ne_of_beq_eq_false rfl) (Nat.ne_of_beq_eq_false rfl) (Nat.le_of_ble_eq_true rfl) rfl (oneL_map fun _ => rfl) .cl) (.cons (.tail (Nat.le_of_ble_eq_true rfl) rfl) (.cons (.rw (Nat.ne_of_beq_eq_false rfl) (Nat.ne_of_beq_eq_false rfl) (Nat.le_of_ble_eq_true rfl) rfl rfl (.of (.cons .cl (.cons .cl (.cons .cl (.cons .cl (.cons .cl (.cons .cl .nil)))))))) .nil)))) (.cons rfl .cl (.cons rfl (.ptr (Nat.ne_of_beq_eq_false rfl) (Nat.le_of_ble_eq_true rfl)) (.cons rfl .cl (.cons rfl (.slicem (Nat.le_of_ble_eq_true rfl)) (.cons rfl (.slice (Nat.ne_of_beq_eq_false rfl) (Nat.le_of_ble_eq_true rfl)) .nil)))))) ?_
        refine Recast.trans (s' := ⟨[(0, (VS 3 (a0.map e_III))), (4, (.pointer (some ⟨0, 0, none⟩))), (8, (VS 1 (y8.map eI))), (9, (.slice (some ⟨5, 0, none⟩) ((y8.map eI).length : Int).toNat 1)), (10, (.slice (some ⟨3, 0, none⟩) ((y8.map eI).length : Int).toNat 1))], ⟨6, [(5, .rw ((List.replicate ((y8.map eI).length : Int).toNat ([] : List Int)).map e_L1I)), (3, .rw ((List.replicate ((y8.map eI).length : Int).toNat (0 : Int)).map eI)), (1, .tail 2 1), (0, .rw [(.int .i64 0), (.int .i64 0), (.int .i64 0), (.int .i64 0), (.int .i64 0), (.int .i64 0)])], false⟩⟩) (Recast.mv 4 3 (Nat.le_of_ble_eq_true rfl) (Nat.le_of_ble_eq_true rfl) (.cons (.rw (Nat.ne_of_beq_eq_false rfl) (Nat.ne_of_beq_eq_false rfl) (Nat.le_of_ble_eq_true rfl) rfl (oneL_map fun _ => rfl) .cl) (.cons (.mv rfl (Nat.le_of_ble_eq_true rfl) rfl (oneL_map fun _ => rfl) .cl) (.cons (.tail (Nat.le_of_ble_eq_true rfl) rfl) (.cons (.rw (Nat.ne_of_beq_eq_false rfl) (Nat.ne_of_beq_eq_false rfl) (Nat.le_of_ble_eq_true rfl) rfl rfl (.of (.cons .cl (.cons .cl (.cons .cl (.cons .cl (.cons .cl (.cons .cl .nil)))))))) .nil)))) (.cons rfl .cl (.cons rfl (.ptr (Nat.ne_of_beq_eq_false rfl) (Nat.le_of_ble_eq_true rfl)) (.cons rfl .cl (.cons rfl (.slice (Nat.ne_of_beq_eq_false rfl) (Nat.le_of_ble_eq_true rfl)) (.cons rfl (.slicem (Nat.le_of_ble_eq_true rfl)) .nil)))))) ?_
        exact (Recast.mv 5 2 (Nat.le_of_ble_eq_true rfl) (Nat.le_of_ble_eq_true rfl) (.cons (.rw (Nat.ne_of_beq_eq_false rfl) (Nat.ne_of_beq_eq_false rfl) (Nat.le_of_ble_eq_true rfl) rfl (oneL_map fun _ => rfl) .cl) (.cons (.mv rfl (Nat.le_of_ble_eq_true rfl) rfl (oneL_map fun _ => rfl) .cl) (.cons (.tail (Nat.le_of_ble_eq_true rfl) rfl) (.cons (.rw (Nat.ne_of_beq_eq_false rfl) (Nat.ne_of_beq_eq_false rfl) (Nat.le_of_ble_eq_true rfl) rfl rfl (.of (.cons .cl (.cons .cl (.cons .cl (.cons .cl (.cons .cl (.cons .cl .nil)))))))) .nil)))) (.cons rfl .cl (.cons rfl (.ptr (Nat.ne_of_beq_eq_false rfl) (Nat.le_of_ble_eq_true rfl)) (.cons rfl .cl (.cons rfl (.slicem (Nat.le_of_ble_eq_true rfl)) (.cons rfl (.slice (Nat.ne_of_beq_eq_false rfl) (Nat.le_of_ble_eq_true rfl)) .nil))))))
    · obtain ⟨r16, h17, H⟩ := obnd_some H;refine pw_join (ρ := (List ((List Int))) × (List Int)) (fun e => ⟨[(4, (.pointer (some ⟨0, 0, none⟩))), (8, (VS 1 (y8.map eI))), (9, (.slice (some ⟨2, 0, none⟩) ((y8.map eI).length : Int).toNat 1)), (10, (.slice (some ⟨3, 0, none⟩) ((y8.map eI).length : Int).toNat 1))], ⟨4, [(3, .rw (e.2.map eI)), (2, .rw (e.1.map e_L1I)), (1, .tail 2 1), (0, .rw [(.int .i64 0), (.int .i64 0), (.int .i64 0), (.int .i64 0), (.int .i64 0), (.int .i64 0)])], false⟩⟩) r16 ?_ ?_
      · refine pw_so ?_;refine po_all ?_;(conv=>whnf);refine pw_block ?_;refine pw_loop (τ := Int × (List ((List Int))) × (List Int)) (fun e => ⟨[(0, (VS 3 (a0.map e_III))), (4, (.pointer (some ⟨0, 0, none⟩))), (8, (VS 1 (y8.map eI))), (9, (.slice (some ⟨2, 0, none⟩) ((y8.map eI).length : Int).toNat 1)), (10, (.slice (some ⟨3, 0, none⟩) ((y8.map eI).length : Int).toNat 1)), (45, (VS 1 (y8.map eI))), (46, (.int .i64 ((y8.map eI).length : Int))), (47, (.int .i64 e.1))], ⟨4, [(3, .rw (e.2.2.map eI)), (2, .rw (e.2.1.map e_L1I)), (1, .tail 2 1), (0, .rw [(.int .i64 0), (.int .i64 0), (.int .i64 0), (.int .i64 0), (.int .i64 0), (.int .i64 0)])], false⟩⟩) h17 ?_ (fun _ => Nat.le_of_ble_eq_true rfl) ?_
        · exact .sub' (Nat.le_of_ble_eq_true rfl) (.cons rfl (.cons rfl (.cons rfl (.cons rfl (.cons rfl (.cons rfl (.cons rfl (.cons rfl .nil))))))))
        · intro e20 x21 h22;refine pw_so ?_;refine po_all ?_;(conv=>whnf);refine pw_seq ?_;refine pw_cond ?_;(conv=>whnf);refine pbr_oite h22 (fun g23 h22 => ?_) (fun g23 h22 => ?_)
          · (conv=>whnf);refine pw_skip ?_;(conv=>whnf);obtain ⟨r24, h25, h22⟩ := obnd_some h22;refine pw_join (ρ := (List Int) × (List Int)) (fun e => ⟨[(0, (VS 3 (a0.map e_III))), (4, (.pointer (some ⟨0, 0, none⟩))), (8, (VS 1 (y8.map eI))), (9, (.slice (some ⟨2, 0, none⟩) ((y8.map eI).length : Int).toNat 1)), (10, (.slice (some ⟨3, 0, none⟩) ((y8.map eI).length : Int).toNat 1)), (45, (VS 1 (y8.map eI))), (46, (.int .i64 ((y8.map eI).length : Int))), (47, (.int .i64 e20.1))], ⟨5, [(4, .rw (e.2.map eI)), (3, .rw (e.1.map eI)), (2, .rw ((e20.2.1.map e_L1I).set e20.1.toNat (.slice (some ⟨4, 0, none⟩) ((y8.map eI).length : Int).toNat 1))), (1, .tail 2 1), (0, .rw [(.int .i64 0), (.int .i64 0), (.int .i64 0), (.int .i64 0), (.int .i64 0), (.int .i64 0)])], false⟩⟩) r24 ?_ ?_
            · refine pw_block ?_;refine pw_so ?_;refine po_all ?_;(conv=>whnf);refine pbr_ogrd h25 (fun g28 h25 => ?_);(conv=>whnf);refine nth_o (l := y8) h25 (fun x29 _ h25 => ?_);(conv=>whnf);refine pw_so ?_;refine po_all ?_;(conv=>whnf);obtain ⟨g30, h25⟩ := ogrd_some h25;refine mk_o (f := eI) (x := (0 : Int)) rfl g30 ?_;(conv=>whnf);refine pbr_t g28 ?_;(conv=>whnf);refine pbr_ogrd h25 (fun g31 h25 => ?_);(conv=>whnf);obtain ⟨g32, h25⟩ := ogrd_some h25;refine set_h (l := e20.2.1) (f := e_L1I) g32 rfl ?_;(conv=>whnf);refine pw_so ?_;refine po_all ?_;(conv=>whnf);refine pw_block ?_;refine pw_loop (τ := Int × (List Int) × (List Int)) (fun e => ⟨[(0, (VS 3 (a0.map e_III))), (4, (.pointer (some ⟨0, 0, none⟩))), (8, (VS 1 (y8.map eI))), (9, (.slice (some ⟨2, 0, none⟩) ((y8.map eI).length : Int).toNat 1)), (10, (.slice (some ⟨3, 0, none⟩) ((y8.map eI).length : Int).toNat 1)), (11, (.int .i64 e20.1)), (12, (.int .i64 x29)), (45, (VS 1 (y8.map eI))), (46, (.int .i64 ((y8.map eI).length : Int))), (47, (.int .i64 e20.1)), (58, (VS 3 (a0.map e_III))), (59, (.int .i64 ((a0.map e_III).length : Int))), (60, (.int .i64 e.1))], ⟨5, [(4, .rw (e.2.2.map eI)), (3, .rw (e.2.1.map eI)), (2, .rw ((e20.2.1.map e_L1I).set e20.1.toNat (.slice (some ⟨4, 0, none⟩) ((y8.map eI).length : Int).toNat 1))), (1, .tail 2 1), (0, .rw [(.int .i64 0), (.int .i64 0), (.int .i64 0), (.int .i64 0), (.int .i64 0), (.int .i64 0)])], false⟩⟩) h25 ?_ (fun _ => Nat.le_of_ble_eq_true rfl) ?_
              · exact .sub' (Nat.le_of_ble_eq_true rfl) (.cons rfl (.cons rfl (.cons rfl (.cons rfl (.cons rfl (.cons rfl (.cons rfl (.cons rfl (.cons rfl (.cons rfl (.cons rfl (.cons rfl (.cons rfl .nil)))))))))))))
              · intro e33 x34 h35;refine pw_so ?_;refine po_all ?_;(conv=>whnf);refine pw_seq ?_;refine pw_cond ?_;(conv=>whnf);refine pbr_oite h35 (fun g36 h35 => ?_) (fun g36 h35 => ?_)
                · (conv=>whnf);refine pw_skip ?_;(conv=>whnf);obtain ⟨r37, h38, h35⟩ := obnd_some h35;refine pw_join (ρ := Int × Int × Int × Int × Int × Int × Int × Int × (List Int) × (List Int)) (fun e => ⟨[(0, (VS 3 (a0.map e_III))), (4, (.pointer (some ⟨0, 0, none⟩))), (8, (VS 1 (y8.map eI))), (9, (.slice (some ⟨2, 0, none⟩) ((y8.map eI).length : Int).toNat 1)), (10, (.slice (some ⟨3, 0, none⟩) ((y8.map eI).length : Int).toNat 1)), (11, (.int .i64 e20.1)), (12, (.int .i64 x29)), (45, (VS 1 (y8.map eI))), (46, (.int .i64 ((y8.map eI).length : Int))), (47, (.int .i64 e20.1)), (58, (VS 3 (a0.map e_III))), (59, (.int .i64 ((a0.map e_III).length : Int))), (60, (.int .i64 e33.1))], ⟨7, [(6, .rw [(.int .i64 e.2.2.2.1), (.int .i64 e.2.2.2.2.1), (.int .i64 e.2.2.2.2.2.1), (.int .i64 e.2.2.2.2.2.2.1), (.int .i64 e.2.2.2.2.2.2.2.1)]), (5, .rw [(.int .i64 e.1), (.int .i64 e.2.1), (.int .i64 e.2.2.1)]), (4, .rw (e.2.2.2.2.2.2.2.2.2.map eI)), (3, .rw (e.2.2.2.2.2.2.2.2.1.map eI)), (2, .rw ((e20.2.1.map e_L1I).set e20.1.toNat (.slice (some ⟨4, 0, none⟩) ((y8.map eI).length : Int).toNat 1))), (1, .tail 2 1), (0, .rw [(.int .i64 0), (.int .i64 0), (.int .i64 0), (.int .i64 0), (.int .i64 0), (.int .i64 0)])], false⟩⟩) r37 ?_ ?_
                  · refine pw_block ?_;refine pw_so ?_;refine po_all ?_;(conv=>whnf);refine pbr_ogrd h38 (fun g41 h38 => ?_);(conv=>whnf);refine nth_o (l := a0) h38 (fun x42 _ h38 => ?_);(conv=>whnf);refine pw_so ?_;refine po_all ?_;(conv=>whnf);obtain ⟨y43, h44, h38⟩ := obnd_some h38;refine (c77 h44).go ?_;(conv=>whnf);refine pw_sd ?_;(conv=>whnf);refine pbr_t g28 ?_;(conv=>whnf);refine pbr_t g31 ?_;(conv=>whnf);refine nth_a (l := e33.2.1) (f := eI) h38 (fun x45 h46 h38 => ?_);(conv=>whnf);refine pbr_ogrd h38 (fun g48 h38 => ?_);(conv=>whnf);refine pbr_ogrd h38 (fun g49 h38 => ?_);(conv=>whnf);refine nth_o (f := eI) (l := ([y43.1, y43.2.1, y43.2.2.1, y43.2.2.2.1, y43.2.2.2.2] : List Int)) h38 (fun x50 _ h38 => ?_)
                    (conv=>whnf);refine pbr_t g28 ?_;(conv=>whnf);refine pbr_t g31 ?_;(conv=>whnf);refine ⟨?_, trivial⟩;(conv=>whnf);obtain ⟨g51, h38⟩ := ogrd_some h38;refine set_a (l := e33.2.1) (f := eI) (x := (IntKind.i64.wrap (x45 + (IntKind.i64.wrap (x50 * x42.2.2))))) g51 rfl ?_;(conv=>whnf);refine ⟨by repeat (first | exact trivial | refine And.intro rfl ?_ | refine And.intro (lev_a (l := e33.2.1) (f := eI) rfl h46) ?_), ?_⟩;(conv=>whnf);refine pw_so ?_;refine po_all ?_;(conv=>whnf);refine pw_block ?_;refine pw_loop (τ := Int × (List Int)) (fun e => ⟨[(0, (VS 3 (a0.map e_III))), (4, (.pointer (some ⟨0, 0, none⟩))), (8, (VS 1 (y8.map eI))), (9, (.slice (some ⟨2, 0, none⟩) ((y8.map eI).length : Int).toNat 1)), (10, (.slice (some ⟨3, 0, none⟩) ((y8.map eI).length : Int).toNat 1)), (11, (.int .i64 e20.1)), (12, (.int .i64 x29)), (15, (.pointer (some ⟨6, 0, none⟩))), (45, (VS 1 (y8.map eI))), (46, (.int .i64 ((y8.map eI).length : Int))), (47, (.int .i64 e20.1)), (58, (VS 3 (a0.map e_III))), (59, (.int .i64 ((a0.map e_III).length : Int))), (60, (.int .i64 e33.1)), (78, (VS 1 (y8.map eI))), (79, (.int .i64 ((y8.map eI).length : Int))), (80, (.int .i64 e.1))], ⟨7, [(6, .rw [(.int .i64 y43.1), (.int .i64 y43.2.1), (.int .i64 y43.2.2.1), (.int .i64 y43.2.2.2.1), (.int .i64 y43.2.2.2.2)]), (5, .rw [(.int .i64 x42.1), (.int .i64 x42.2.1), (.int .i64 x42.2.2)]), (4, .rw (e.2.map eI)), (3, .rw ((e33.2.1.set e20.1.toNat (IntKind.i64.wrap (x45 + (IntKind.i64.wrap (x50 * x42.2.2))))).map eI)), (2, .rw ((e20.2.1.map e_L1I).set e20.1.toNat (.slice (some ⟨4, 0, none⟩) ((y8.map eI).length : Int).toNat 1))), (1, .tail 2 1), (0, .rw [(.int .i64 0), (.int .i64 0), (.int .i64 0), (.int .i64 0), (.int .i64 0), (.int .i64 0)])], false⟩⟩) h38 ?_ (fun _ => Nat.le_of_ble_eq_true rfl) ?_
                    · exact .sub' (Nat.le_of_ble_eq_true rfl) (.cons rfl (.cons rfl (.cons rfl (.cons rfl (.cons rfl (.cons rfl (.cons rfl (.cons rfl (.cons rfl (.cons rfl (.cons rfl (.cons rfl (.cons rfl (.cons rfl (.cons rfl (.cons rfl (.cons rfl .nil)))))))))))))))))
                    · intro e52 x53 h54;refine pw_so ?_;refine po_all ?_;(conv=>whnf);refine pw_seq ?_;refine pw_cond ?_;(conv=>whnf);refine pbr_oite h54 (fun g55 h54 => ?_) (fun g55 h54 => ?_)
                      · (conv=>whnf);refine pw_skip ?_;(conv=>whnf);refine pw_seq ?_;refine pw_block ?_;refine pw_so ?_;refine po_all ?_;(conv=>whnf);refine pbr_ogrd h54 (fun g56 h54 => ?_);(conv=>whnf);refine nth_o (l := y8) h54 (fun x57 _ h54 => ?_);(conv=>whnf);refine pw_draw ?_;(conv=>whnf);refine pbr_t g28 ?_;(conv=>whnf);refine pbr_t g31 ?_;(conv=>whnf);refine nth_h g32 ?_;(conv=>whnf);refine pbr_t g56 ?_;(conv=>whnf);refine pbr_ogrd h54 (fun g58 h54 => ?_);(conv=>whnf);refine nth_a (l := e52.2) (f := eI) h54 (fun x59 h60 h54 => ?_);(conv=>whnf);refine pbr_t g48 ?_;(conv=>whnf);refine pbr_t g49 ?_;(conv=>whnf);refine nth_o (f := eI) (l := ([y43.1, y43.2.1, y43.2.2.1, y43.2.2.2.1, y43.2.2.2.2] : List Int)) h54 (fun x62 _ h54 => ?_)
                        (conv=>whnf);refine pbr_ogrd h54 (fun g63 h54 => ?_);(conv=>whnf);refine pbr_ogrd h54 (fun g64 h54 => ?_);(conv=>whnf);refine nth_o (f := eI) (l := ([y43.1, y43.2.1, y43.2.2.1, y43.2.2.2.1, y43.2.2.2.2] : List Int)) h54 (fun x65 _ h54 => ?_);(conv=>whnf);refine pbr_t g56 ?_;(conv=>whnf);refine pbr_t g58 ?_;(conv=>whnf);refine ⟨?_, trivial⟩;(conv=>whnf);obtain ⟨g66, h54⟩ := ogrd_some h54;refine set_a (l := e52.2) (f := eI) (x := (IntKind.i64.wrap (x59 + (IntKind.i64.wrap (x62 * x65))))) g66 rfl ?_;(conv=>whnf);refine ⟨by repeat (first | exact trivial | refine And.intro rfl ?_ | refine And.intro (lev_h (l := e20.2.1) (f := e_L1I) rfl g32) ?_ | refine And.intro (lev_a (l := e52.2) (f := eI) rfl h60) ?_), ?_⟩
                        (conv=>whnf);refine pw_ops ?_;refine po_all ?_;(conv=>whnf);cases h54;refine ⟨_, rfl, ?_⟩;exact .sub' (Nat.le_of_ble_eq_true rfl) (.cons rfl (.cons rfl (.cons rfl (.cons rfl (.cons rfl (.cons rfl (.cons rfl (.cons rfl (.cons rfl (.cons rfl (.cons rfl (.cons rfl (.cons rfl (.cons rfl (.cons rfl (.cons rfl (.cons rfl .nil)))))))))))))))))
                      · (conv=>whnf);refine pw_exit ?_;(conv=>whnf);cases h54;refine ⟨_, rfl, ?_⟩; rintro rfl;(conv=>whnf);exact ⟨(.cons rfl (.cons rfl (.cons rfl (.cons rfl (.cons rfl (.cons rfl (.cons rfl (.cons rfl (.cons rfl (.cons rfl (.cons rfl (.cons rfl (.cons rfl .nil))))))))))))), rfl⟩
                  · refine pw_ops ?_;refine po_all ?_;(conv=>whnf);cases h35;refine ⟨_, rfl, ?_⟩;exact Recast.fz (fun _ => false) (Nat.le_of_ble_eq_true rfl) (.cons (.same rfl rfl (OBnd.rwc (Nat.le_of_ble_eq_true rfl) (oneL_map fun _ => rfl))) (.cons (.same rfl rfl (OBnd.rwc (Nat.le_of_ble_eq_true rfl) (oneL_map fun _ => rfl))) (.cons (.same rfl rfl (OBnd.rwh (Nat.le_of_ble_eq_true rfl) (fun _ => rfl) rfl (.slice (Nat.le_of_ble_eq_true rfl)))) (.cons (.same rfl rfl (OBnd.tail (Nat.le_of_ble_eq_true rfl))) (.cons (.same rfl rfl (OBnd.rwl (Nat.le_of_ble_eq_true rfl) rfl (.cons .cl (.cons .cl (.cons .cl (.cons .cl (.cons .cl (.cons .cl .nil)))))))) .nil))))) (.cons rfl (.same _ .cl) (.cons rfl (.same _ (.ptr (Nat.le_of_ble_eq_true rfl))) (.cons rfl (.same _ .cl) (.cons rfl (.same _ (.slice (Nat.le_of_ble_eq_true rfl))) (.cons rfl (.same _ (.slice (Nat.le_of_ble_eq_true rfl))) (.cons rfl (.same _ .cl) (.cons rfl (.same _ .cl) (.cons rfl (.same _ .cl) (.cons rfl (.same _ .cl) (.cons rfl (.same _ .cl) (.cons rfl (.same _ .cl) (.cons rfl (.same _ .cl) (.cons rfl (.same _ .cl) .nil)))))))))))))
                · (conv=>whnf);refine pw_exit ?_;(conv=>whnf);cases h35;refine ⟨_, rfl, ?_⟩; rintro rfl;(conv=>whnf);exact ⟨(.cons rfl (.cons rfl (.cons rfl (.cons rfl (.cons rfl (.cons rfl (.cons rfl (.cons rfl .nil)))))))), rfl⟩
            · refine pw_ops ?_;refine po_all ?_;(conv=>whnf);obtain ⟨g69, h22⟩ := ogrd_some h22;cases h22;refine ⟨_, rfl, ?_⟩;exact Recast.fz (fun b => Nat.beq b 4) (Nat.le_of_ble_eq_true rfl) (.cons (.same rfl rfl (OBnd.rwc (Nat.le_of_ble_eq_true rfl) (oneL_map fun _ => rfl))) (.cons (.hole rfl (Nat.le_of_ble_eq_true rfl) rfl (.slm rfl rfl g69 (fun _ => rfl)) (fun _ => rfl)) (.cons (.same rfl rfl (OBnd.tail (Nat.le_of_ble_eq_true rfl))) (.cons (.same rfl rfl (OBnd.rwl (Nat.le_of_ble_eq_true rfl) rfl (.cons .cl (.cons .cl (.cons .cl (.cons .cl (.cons .cl (.cons .cl .nil)))))))) .nil)))) (.cons rfl (.same _ .cl) (.cons rfl (.same _ (.ptr (Nat.le_of_ble_eq_true rfl))) (.cons rfl (.same _ .cl) (.cons rfl (.same _ (.slice (Nat.le_of_ble_eq_true rfl))) (.cons rfl (.same _ (.slice (Nat.le_of_ble_eq_true rfl))) (.cons rfl (.same _ .cl) (.cons rfl (.same _ .cl) (.cons rfl (.same _ .cl) .nil))))))))
          · (conv=>whnf);refine pw_exit ?_;(conv=>whnf);cases h22;refine ⟨_, rfl, ?_⟩; rintro rfl;(conv=>whnf);exact ⟨(.cons rfl (.cons rfl (.cons rfl (.cons rfl .nil)))), rfl⟩
      · refine pw_so ?_;refine po_all ?_;(conv=>whnf);obtain ⟨g71, H⟩ := ogrd_some H;obtain ⟨y72, h73, H⟩ := obnd_some H;refine ICalls.goD (c96 h73) (.cons (.slm rfl g71 (fun _ => rfl)) .nil) rfl ?_;(conv=>whnf);refine pw_seq ?_;refine pw_so ?_;refine po_all ?_;(conv=>whnf);refine pw_cond ?_;(conv=>whnf);refine pbr_oite H (fun g74 H => ?_) (fun g74 H => ?_)
        · (conv=>whnf);refine pw_so ?_;refine po_all ?_;(conv=>whnf);refine pw_ret ?_;(conv=>whnf);cases H; rfl
        · (conv=>whnf);refine pw_skip ?_;(conv=>whnf);obtain ⟨r75, h76, H⟩ := obnd_some H;refine pw_join (ρ := Int × Int × Int × Int × Int) (fun e => ⟨[(4, (.pointer (some ⟨0, 0, none⟩))), (18, (.pointer (some ⟨4, 0, none⟩)))], ⟨5, [(4, .rw [(.int .i64 y72), (.int .i64 e.1), (.int .i64 e.2.1), (.int .i64 e.2.2.1), (.int .i64 e.2.2.2.1), (.int .i64 e.2.2.2.2)]), (3, .rw (r16.2.map eI)), (2, .rw (r16.1.map e_L1I)), (1, .tail 2 1), (0, .rw [(.int .i64 0), (.int .i64 0), (.int .i64 0), (.int .i64 0), (.int .i64 0), (.int .i64 0)])], false⟩⟩) r75 ?_ ?_
          · refine pw_so ?_;refine po_all ?_;(conv=>whnf);refine pw_block ?_;refine pw_loop (τ := Int × Int × Int × Int × Int × Int) (fun e => ⟨[(4, (.pointer (some ⟨0, 0, none⟩))), (9, (.slice (some ⟨2, 0, none⟩) ((y8.map eI).length : Int).toNat 1)), (10, (.slice (some ⟨3, 0, none⟩) ((y8.map eI).length : Int).toNat 1)), (18, (.pointer (some ⟨4, 0, none⟩))), (111, (VS 1 (y8.map eI))), (112, (.int .i64 ((y8.map eI).length : Int))), (113, (.int .i64 e.1))], ⟨5, [(4, .rw [(.int .i64 y72), (.int .i64 e.2.1), (.int .i64 e.2.2.1), (.int .i64 e.2.2.2.1), (.int .i64 e.2.2.2.2.1), (.int .i64 e.2.2.2.2.2)]), (3, .rw (r16.2.map eI)), (2, .rw (r16.1.map e_L1I)), (1, .tail 2 1), (0, .rw [(.int .i64 0), (.int .i64 0), (.int .i64 0), (.int .i64 0), (.int .i64 0), (.int .i64 0)])], false⟩⟩) h76 ?_ (fun _ => Nat.le_of_ble_eq_true rfl) ?_
            · exact .sub' (Nat.le_of_ble_eq_true rfl) (.cons rfl (.cons rfl (.cons rfl (.cons rfl (.cons rfl (.cons rfl (.cons rfl .nil)))))))
            · intro e79 x80 h81;refine pw_so ?_;refine po_all ?_;(conv=>whnf);refine pw_seq ?_;refine pw_cond ?_;(conv=>whnf);refine pbr_oite h81 (fun g82 h81 => ?_) (fun g82 h81 => ?_)
              · (conv=>whnf);refine pw_skip ?_;(conv=>whnf);refine pw_seq ?_;refine pw_block ?_;refine pw_so ?_;refine po_all ?_;(conv=>whnf);refine pbr_ogrd h81 (fun g83 h81 => ?_);(conv=>whnf);refine nth_o (l := y8) h81 (fun x84 _ h81 => ?_);(conv=>whnf);refine pw_soR ?_;refine po_all ?_;(conv=>whnf);obtain ⟨g85, h81⟩ := ogrd_some h81;refine mk_n g85 ?_;(conv=>whnf);refine ⟨_, (Recast.nilrow (b := 5) (f := e_L1I) (x := ([] : List Int)) (l2 := [(5, .rw ((List.replicate (((y8.map eI).length : Int).toNat : Int).toNat ([] : List Int)).map e_L1I)), (4, .rw [(.int .i64 y72), (.int .i64 e79.2.1), (.int .i64 e79.2.2.1), (.int .i64 e79.2.2.2.1), (.int .i64 e79.2.2.2.2.1), (.int .i64 e79.2.2.2.2.2)]), (3, .rw (r16.2.map eI)), (2, .rw (r16.1.map e_L1I)), (1, .tail 2 1), (0, .rw [(.int .i64 0), (.int .i64 0), (.int .i64 0), (.int .i64 0), (.int .i64 0), (.int .i64 0)])]) rfl (Nat.le_of_ble_eq_true rfl) rfl rfl), ?_⟩
                obtain ⟨r86, h87, h81⟩ := obnd_some h81;refine pw_join (ρ := (List ((List Int)))) (fun e => ⟨[(4, (.pointer (some ⟨0, 0, none⟩))), (9, (.slice (some ⟨2, 0, none⟩) ((y8.map eI).length : Int).toNat 1)), (10, (.slice (some ⟨3, 0, none⟩) ((y8.map eI).length : Int).toNat 1)), (18, (.pointer (some ⟨4, 0, none⟩))), (20, (.int .i64 x84)), (21, (.slice (some ⟨5, 0, none⟩) (((y8.map eI).length : Int).toNat : Int).toNat 1)), (111, (VS 1 (y8.map eI))), (112, (.int .i64 ((y8.map eI).length : Int))), (113, (.int .i64 e79.1))], ⟨6, [(5, .rw (e.map e_L1I)), (4, .rw [(.int .i64 y72), (.int .i64 e79.2.1), (.int .i64 e79.2.2.1), (.int .i64 e79.2.2.2.1), (.int .i64 e79.2.2.2.2.1), (.int .i64 e79.2.2.2.2.2)]), (3, .rw (r16.2.map eI)), (2, .rw (r16.1.map e_L1I)), (1, .tail 2 1), (0, .rw [(.int .i64 0), (.int .i64 0), (.int .i64 0), (.int .i64 0), (.int .i64 0), (.int .i64 0)])], false⟩⟩) r86 ?_ ?_
                · refine pw_so ?_;refine po_all ?_;(conv=>whnf);refine pw_block ?_;refine pw_loop (τ := Int × (List ((List Int)))) (fun e => ⟨[(4, (.pointer (some ⟨0, 0, none⟩))), (9, (.slice (some ⟨2, 0, none⟩) ((y8.map eI).length : Int).toNat 1)), (10, (.slice (some ⟨3, 0, none⟩) ((y8.map eI).length : Int).toNat 1)), (18, (.pointer (some ⟨4, 0, none⟩))), (19, (.int .i64 e79.1)), (20, (.int .i64 x84)), (21, (.slice (some ⟨5, 0, none⟩) (((y8.map eI).length : Int).toNat : Int).toNat 1)), (111, (VS 1 (y8.map eI))), (112, (.int .i64 ((y8.map eI).length : Int))), (113, (.int .i64 e79.1)), (121, (.slice (some ⟨2, 0, none⟩) ((y8.map eI).length : Int).toNat 1)), (122, (.int .i64 (((y8.map eI).length : Int).toNat : Int))), (123, (.int .i64 e.1))], ⟨6, [(5, .rw (e.2.map e_L1I)), (4, .rw [(.int .i64 y72), (.int .i64 e79.2.1), (.int .i64 e79.2.2.1), (.int .i64 e79.2.2.2.1), (.int .i64 e79.2.2.2.2.1), (.int .i64 e79.2.2.2.2.2)]), (3, .rw (r16.2.map eI)), (2, .rw (r16.1.map e_L1I)), (1, .tail 2 1), (0, .rw [(.int .i64 0), (.int .i64 0), (.int .i64 0), (.int .i64 0), (.int .i64 0), (.int .i64 0)])], false⟩⟩) h87 ?_ (fun _ => Nat.le_of_ble_eq_true rfl) ?_
                  · exact .sub' (Nat.le_of_ble_eq_true rfl) (.cons rfl (.cons rfl (.cons rfl (.cons rfl (.cons rfl (.cons rfl (.cons rfl (.cons rfl (.cons rfl (.cons rfl (.cons rfl (.cons rfl (.cons rfl .nil)))))))))))))
                  · intro e90 x91 h92;refine pw_so ?_;refine po_all ?_;(conv=>whnf);refine pw_seq ?_;refine pw_cond ?_;(conv=>whnf);refine pbr_oite h92 (fun g93 h92 => ?_) (fun g93 h92 => ?_)
                    · (conv=>whnf);refine pw_skip ?_;(conv=>whnf);refine pw_seq ?_;refine pw_block ?_;refine pw_so ?_;refine po_all ?_;(conv=>whnf);refine pbr_ogrd h92 (fun g94 h92 => ?_);(conv=>whnf);refine pbr_t g93 ?_;(conv=>whnf);refine nth_a (l := r16.1) (f := e_L1I) h92 (fun x95 h96 h92 => ?_);(conv=>whnf);refine pw_so ?_;refine po_all ?_;(conv=>whnf);obtain ⟨y98, h99, h92⟩ := obnd_some h92;refine ICalls.goN (f := eI) (c73 h99) (.cons (.refl _) .nil) ?_;(conv=>whnf);refine pbr_t g94 ?_;(conv=>whnf);refine pbr_ogrd h92 (fun g100 h92 => ?_);(conv=>whnf);obtain ⟨g101, h92⟩ := ogrd_some h92;refine set_h (l := e90.2) (f := e_L1I) g101 rfl ?_
                      (conv=>whnf);refine pw_draw ?_;(conv=>whnf);refine pbr_t g94 ?_;(conv=>whnf);refine pbr_t g100 ?_;(conv=>whnf);refine nth_h g101 ?_;(conv=>whnf);refine pbr_t g94 ?_;(conv=>whnf);refine pbr_t g93 ?_;(conv=>whnf);refine nth_a (l := r16.2) (f := eI) h92 (fun x102 h103 h92 => ?_);(conv=>whnf);refine pbr_t g83 ?_;(conv=>whnf);refine pbr_ogrd h92 (fun g105 h92 => ?_);(conv=>whnf);refine ⟨?_, trivial⟩;(conv=>whnf);obtain ⟨g106, h92⟩ := ogrd_some h92;refine set_a (l := y98) (f := eI) (x := x102) g106 rfl ?_;(conv=>whnf);refine ⟨by repeat (first | exact trivial | refine And.intro rfl ?_ | refine And.intro (lev_h (l := e90.2) (f := e_L1I) rfl g101) ?_ | refine And.intro (lev_a (l := r16.2) (f := eI) rfl h103) ?_), ?_⟩
                      (conv=>whnf);refine pw_ops ?_;refine po_all ?_;(conv=>whnf);obtain ⟨g107, h92⟩ := ogrd_some h92;cases h92;refine ⟨_, rfl, ?_⟩;exact Recast.fz (fun b => Nat.beq b 6) (Nat.le_of_ble_eq_true rfl) (.cons (.hole rfl (Nat.le_of_ble_eq_true rfl) rfl (.slm rfl rfl g107 (fun _ => rfl)) (fun _ => rfl)) (.cons (.same rfl rfl (OBnd.rwl (Nat.le_of_ble_eq_true rfl) rfl (.cons .cl (.cons .cl (.cons .cl (.cons .cl (.cons .cl (.cons .cl .nil)))))))) (.cons (.same rfl rfl (OBnd.rwc (Nat.le_of_ble_eq_true rfl) (oneL_map fun _ => rfl))) (.cons (.same rfl rfl (OBnd.rwc (Nat.le_of_ble_eq_true rfl) (oneL_map fun _ => rfl))) (.cons (.same rfl rfl (OBnd.tail (Nat.le_of_ble_eq_true rfl))) (.cons (.same rfl rfl (OBnd.rwl (Nat.le_of_ble_eq_true rfl) rfl (.cons .cl (.cons .cl (.cons .cl (.cons .cl (.cons .cl (.cons .cl .nil)))))))) .nil)))))) (.cons rfl (.same _ (.ptr (Nat.le_of_ble_eq_true rfl))) (.cons rfl (.same _ (.slice (Nat.le_of_ble_eq_true rfl))) (.cons rfl (.same _ (.slice (Nat.le_of_ble_eq_true rfl))) (.cons rfl (.same _ (.ptr (Nat.le_of_ble_eq_true rfl))) (.cons rfl (.same _ .cl) (.cons rfl (.same _ .cl) (.cons rfl (.same _ (.slice (Nat.le_of_ble_eq_true rfl))) (.cons rfl (.same _ .cl) (.cons rfl (.same _ .cl) (.cons rfl (.same _ .cl) (.cons rfl (.same _ (.slice (Nat.le_of_ble_eq_true rfl))) (.cons rfl (.same _ .cl) (.cons rfl (.same _ .cl) .nil)))))))))))))
                    · (conv=>whnf);refine pw_exit ?_;(conv=>whnf);cases h92;refine ⟨_, rfl, ?_⟩; rintro rfl;(conv=>whnf);exact ⟨(.cons rfl (.cons rfl (.cons rfl (.cons rfl (.cons rfl (.cons rfl (.cons rfl (.cons rfl (.cons rfl .nil))))))))), rfl⟩
                · refine pw_ops ?_;refine po_all ?_;(conv=>whnf);obtain ⟨g109, h81⟩ := ogrd_some h81;obtain ⟨y110, h111, h81⟩ := obnd_some h81;refine ICalls.goD (c96 h111) (.cons (.slm rfl g109 (fun _ => rfl)) .nil) rfl ?_;(conv=>whnf);refine pbr_ogrd h81 (fun g112 h81 => ?_);(conv=>whnf);refine pbr_ogrd h81 (fun g113 h81 => ?_);(conv=>whnf);refine set_d (f := eI) [(.int .i64 y72)] [] [e79.2.1, e79.2.2.1, e79.2.2.2.1, e79.2.2.2.2.1, e79.2.2.2.2.2] (x := y110) (i := x84) (off := 1) rfl rfl rfl g112 g113 rfl ?_;(conv=>whnf);refine pw_ops ?_;refine po_all ?_;(conv=>whnf);cases h81;refine ⟨_, rfl, ?_⟩;exact Recast.fz (fun _ => false) (Nat.le_of_ble_eq_true rfl) (.cons (.same rfl rfl (OBnd.rwl (Nat.le_of_ble_eq_true rfl) rfl (.cons .cl (.cons .cl (.cons .cl (.cons .cl (.cons .cl (.cons .cl .nil)))))))) (.cons (.same rfl rfl (OBnd.rwc (Nat.le_of_ble_eq_true rfl) (oneL_map fun _ => rfl))) (.cons (.same rfl rfl (OBnd.rwc (Nat.le_of_ble_eq_true rfl) (oneL_map fun _ => rfl))) (.cons (.same rfl rfl (OBnd.tail (Nat.le_of_ble_eq_true rfl))) (.cons (.same rfl rfl (OBnd.rwl (Nat.le_of_ble_eq_true rfl) rfl (.cons .cl (.cons .cl (.cons .cl (.cons .cl (.cons .cl (.cons .cl .nil)))))))) .nil))))) (.cons rfl (.same _ (.ptr (Nat.le_of_ble_eq_true rfl))) (.cons rfl (.same _ (.slice (Nat.le_of_ble_eq_true rfl))) (.cons rfl (.same _ (.slice (Nat.le_of_ble_eq_true rfl))) (.cons rfl (.same _ (.ptr (Nat.le_of_ble_eq_true rfl))) (.cons rfl (.same _ .cl) (.cons rfl (.same _ .cl) (.cons rfl (.same _ .cl) .nil)))))))
              · (conv=>whnf);refine pw_exit ?_;(conv=>whnf);cases h81;refine ⟨_, rfl, ?_⟩; rintro rfl;(conv=>whnf);exact ⟨(.cons rfl (.cons rfl .nil)), rfl⟩
          · refine pw_so ?_;refine po_all ?_;(conv=>whnf);obtain ⟨y115, h116, H⟩ := obnd_some H;refine (c97 h116).go ?_;(conv=>whnf);refine pw_so ?_;refine po_all ?_;(conv=>whnf);refine pbr_ogrdn H (fun g117 H => ?_);(conv=>whnf);obtain ⟨r118, h119, H⟩ := obnd_some H;refine pw_join (ρ := Unit) (fun e => ⟨[(4, (.pointer (some ⟨0, 0, none⟩))), (18, (.pointer (some ⟨4, 0, none⟩)))], ⟨5, [(4, .rw [(.int .i64 (IntKind.i64.wrap (y72.tdiv y115))), (.int .i64 (IntKind.i64.wrap (r75.1.tdiv y115))), (.int .i64 (IntKind.i64.wrap (r75.2.1.tdiv y115))), (.int .i64 (IntKind.i64.wrap (r75.2.2.1.tdiv y115))), (.int .i64 (IntKind.i64.wrap (r75.2.2.2.1.tdiv y115))), (.int .i64 (IntKind.i64.wrap (r75.2.2.2.2.tdiv y115)))]), (3, .rw (r16.2.map eI)), (2, .rw (r16.1.map e_L1I)), (1, .tail 2 1), (0, .rw [(.int .i64 0), (.int .i64 0), (.int .i64 0), (.int .i64 0), (.int .i64 0), (.int .i64 0)])], false⟩⟩) r118 ?_ ?_
            · refine pw_so ?_;refine po_all ?_;(conv=>whnf);refine pw_block ?_;refine pw_unroll 6 ?_;(conv=>whnf);refine pw_so ?_;refine po_all ?_;(conv=>whnf);refine pw_seq ?_;refine pw_cond ?_;(conv=>whnf);refine pw_skip ?_;(conv=>whnf);refine pw_seq ?_;refine pw_block ?_;refine pw_so ?_;refine po_all ?_;(conv=>whnf);refine pw_ops ?_;refine po_all ?_;(conv=>whnf);refine pbr_f g117 ?_;(conv=>whnf);refine pw_ops ?_;refine po_all ?_;(conv=>whnf);refine ⟨_, .refl, Nat.le_of_ble_eq_true rfl, ?_⟩;(conv=>whnf);refine pw_so ?_;refine po_all ?_;(conv=>whnf);refine pw_seq ?_;refine pw_cond ?_;(conv=>whnf);refine pw_skip ?_;(conv=>whnf)
              refine pw_seq ?_;refine pw_block ?_;refine pw_so ?_;refine po_all ?_;(conv=>whnf);refine pw_ops ?_;refine po_all ?_;(conv=>whnf);refine pbr_f g117 ?_;(conv=>whnf);refine pw_ops ?_;refine po_all ?_;(conv=>whnf);refine ⟨_, .refl, Nat.le_of_ble_eq_true rfl, ?_⟩;(conv=>whnf);refine pw_so ?_;refine po_all ?_;(conv=>whnf);refine pw_seq ?_;refine pw_cond ?_;(conv=>whnf);refine pw_skip ?_;(conv=>whnf);refine pw_seq ?_;refine pw_block ?_;refine pw_so ?_;refine po_all ?_;(conv=>whnf);refine pw_ops ?_;refine po_all ?_;(conv=>whnf);refine pbr_f g117 ?_;(conv=>whnf);refine pw_ops ?_;refine po_all ?_;(conv=>whnf);refine ⟨_, .refl, Nat.le_of_ble_eq_true rfl, ?_⟩
              (conv=>whnf);refine pw_so ?_;refine po_all ?_;(conv=>whnf);refine pw_seq ?_;refine pw_cond ?_;(conv=>whnf);refine pw_skip ?_;(conv=>whnf);refine pw_seq ?_;refine pw_block ?_;refine pw_so ?_;refine po_all ?_;(conv=>whnf);refine pw_ops ?_;refine po_all ?_;(conv=>whnf);refine pbr_f g117 ?_;(conv=>whnf);refine pw_ops ?_;refine po_all ?_;(conv=>whnf);refine ⟨_, .refl, Nat.le_of_ble_eq_true rfl, ?_⟩;(conv=>whnf);refine pw_so ?_;refine po_all ?_;(conv=>whnf);refine pw_seq ?_;refine pw_cond ?_;(conv=>whnf);refine pw_skip ?_;(conv=>whnf);refine pw_seq ?_;refine pw_block ?_;refine pw_so ?_;refine po_all ?_;(conv=>whnf)
              refine pw_ops ?_;refine po_all ?_;(conv=>whnf);refine pbr_f g117 ?_;(conv=>whnf);refine pw_ops ?_;refine po_all ?_;(conv=>whnf);refine ⟨_, .refl, Nat.le_of_ble_eq_true rfl, ?_⟩;(conv=>whnf);refine pw_so ?_;refine po_all ?_;(conv=>whnf);refine pw_seq ?_;refine pw_cond ?_;(conv=>whnf);refine pw_exit ?_;(conv=>whnf);cases h119;exact ⟨(.cons rfl (.cons rfl .nil)), rfl⟩
            · refine pw_seq ?_;refine pw_so ?_;refine po_all ?_;(conv=>whnf);obtain ⟨y122, h123, H⟩ := obnd_some H;refine (c98 h123).go ?_;(conv=>whnf);refine pw_cond ?_;(conv=>whnf);refine pbr_oite H (fun g124 H => ?_) (fun g124 H => ?_)
              · (conv=>whnf);refine pw_so ?_;refine po_all ?_;(conv=>whnf);refine pw_ret ?_;(conv=>whnf);cases H; rfl
              · (conv=>whnf);refine pw_skip ?_;(conv=>whnf);refine pw_so ?_;refine po_all ?_;(conv=>whnf);refine pw_ret ?_;(conv=>whnf);cases H; rfl

/-- guidevane/dam.given -/
noncomputable def f117 [LO]  (a0 : Int) (a1 : Int) (a2 : Int) (a3 : Int) (a4 : Int) (a5 : Int) (a6 : Int) (a7 : Int) (a8 : Int) (a9 : List Int) : Option Int :=
  obnd (f77 a6 a7 a8) fun (y1 : Int × Int × Int × Int × Int) =>
  obnd (
   oloop (τ := Int × Int) (ρ := Int) (fun e7 =>
    oite ((ilt e7.2 ((a9.map eI).length : Int))) (
     ogrd ((ile 0 e7.2)) (
     obnd (a9[e7.2.toNat]?) fun (x12 : Int) =>
     ogrd ((ile 0 x12)) (
     ogrd ((ilt x12 5)) (
     obnd (([a0, a1, a2, a3, a4, a5] : List Int)[(1 + x12.toNat * 1)]?) fun (x15 : Int) =>
     obnd (([y1.1, y1.2.1, y1.2.2.1, y1.2.2.2.1, y1.2.2.2.2] : List Int)[(0 + x12.toNat * 1)]?) fun (x16 : Int) =>
     some (.inl (((IntKind.i64.wrap (e7.1 + (IntKind.i64.wrap (x15 * x16)))), (IntKind.i64.wrap (e7.2 + (1 : Int))))))
     )
     )
     )
      ) (
     some (.inr (e7.1))
      )
     ) (((0 : Int), (0 : Int)))
    ) fun (r3 : Int) =>
  some r3
set_option maxHeartbeats 1000000 in
theorem c117 [LO]  {a0 : Int} {a1 : Int} {a2 : Int} {a3 : Int} {a4 : Int} {a5 : Int} {a6 : Int} {a7 : Int} {a8 : Int} {a9 : List Int} {x : Int} (H : f117 a0 a1 a2 a3 a4 a5 a6 a7 a8 a9 = some x) : ICalls E 117 [(.agg ⟨[(.int .i64 a0), (.int .i64 a1), (.int .i64 a2), (.int .i64 a3), (.int .i64 a4), (.int .i64 a5)]⟩), (.agg ⟨[(.int .i64 a6), (.int .i64 a7), (.int .i64 a8)]⟩), (VS 1 (a9.map eI))] AHeap.none fun v _ => v = (.int .i64 x) := by
  refine icalls_fn (pfnw ?_); unfold f117 at H;(conv=>whnf);refine pw_so ?_;refine po_all ?_;(conv=>whnf);refine pw_so ?_;refine po_all ?_;(conv=>whnf);refine pw_so ?_;refine po_all ?_;(conv=>whnf);obtain ⟨y1, h2, H⟩ := obnd_some H;refine (c77 h2).go ?_;(conv=>whnf);obtain ⟨r3, h4, H⟩ := obnd_some H;refine pw_join (ρ := Int) (fun e => ⟨[(7, (.int .i64 e))], ⟨3, [(2, .rw [(.int .i64 y1.1), (.int .i64 y1.2.1), (.int .i64 y1.2.2.1), (.int .i64 y1.2.2.2.1), (.int .i64 y1.2.2.2.2)]), (1, .rw [(.int .i64 a6), (.int .i64 a7), (.int .i64 a8)]), (0, .rw [(.int .i64 a0), (.int .i64 a1), (.int .i64 a2), (.int .i64 a3), (.int .i64 a4), (.int .i64 a5)])], false⟩⟩) r3 ?_ ?_
  · refine pw_so ?_;refine po_all ?_;(conv=>whnf);refine pw_block ?_;refine pw_loop (τ := Int × Int) (fun e => ⟨[(3, (.pointer (some ⟨0, 0, none⟩))), (7, (.int .i64 e.1)), (8, (.pointer (some ⟨2, 0, none⟩))), (13, (VS 1 (a9.map eI))), (14, (.int .i64 ((a9.map eI).length : Int))), (15, (.int .i64 e.2))], ⟨3, [(2, .rw [(.int .i64 y1.1), (.int .i64 y1.2.1), (.int .i64 y1.2.2.1), (.int .i64 y1.2.2.2.1), (.int .i64 y1.2.2.2.2)]), (1, .rw [(.int .i64 a6), (.int .i64 a7), (.int .i64 a8)]), (0, .rw [(.int .i64 a0), (.int .i64 a1), (.int .i64 a2), (.int .i64 a3), (.int .i64 a4), (.int .i64 a5)])], false⟩⟩) h4 ?_ (fun _ => Nat.le_of_ble_eq_true rfl) ?_
    · exact .sub' (Nat.le_of_ble_eq_true rfl) (.cons rfl (.cons rfl (.cons rfl (.cons rfl (.cons rfl (.cons rfl .nil))))))
    · intro e7 x8 h9;refine pw_so ?_;refine po_all ?_;(conv=>whnf);refine pw_seq ?_;refine pw_cond ?_;(conv=>whnf);refine pbr_oite h9 (fun g10 h9 => ?_) (fun g10 h9 => ?_)
      · (conv=>whnf);refine pw_skip ?_;(conv=>whnf);refine pw_seq ?_;refine pw_block ?_;refine pw_so ?_;refine po_all ?_;(conv=>whnf);refine pbr_ogrd h9 (fun g11 h9 => ?_);(conv=>whnf);refine nth_o (l := a9) h9 (fun x12 _ h9 => ?_);(conv=>whnf);refine pw_draw ?_;(conv=>whnf);refine pbr_ogrd h9 (fun g13 h9 => ?_);(conv=>whnf);refine pbr_ogrd h9 (fun g14 h9 => ?_);(conv=>whnf);refine nth_o (f := eI) (l := ([a0, a1, a2, a3, a4, a5] : List Int)) h9 (fun x15 _ h9 => ?_);(conv=>whnf);refine pbr_t g13 ?_;(conv=>whnf);refine pbr_t g14 ?_;(conv=>whnf);refine nth_o (f := eI) (l := ([y1.1, y1.2.1, y1.2.2.1, y1.2.2.2.1, y1.2.2.2.2] : List Int)) h9 (fun x16 _ h9 => ?_)
        (conv=>whnf);refine ⟨?_, trivial⟩;(conv=>whnf);refine ⟨by repeat (first | exact trivial | refine And.intro rfl ?_), ?_⟩;(conv=>whnf);refine pw_ops ?_;refine po_all ?_;(conv=>whnf);cases h9;refine ⟨_, rfl, ?_⟩;exact .sub' (Nat.le_of_ble_eq_true rfl) (.cons rfl (.cons rfl (.cons rfl (.cons rfl (.cons rfl (.cons rfl .nil))))))
      · (conv=>whnf);refine pw_exit ?_;(conv=>whnf);cases h9;refine ⟨_, rfl, ?_⟩; rintro rfl;(conv=>whnf);exact ⟨(.cons rfl .nil), rfl⟩
  · refine pw_so ?_;refine po_all ?_;(conv=>whnf);refine pw_ret ?_;(conv=>whnf);cases H; rfl

/-- guidevane/dam.whole -/
noncomputable def f102 [LO]  (a0 : Int) (a1 : Int) (a2 : Int) (a3 : Int) (a4 : Int) (a5 : Int) (a6 : Int) (a7 : Int) (a8 : Int) : Option Int :=
  obnd (f95 (31 : Int)) fun (y1 : (List Int)) =>
  obnd (f117 a0 a1 a2 a3 a4 a5 a6 a7 a8 y1) fun (y3 : Int) =>
  some y3
set_option maxHeartbeats 1000000 in
theorem c102 [LO]  {a0 : Int} {a1 : Int} {a2 : Int} {a3 : Int} {a4 : Int} {a5 : Int} {a6 : Int} {a7 : Int} {a8 : Int} {x : Int} (H : f102 a0 a1 a2 a3 a4 a5 a6 a7 a8 = some x) : ICalls E 102 [(.agg ⟨[(.int .i64 a0), (.int .i64 a1), (.int .i64 a2), (.int .i64 a3), (.int .i64 a4), (.int .i64 a5)]⟩), (.agg ⟨[(.int .i64 a6), (.int .i64 a7), (.int .i64 a8)]⟩)] AHeap.none fun v _ => v = (.int .i64 x) := by
  refine icalls_fn (pfnw ?_); unfold f102 at H;(conv=>whnf);refine pw_so ?_;refine po_all ?_;(conv=>whnf);refine pw_sd ?_;(conv=>whnf);refine ⟨?_, trivial⟩;(conv=>whnf);obtain ⟨y1, h2, H⟩ := obnd_some H;refine (c95 h2).go ?_;(conv=>whnf);refine ⟨by repeat (first | exact trivial | refine And.intro rfl ?_), ?_⟩;(conv=>whnf);refine ⟨?_, trivial⟩;(conv=>whnf);obtain ⟨y3, h4, H⟩ := obnd_some H;refine (c117 h4).go ?_;(conv=>whnf);refine ⟨by repeat (first | exact trivial | refine And.intro rfl ?_), ?_⟩;(conv=>whnf);refine pw_ret ?_;(conv=>whnf);cases H; rfl

/-- guidevane/dam.rounded -/
noncomputable def f101  (a0 : Int) (a1 : Int) : Option (Int × Int) :=
  ogrd (!((ieq a1 0))) (
  obnd (
   oite ((ilt (a0.tmod a1) (0 : Int))) (
    some (IntKind.i64.wrap ((IntKind.i64.wrap (a0.tdiv a1)) - (1 : Int)))
     ) (
    some (IntKind.i64.wrap (a0.tdiv a1))
     )
    ) fun (r2 : Int) =>
  obnd (
   oite ((!(ieq (IntKind.i64.wrap (r2 * a1)) a0))) (
    some (IntKind.i64.wrap (r2 + (1 : Int)))
     ) (
    some r2
     )
    ) fun (r7 : Int) =>
  some (r2, r7)
  )
set_option maxHeartbeats 1000000 in
theorem c101  {a0 : Int} {a1 : Int} {x : Int × Int} (H : f101 a0 a1 = some x) : ICalls E 101 [(.int .i64 a0), (.int .i64 a1)] AHeap.none fun v _ => v = (.agg ⟨[(.int .i64 x.1), (.int .i64 x.2)]⟩) := by
  refine icalls_fn (pfnw ?_); unfold f101 at H;(conv=>whnf);refine pw_so ?_;refine po_all ?_;(conv=>whnf);refine pw_so ?_;refine po_all ?_;(conv=>whnf);refine pbr_ogrdn H (fun g1 H => ?_);(conv=>whnf);obtain ⟨r2, h3, H⟩ := obnd_some H;refine pw_join (ρ := Int) (fun e => ⟨[(0, (.int .i64 a0)), (1, (.int .i64 a1)), (4, (.pointer (some ⟨0, 0, none⟩))), (5, (.int .i64 e))], ⟨1, [(0, .rw [(.int .i64 0), (.int .i64 0)])], false⟩⟩) r2 ?_ ?_
  · refine pw_so ?_;refine po_all ?_;(conv=>whnf);refine pbr_f g1 ?_;(conv=>whnf);refine pw_cond ?_;(conv=>whnf);refine pbr_oite h3 (fun g6 h3 => ?_) (fun g6 h3 => ?_)
    · (conv=>whnf);refine pw_ops ?_;refine po_all ?_;(conv=>whnf);cases h3;exact ⟨(.cons rfl (.cons rfl (.cons rfl (.cons rfl .nil)))), rfl⟩
    · (conv=>whnf);refine pw_skip ?_;(conv=>whnf);cases h3;exact ⟨(.cons rfl (.cons rfl (.cons rfl (.cons rfl .nil)))), rfl⟩
  · refine pw_so ?_;refine po_all ?_;(conv=>whnf);obtain ⟨r7, h8, H⟩ := obnd_some H;refine pw_join (ρ := Int) (fun e => ⟨[(4, (.pointer (some ⟨0, 0, none⟩))), (5, (.int .i64 r2)), (6, (.int .i64 e))], ⟨1, [(0, .rw [(.int .i64 0), (.int .i64 0)])], false⟩⟩) r7 ?_ ?_
    · refine pw_so ?_;refine po_all ?_;(conv=>whnf);refine pw_cond ?_;(conv=>whnf);refine pbr_oite h8 (fun g11 h8 => ?_) (fun g11 h8 => ?_)
      · (conv=>whnf);refine pw_ops ?_;refine po_all ?_;(conv=>whnf);cases h8;exact ⟨(.cons rfl (.cons rfl (.cons rfl .nil))), rfl⟩
      · (conv=>whnf);refine pw_skip ?_;(conv=>whnf);cases h8;exact ⟨(.cons rfl (.cons rfl (.cons rfl .nil))), rfl⟩
    · refine pw_so ?_;refine po_all ?_;(conv=>whnf);refine pw_ret ?_;(conv=>whnf);cases H; rfl

/-- guidevane/dam.residuals -/
noncomputable def f99 [LO]  (a0 : List (Int × Int × Int)) (a1 : Int) (a2 : Int) (a3 : Int) (a4 : Int) (a5 : Int) (a6 : Int) : Option ((List (Int × Int))) :=
  obnd (
   oloop (τ := (List (Int × Int)) × Int) (ρ := (List (Int × Int))) (fun e5 =>
    oite ((ilt e5.2 ((a0.map e_III).length : Int))) (
     ogrd ((ile 0 e5.2)) (
     obnd (a0[e5.2.toNat]?) fun (x10 : Int × Int × Int) =>
     obnd (f102 a1 a2 a3 a4 a5 a6 x10.1 x10.2.1 x10.2.2) fun (y11 : Int) =>
     obnd (f101 (IntKind.i64.wrap ((IntKind.i64.wrap (a1 * x10.2.2)) - y11)) a1) fun (y13 : Int × Int) =>
     ogrd (fits 16 (e5.1.length + ([(y13.1, y13.2)] : List (Int × Int)).length)) (
     some (.inl (((e5.1 ++ ([(y13.1, y13.2)] : List (Int × Int))), (IntKind.i64.wrap (e5.2 + (1 : Int))))))
     )
     )
      ) (
     some (.inr (e5.1))
      )
     ) ((([] : List (Int × Int)), (0 : Int)))
    ) fun (r1 : (List (Int × Int))) =>
  some r1
set_option maxHeartbeats 1000000 in
theorem c99 [LO]  {a0 : List (Int × Int × Int)} {a1 : Int} {a2 : Int} {a3 : Int} {a4 : Int} {a5 : Int} {a6 : Int} {x : (List (Int × Int))} (H : f99 a0 a1 a2 a3 a4 a5 a6 = some x) : ICalls E 99 [(VS 3 (a0.map e_III)), (.agg ⟨[(.int .i64 a1), (.int .i64 a2), (.int .i64 a3), (.int .i64 a4), (.int .i64 a5), (.int .i64 a6)]⟩)] AHeap.none fun v _ => v = (VS 2 (x.map e_II)) := by
  refine ICalls.frz ?_;refine icalls_fn (pfnw ?_); unfold f99 at H;(conv=>whnf);refine pw_so ?_;refine po_all ?_;(conv=>whnf);refine pw_so ?_;refine po_all ?_;(conv=>whnf);obtain ⟨r1, h2, H⟩ := obnd_some H;refine pw_join (ρ := (List (Int × Int))) (fun e => ⟨[(5, (VT 2 (e.map e_II) 1))], ⟨2, [(1, .tail (e.map e_II).length 2), (0, .rw [(.int .i64 a1), (.int .i64 a2), (.int .i64 a3), (.int .i64 a4), (.int .i64 a5), (.int .i64 a6)])], false⟩⟩) r1 ?_ ?_
  · refine pw_so ?_;refine po_all ?_;(conv=>whnf);refine pw_block ?_;refine pw_loop (τ := (List (Int × Int)) × Int) (fun e => ⟨[(3, (.pointer (some ⟨0, 0, none⟩))), (5, (VT 2 (e.1.map e_II) 1)), (8, (VS 3 (a0.map e_III))), (9, (.int .i64 ((a0.map e_III).length : Int))), (10, (.int .i64 e.2))], ⟨2, [(1, .tail (e.1.map e_II).length 2), (0, .rw [(.int .i64 a1), (.int .i64 a2), (.int .i64 a3), (.int .i64 a4), (.int .i64 a5), (.int .i64 a6)])], false⟩⟩) h2 ?_ (fun _ => Nat.le_of_ble_eq_true rfl) ?_
    · exact (Recast.nilTs 2 (Nat.le_of_ble_eq_true rfl) (.same rfl (.turn rfl (.same rfl (.same rfl (.same rfl .nil))))))
    · intro e5 x6 h7;refine pw_so ?_;refine po_all ?_;(conv=>whnf);refine pw_seq ?_;refine pw_cond ?_;(conv=>whnf);refine pbr_oite h7 (fun g8 h7 => ?_) (fun g8 h7 => ?_)
      · (conv=>whnf);refine pw_skip ?_;(conv=>whnf);refine pw_seq ?_;refine pw_block ?_;refine pw_so ?_;refine po_all ?_;(conv=>whnf);refine pbr_ogrd h7 (fun g9 h7 => ?_);(conv=>whnf);refine nth_o (l := a0) h7 (fun x10 _ h7 => ?_);(conv=>whnf);refine pw_draw ?_;(conv=>whnf);refine ⟨?_, trivial⟩;(conv=>whnf);obtain ⟨y11, h12, h7⟩ := obnd_some h7;refine (c102 h12).go ?_;(conv=>whnf);refine ⟨by repeat (first | exact trivial | refine And.intro rfl ?_), ?_⟩;(conv=>whnf);refine ⟨?_, trivial⟩;(conv=>whnf);obtain ⟨y13, h14, h7⟩ := obnd_some h7;refine (c101 h14).go ?_;(conv=>whnf);refine ⟨by repeat (first | exact trivial | refine And.intro rfl ?_), ?_⟩
        (conv=>whnf);refine ⟨?_, trivial⟩;(conv=>whnf);refine ⟨by repeat (first | exact trivial | refine And.intro rfl ?_), ?_⟩;(conv=>whnf);refine ⟨?_, trivial⟩;(conv=>whnf);refine app_o (l := e5.1) (m := ([(y13.1, y13.2)] : List (Int × Int))) (f := e_II) h7 (by rfl) (by rfl) (by rfl) (fun h7 => ?_);(conv=>whnf);refine ⟨by repeat (first | exact trivial | refine And.intro rfl ?_), ?_⟩;(conv=>whnf);refine ⟨?_, trivial⟩;(conv=>whnf);refine ⟨by repeat (first | exact trivial | refine And.intro rfl ?_), ?_⟩;(conv=>whnf);refine pw_ops ?_;refine po_all ?_;(conv=>whnf);cases h7;refine ⟨_, rfl, ?_⟩;refine Recast.trunc (Nat.le_of_ble_eq_true rfl) ?_ ?_
        · repeat (first | exact .nil | refine .cons rfl (by first | exact OBnd.rwc (Nat.le_of_ble_eq_true rfl) rfl | exact OBnd.tail (Nat.le_of_ble_eq_true rfl) | trivial) ?_)
        · repeat (first | exact .nil | refine .cons rfl (by first | exact Bnd.ptr (Nat.le_of_ble_eq_true rfl) | exact Bnd.vt (Nat.le_of_ble_eq_true rfl) | exact Bnd.cl) ?_)
      · (conv=>whnf);refine pw_exit ?_;(conv=>whnf);cases h7;refine ⟨_, rfl, ?_⟩; rintro rfl;(conv=>whnf);exact ⟨(.cons rfl .nil), rfl⟩
  · refine pw_so ?_;refine po_all ?_;(conv=>whnf);refine pw_ret ?_;(conv=>whnf);cases H; show ∃ D, Fz _ D 0 (VT 2 _ 1) _;exact ⟨fun _ => false, .vtc⟩

/-- guidevane/dam.ResidualsOf -/
noncomputable def f56 [LO]  (a0 : List (Int × Int × Int)) (a1 : Int) (a2 : Int) (a3 : Int) (a4 : Int) (a5 : Int) (a6 : Int) : Option ((List (Int × Int)) × Int) :=
  obnd (f93 a0) fun (y1 : Int) =>
  obnd (f98 a1 a2 a3 a4 a5 a6) fun (y3 : Int) =>
  obnd (f63 ([y1, y3] : List Int)) fun (y5 : Int) =>
  oite ((!(ieq y5 (0 : Int)))) (
   some (([] : List (Int × Int)), y5)
    ) (
   obnd (f99 a0 a1 a2 a3 a4 a5 a6) fun (y8 : (List (Int × Int))) =>
   some (y8, (0 : Int))
    )
set_option maxHeartbeats 1000000 in
theorem c56 [LO]  {a0 : List (Int × Int × Int)} {a1 : Int} {a2 : Int} {a3 : Int} {a4 : Int} {a5 : Int} {a6 : Int} {x : (List (Int × Int)) × Int} (H : f56 a0 a1 a2 a3 a4 a5 a6 = some x) : ICalls E 56 [(VS 3 (a0.map e_III)), (.agg ⟨[(.int .i64 a1), (.int .i64 a2), (.int .i64 a3), (.int .i64 a4), (.int .i64 a5), (.int .i64 a6)]⟩)] AHeap.none fun v _ => v = (.tuple ⟨[(VS 2 (x.1.map e_II)), (.int .i64 x.2)]⟩) := by
  refine ICalls.frz ?_;refine icalls_fn (pfnw ?_); unfold f56 at H;(conv=>whnf);refine pw_so ?_;refine po_all ?_;(conv=>whnf);refine pw_seq ?_;refine pw_sd ?_;(conv=>whnf);refine ⟨?_, trivial⟩;(conv=>whnf);obtain ⟨y1, h2, H⟩ := obnd_some H;refine (c93 h2).go ?_;(conv=>whnf);refine ⟨by repeat (first | exact trivial | refine And.intro rfl ?_), ?_⟩;(conv=>whnf);refine ⟨?_, trivial⟩;(conv=>whnf);obtain ⟨y3, h4, H⟩ := obnd_some H;refine (c98 h4).go ?_;(conv=>whnf);refine ⟨by repeat (first | exact trivial | refine And.intro rfl ?_), ?_⟩;(conv=>whnf);refine ⟨?_, trivial⟩;(conv=>whnf);refine ⟨by repeat (first | exact trivial | refine And.intro rfl ?_), ?_⟩
  (conv=>whnf);refine ⟨?_, trivial⟩;(conv=>whnf);obtain ⟨y5, h6, H⟩ := obnd_some H;refine ICalls.goW (c63 h6) (.cons (.vt _ _ _) .nil) ?_;(conv=>whnf);refine ⟨by repeat (first | exact trivial | refine And.intro rfl ?_), ?_⟩;(conv=>whnf);refine pw_so ?_;refine po_all ?_;(conv=>whnf);refine pw_cond ?_;(conv=>whnf);refine pbr_oite H (fun g7 H => ?_) (fun g7 H => ?_)
  · (conv=>whnf);refine pw_so ?_;refine po_all ?_;(conv=>whnf);refine pw_ret ?_;(conv=>whnf);cases H; show ∃ D, Fz _ D 0 (.tuple ⟨[(.slice none 0 0), (.int .i64 y5)]⟩) _;exact ⟨fun _ => false, .tuplel (.cons (.nil _) (.cons .cl (.nil)))⟩
  · (conv=>whnf);refine pw_skip ?_;(conv=>whnf);refine pw_so ?_;refine po_all ?_;(conv=>whnf);obtain ⟨y8, h9, H⟩ := obnd_some H;refine (c99 h9).go ?_;(conv=>whnf);refine pw_ret ?_;(conv=>whnf);cases H; show ∃ D, Fz _ D 0 (.tuple ⟨[(VS 2 _), (.int .i64 0)]⟩) _;exact ⟨fun _ => false, .tuplel (.cons .cl (.cons .cl (.nil)))⟩

/-- guidevane/dam.SpreadOf -/
noncomputable def f57 [LO]  (a0 : List (Int × Int × Int)) (a1 : Int) (a2 : Int) (a3 : Int) (a4 : Int) (a5 : Int) (a6 : Int) : Option (Int × Int) :=
  obnd (f56 a0 a1 a2 a3 a4 a5 a6) fun (y1 : (List (Int × Int)) × Int) =>
  obnd (
   oloop (τ := Int × Int) (ρ := Int) (fun e7 =>
    oite ((ilt e7.2 ((y1.1.map e_II).length : Int))) (
     ogrd ((ile 0 e7.2)) (
     obnd (y1.1[e7.2.toNat]?) fun (x12 : Int × Int) =>
     obnd (f100 x12.1) fun (y13 : Int) =>
     obnd (f100 x12.2) fun (y15 : Int) =>
     some (.inl (((imax (imax e7.1 y13) y15), (IntKind.i64.wrap (e7.2 + (1 : Int))))))
     )
      ) (
     some (.inr (e7.1))
      )
     ) (((0 : Int), (0 : Int)))
    ) fun (r3 : Int) =>
  some (r3, y1.2)
set_option maxHeartbeats 1000000 in
theorem c57 [LO]  {a0 : List (Int × Int × Int)} {a1 : Int} {a2 : Int} {a3 : Int} {a4 : Int} {a5 : Int} {a6 : Int} {x : Int × Int} (H : f57 a0 a1 a2 a3 a4 a5 a6 = some x) : ICalls E 57 [(VS 3 (a0.map e_III)), (.agg ⟨[(.int .i64 a1), (.int .i64 a2), (.int .i64 a3), (.int .i64 a4), (.int .i64 a5), (.int .i64 a6)]⟩)] AHeap.none fun v _ => v = (.tuple ⟨[(.int .i64 x.1), (.int .i64 x.2)]⟩) := by
  refine icalls_fn (pfnw ?_); unfold f57 at H;(conv=>whnf);refine pw_so ?_;refine po_all ?_;(conv=>whnf);refine pw_so ?_;refine po_all ?_;(conv=>whnf);obtain ⟨y1, h2, H⟩ := obnd_some H;refine (c56 h2).go ?_;(conv=>whnf);refine pw_so ?_;refine po_all ?_;(conv=>whnf);obtain ⟨r3, h4, H⟩ := obnd_some H;refine pw_join (ρ := Int) (fun e => ⟨[(7, (.int .i64 y1.2)), (8, (.int .i64 e))], ⟨1, [(0, .rw [(.int .i64 a1), (.int .i64 a2), (.int .i64 a3), (.int .i64 a4), (.int .i64 a5), (.int .i64 a6)])], false⟩⟩) r3 ?_ ?_
  · refine pw_so ?_;refine po_all ?_;(conv=>whnf);refine pw_block ?_;refine pw_loop (τ := Int × Int) (fun e => ⟨[(7, (.int .i64 y1.2)), (8, (.int .i64 e.1)), (17, (VS 2 (y1.1.map e_II))), (18, (.int .i64 ((y1.1.map e_II).length : Int))), (19, (.int .i64 e.2))], ⟨1, [(0, .rw [(.int .i64 a1), (.int .i64 a2), (.int .i64 a3), (.int .i64 a4), (.int .i64 a5), (.int .i64 a6)])], false⟩⟩) h4 ?_ (fun _ => Nat.le_of_ble_eq_true rfl) ?_
    · exact .sub' (Nat.le_of_ble_eq_true rfl) (.cons rfl (.cons rfl (.cons rfl (.cons rfl (.cons rfl .nil)))))
    · intro e7 x8 h9;refine pw_so ?_;refine po_all ?_;(conv=>whnf);refine pw_seq ?_;refine pw_cond ?_;(conv=>whnf);refine pbr_oite h9 (fun g10 h9 => ?_) (fun g10 h9 => ?_)
      · (conv=>whnf);refine pw_skip ?_;(conv=>whnf);refine pw_seq ?_;refine pw_block ?_;refine pw_so ?_;refine po_all ?_;(conv=>whnf);refine pbr_ogrd h9 (fun g11 h9 => ?_);(conv=>whnf);refine nth_o (l := y1.1) h9 (fun x12 _ h9 => ?_);(conv=>whnf);refine pw_draw ?_;(conv=>whnf);refine ⟨?_, trivial⟩;(conv=>whnf);obtain ⟨y13, h14, h9⟩ := obnd_some h9;refine (c100 h14).go ?_;(conv=>whnf);refine ⟨by repeat (first | exact trivial | refine And.intro rfl ?_), ?_⟩;(conv=>whnf);refine ⟨?_, trivial⟩;(conv=>whnf);obtain ⟨y15, h16, h9⟩ := obnd_some h9;refine (c100 h16).go ?_;(conv=>whnf);refine ⟨by repeat (first | exact trivial | refine And.intro rfl ?_), ?_⟩
        (conv=>whnf);refine ⟨?_, trivial⟩;(conv=>whnf);refine ⟨by repeat (first | exact trivial | refine And.intro rfl ?_), ?_⟩;(conv=>whnf);refine pw_ops ?_;refine po_all ?_;(conv=>whnf);cases h9;refine ⟨_, rfl, ?_⟩;refine Recast.trunc (Nat.le_of_ble_eq_true rfl) ?_ ?_
        · repeat (first | exact .nil | refine .cons rfl (by first | exact OBnd.rwc (Nat.le_of_ble_eq_true rfl) rfl | exact OBnd.tail (Nat.le_of_ble_eq_true rfl) | trivial) ?_)
        · repeat (first | exact .nil | refine .cons rfl (by first | exact Bnd.ptr (Nat.le_of_ble_eq_true rfl) | exact Bnd.vt (Nat.le_of_ble_eq_true rfl) | exact Bnd.cl) ?_)
      · (conv=>whnf);refine pw_exit ?_;(conv=>whnf);cases h9;refine ⟨_, rfl, ?_⟩; rintro rfl;(conv=>whnf);exact ⟨(.cons rfl (.cons rfl .nil)), rfl⟩
  · refine pw_so ?_;refine po_all ?_;(conv=>whnf);refine pw_ret ?_;(conv=>whnf);cases H; rfl

/-- guidevane/guidevanebase.Ranges -/
noncomputable def f58 [LO]  (a0 : List (Int × Int)) (a1 : List (Int × Int)) : Option Bool :=
  oite ((!(ieq ((a0.map e_II).length : Int) ((a1.map e_II).length : Int)))) (
   some false
    ) (
   obndS (
    oloop (τ := Int) (ρ := (Unit) ⊕ Bool) (fun e6 =>
     oite ((ilt e6 ((a0.map e_II).length : Int))) (
      ogrd ((ile 0 e6)) (
      obnd (a0[e6.toNat]?) fun (x11 : Int × Int) =>
      obnd (a1[e6.toNat]?) fun (x12 : Int × Int) =>
      oite ((!((ieq x11.1 x12.1) && ((ieq x11.2 x12.2) && true)))) (
       some (.inr (.inr (false)))
        ) (
       some (.inl (IntKind.i64.wrap (e6 + (1 : Int))))
        )
      )
       ) (
      some (.inr (.inl ()))
       )
      ) (0 : Int)
     ) fun (_ : Unit) =>
   some true
    )
set_option maxHeartbeats 1000000 in
theorem c58 [LO]  {a0 : List (Int × Int)} {a1 : List (Int × Int)} {x : Bool} (H : f58 a0 a1 = some x) : ICalls E 58 [(VS 2 (a0.map e_II)), (VS 2 (a1.map e_II))] AHeap.none fun v _ => v = (.bool x) := by
  refine icalls_fn (pfnw ?_); unfold f58 at H;(conv=>whnf);refine pw_so ?_;refine po_all ?_;(conv=>whnf);refine pw_seq ?_;refine pw_so ?_;refine po_all ?_;(conv=>whnf);refine pw_cond ?_;(conv=>whnf);refine pbr_oite H (fun g1 H => ?_) (fun g1 H => ?_)
  · (conv=>whnf);refine pw_so ?_;refine po_all ?_;(conv=>whnf);refine pw_ret ?_;(conv=>whnf);cases H; rfl
  · (conv=>whnf);refine pw_skip ?_;(conv=>whnf);obtain ⟨r2, h3, h4, h5⟩ := obndS_some H;refine pw_joinS (ρ := Unit) (fun e => ⟨[], ⟨0, [], false⟩⟩) r2 ?_ ?_
    · refine pw_so ?_;refine po_all ?_;(conv=>whnf);refine pw_block ?_;refine pw_loop (τ := Int) (fun e => ⟨[(0, (VS 2 (a0.map e_II))), (1, (VS 2 (a1.map e_II))), (5, (.int .i64 e))], ⟨0, [], false⟩⟩) h3 ?_ (fun _ => Nat.le_of_ble_eq_true rfl) ?_
      · exact .sub' (Nat.le_of_ble_eq_true rfl) (.cons rfl (.cons rfl (.cons rfl .nil)))
      · intro e6 x7 h8;refine pw_seq ?_;refine pw_so ?_;refine po_all ?_;(conv=>whnf);refine pw_cond ?_;(conv=>whnf);refine pbr_oite h8 (fun g9 h8 => ?_) (fun g9 h8 => ?_)
        · (conv=>whnf);refine pw_skip ?_;(conv=>whnf);refine pw_seq ?_;refine pw_block ?_;refine pw_sd ?_;(conv=>whnf);refine pbr_ogrd h8 (fun g10 h8 => ?_);(conv=>whnf);refine nth_o (l := a0) h8 (fun x11 _ h8 => ?_);(conv=>whnf);refine pbr_t g10 ?_;(conv=>whnf);refine nth_o (l := a1) h8 (fun x12 _ h8 => ?_);(conv=>whnf);refine pw_cond ?_;(conv=>whnf);refine pbr_oite h8 (fun g13 h8 => ?_) (fun g13 h8 => ?_)
          · (conv=>whnf);refine pw_so ?_;refine po_all ?_;(conv=>whnf);refine pw_ret ?_;(conv=>whnf);cases h8;refine ⟨_, rfl, ?_⟩; rintro rfl;(conv=>whnf);obtain rfl := h5 _ rfl; rfl
          · (conv=>whnf);refine pw_skip ?_;(conv=>whnf);refine pw_ops ?_;refine po_all ?_;(conv=>whnf);cases h8;refine ⟨_, rfl, ?_⟩;exact .sub' (Nat.le_of_ble_eq_true rfl) (.cons rfl (.cons rfl (.cons rfl .nil)))
        · (conv=>whnf);refine pw_exit ?_;(conv=>whnf);cases h8;refine ⟨_, rfl, ?_⟩; rintro rfl;(conv=>whnf);exact ⟨_, rfl, ⟨.nil, rfl⟩⟩
    · intro r16 hr; have H := h4 _ hr;refine pw_so ?_;refine po_all ?_;(conv=>whnf);refine pw_ret ?_;(conv=>whnf);cases H; rfl

/-- guidevane/dam.ForecastOf -/
noncomputable def f59 [LO]  (a0 : List (Int × Int × Int)) (a1 : Int) (a2 : Int) (a3 : Int) (a4 : Int) (a5 : Int) (a6 : Int) (a7 : Int) (a8 : Int) (a9 : Int) : Option (Int × Int × Int) :=
  obnd (f57 a0 a1 a2 a3 a4 a5 a6) fun (y1 : Int × Int) =>
  obnd (f33 a7 a8 a9) fun (y3 : Int) =>
  obnd (f63 ([y1.2, y3] : List Int)) fun (y5 : Int) =>
  oite ((!(ieq y5 (0 : Int)))) (
   some ((0 : Int), (0 : Int), y5)
    ) (
   obnd (
    obnd (f102 a1 a2 a3 a4 a5 a6 a7 a8 a9) fun (y12 : Int) =>
    obnd (f101 y12 a1) fun (y14 : Int × Int) =>
    some (y14.1, y14.2)
     ) fun (r8 : Int × Int) =>
   some ((IntKind.i64.wrap (r8.1 - y1.1)), (IntKind.i64.wrap (r8.2 + y1.1)), (0 : Int))
    )
set_option maxHeartbeats 1000000 in
theorem c59 [LO]  {a0 : List (Int × Int × Int)} {a1 : Int} {a2 : Int} {a3 : Int} {a4 : Int} {a5 : Int} {a6 : Int} {a7 : Int} {a8 : Int} {a9 : Int} {x : Int × Int × Int} (H : f59 a0 a1 a2 a3 a4 a5 a6 a7 a8 a9 = some x) : ICalls E 59 [(VS 3 (a0.map e_III)), (.agg ⟨[(.int .i64 a1), (.int .i64 a2), (.int .i64 a3), (.int .i64 a4), (.int .i64 a5), (.int .i64 a6)]⟩), (.agg ⟨[(.int .i64 a7), (.int .i64 a8), (.int .i64 a9)]⟩)] AHeap.none fun v _ => v = (.tuple ⟨[(.agg ⟨[(.int .i64 x.1), (.int .i64 x.2.1)]⟩), (.int .i64 x.2.2)]⟩) := by
  refine icalls_fn (pfnw ?_); unfold f59 at H;(conv=>whnf);refine pw_so ?_;refine po_all ?_;(conv=>whnf);refine pw_so ?_;refine po_all ?_;(conv=>whnf);obtain ⟨y1, h2, H⟩ := obnd_some H;refine (c57 h2).go ?_;(conv=>whnf);refine pw_seq ?_;refine pw_so ?_;refine po_all ?_;(conv=>whnf);obtain ⟨y3, h4, H⟩ := obnd_some H;refine (c33 h4).go ?_;(conv=>whnf);obtain ⟨y5, h6, H⟩ := obnd_some H;refine ICalls.goW (c63 h6) (.cons (.vt _ _ _) .nil) ?_;(conv=>whnf);refine pw_so ?_;refine po_all ?_;(conv=>whnf);refine pw_cond ?_;(conv=>whnf);refine pbr_oite H (fun g7 H => ?_) (fun g7 H => ?_)
  · (conv=>whnf);refine pw_so ?_;refine po_all ?_;(conv=>whnf);refine pw_ret ?_;(conv=>whnf);cases H; rfl
  · (conv=>whnf);refine pw_skip ?_;(conv=>whnf);obtain ⟨r8, h9, H⟩ := obnd_some H;refine pw_join (ρ := Int × Int) (fun e => ⟨[(6, (.pointer (some ⟨2, 0, none⟩))), (8, (.int .i64 y1.1)), (10, (.pointer (some ⟨4, 0, none⟩)))], ⟨5, [(4, .rw [(.int .i64 e.1), (.int .i64 e.2)]), (3, .tail 2 1), (2, .rw [(.int .i64 0), (.int .i64 0)]), (1, .rw [(.int .i64 a7), (.int .i64 a8), (.int .i64 a9)]), (0, .rw [(.int .i64 a1), (.int .i64 a2), (.int .i64 a3), (.int .i64 a4), (.int .i64 a5), (.int .i64 a6)])], false⟩⟩) r8 ?_ ?_
    · refine pw_draw ?_;(conv=>whnf);refine ⟨?_, ?_⟩
      · (conv=>whnf);obtain ⟨y12, h13, h9⟩ := obnd_some h9;refine (c102 h13).go ?_;(conv=>whnf);refine ⟨by repeat (first | exact trivial | refine And.intro rfl ?_), ?_⟩;(conv=>whnf);refine ⟨?_, ?_⟩
        · (conv=>whnf);obtain ⟨y14, h15, h9⟩ := obnd_some h9;refine (c101 h15).go ?_;(conv=>whnf);refine ⟨by repeat (first | exact trivial | refine And.intro rfl ?_), ?_⟩;(conv=>whnf);refine ⟨?_, trivial⟩;(conv=>whnf);refine ⟨by repeat (first | exact trivial | refine And.intro rfl ?_), ?_⟩;(conv=>whnf);refine ⟨?_, trivial⟩;(conv=>whnf);refine ⟨by repeat (first | exact trivial | refine And.intro rfl ?_), ?_⟩;(conv=>whnf);cases h9;exact ⟨(.cons rfl (.cons rfl (.cons rfl .nil))), rfl⟩
        · obtain ⟨y14, h15, h9⟩ := obnd_some h9;(conv=>whnf);refine ⟨?_, trivial⟩;(conv=>whnf);refine ⟨by repeat (first | exact trivial | refine And.intro rfl ?_), ?_⟩;(conv=>whnf);refine ⟨?_, trivial⟩;(conv=>whnf);refine (c101 h15).go ?_;(conv=>whnf);refine ⟨by repeat (first | exact trivial | refine And.intro rfl ?_), ?_⟩;(conv=>whnf);refine ⟨?_, trivial⟩;(conv=>whnf);refine ⟨by repeat (first | exact trivial | refine And.intro rfl ?_), ?_⟩;(conv=>whnf);cases h9;exact ⟨(.cons rfl (.cons rfl (.cons rfl .nil))), rfl⟩
      · obtain ⟨y12, h13, h9⟩ := obnd_some h9;obtain ⟨y14, h15, h9⟩ := obnd_some h9;(conv=>whnf);refine ⟨?_, trivial⟩;(conv=>whnf);refine ⟨by repeat (first | exact trivial | refine And.intro rfl ?_), ?_⟩;(conv=>whnf);refine ⟨?_, trivial⟩;(conv=>whnf);refine (c102 h13).go ?_;(conv=>whnf);refine ⟨by repeat (first | exact trivial | refine And.intro rfl ?_), ?_⟩;(conv=>whnf);refine ⟨?_, trivial⟩;(conv=>whnf);refine (c101 h15).go ?_;(conv=>whnf);refine ⟨by repeat (first | exact trivial | refine And.intro rfl ?_), ?_⟩;(conv=>whnf);refine ⟨?_, trivial⟩;(conv=>whnf);refine ⟨by repeat (first | exact trivial | refine And.intro rfl ?_), ?_⟩
        (conv=>whnf);cases h9;exact ⟨(.cons rfl (.cons rfl (.cons rfl .nil))), rfl⟩
    · refine pw_so ?_;refine po_all ?_;(conv=>whnf);refine pw_ret ?_;(conv=>whnf);cases H; rfl

/-- guidevane/dam.isValue -/
noncomputable def f84  (a0 : Int) : Option Bool :=
  obnd (f78 a0 (1000000 : Int)) fun (y1 : Bool) =>
  some y1
set_option maxHeartbeats 1000000 in
theorem c84  {a0 : Int} {x : Bool} (H : f84 a0 = some x) : ICalls E 84 [(.int .i64 a0)] AHeap.none fun v _ => v = (.bool x) := by
  refine icalls_fn (pfnw ?_); unfold f84 at H;(conv=>whnf);refine pw_so ?_;refine po_all ?_;(conv=>whnf);refine pw_so ?_;refine po_all ?_;(conv=>whnf);obtain ⟨y1, h2, H⟩ := obnd_some H;refine (c78 h2).go ?_;(conv=>whnf);refine pw_ret ?_;(conv=>whnf);cases H; rfl

/-- guidevane/dam.DeviationOf -/
noncomputable def f42 [LO]  (a0 : Int) (a1 : Int) (a2 : Int) : Option (Int × Int) :=
  obnd (f84 a0) fun (y1 : Bool) =>
  obnd (
   oite y1 (
    obnd (f84 a1) fun (y6 : Bool) =>
    some y6
     ) (
    some false
     )
    ) fun (r3 : Bool) =>
  obnd (
   oite r3 (
    obnd (f84 a2) fun (y11 : Bool) =>
    some y11
     ) (
    some false
     )
    ) fun (r8 : Bool) =>
  obnd (f64 r8 (2 : Int)) fun (y13 : Int) =>
  obnd (f64 (ile a0 a1) (9 : Int)) fun (y15 : Int) =>
  obnd (f63 ([y13, y15] : List Int)) fun (y17 : Int) =>
  oite ((!(ieq y17 (0 : Int)))) (
   some ((0 : Int), y17)
    ) (
   some ((imax (imax (0 : Int) (IntKind.i64.wrap (a0 - a2))) (IntKind.i64.wrap (a2 - a1))), (0 : Int))
    )
set_option maxHeartbeats 1000000 in
theorem c42 [LO]  {a0 : Int} {a1 : Int} {a2 : Int} {x : Int × Int} (H : f42 a0 a1 a2 = some x) : ICalls E 42 [(.agg ⟨[(.int .i64 a0), (.int .i64 a1)]⟩), (.int .i64 a2)] AHeap.none fun v _ => v = (.tuple ⟨[(.int .i64 x.1), (.int .i64 x.2)]⟩) := by
  refine icalls_fn (pfnw ?_); unfold f42 at H;(conv=>whnf);refine pw_so ?_;refine po_all ?_;(conv=>whnf);refine pw_so ?_;refine po_ops 4 ?_;(conv=>whnf);obtain ⟨y1, h2, H⟩ := obnd_some H;refine (c84 h2).go ?_;(conv=>whnf);obtain ⟨r3, h4, H⟩ := obnd_some H;refine po_seg (τ := Bool) 4 (fun e => ⟨[(1, (.int .i64 a2)), (2, (.pointer (some ⟨0, 0, none⟩))), (15, (.bool e))], ⟨1, [(0, .rw [(.int .i64 a0), (.int .i64 a1)])], false⟩⟩) r3 ?_ ?_
  · refine po_all ?_;(conv=>whnf);refine pbr_oite h4 (fun g5 h4 => ?_) (fun g5 h4 => ?_)
    · (conv=>whnf);refine pbr_t g5 ?_;(conv=>whnf);refine pbr_t g5 ?_;(conv=>whnf);obtain ⟨y6, h7, h4⟩ := obnd_some h4;refine (c84 h7).go ?_;(conv=>whnf);refine pbr_t g5 ?_;(conv=>whnf);cases h4;exact ⟨(.cons rfl (.cons rfl (.cons rfl .nil))), rfl⟩
    · (conv=>whnf);refine pbr_f g5 ?_;(conv=>whnf);refine pbr_f g5 ?_;(conv=>whnf);refine pbr_f g5 ?_;(conv=>whnf);cases h4;exact ⟨(.cons rfl (.cons rfl (.cons rfl .nil))), rfl⟩
  · refine po_ops 1 ?_;(conv=>whnf);obtain ⟨r8, h9, H⟩ := obnd_some H;refine po_seg (τ := Bool) 3 (fun e => ⟨[(1, (.int .i64 a2)), (2, (.pointer (some ⟨0, 0, none⟩))), (19, (.bool e))], ⟨1, [(0, .rw [(.int .i64 a0), (.int .i64 a1)])], false⟩⟩) r8 ?_ ?_
    · refine po_all ?_;(conv=>whnf);refine pbr_oite h9 (fun g10 h9 => ?_) (fun g10 h9 => ?_)
      · (conv=>whnf);refine pbr_t g10 ?_;(conv=>whnf);obtain ⟨y11, h12, h9⟩ := obnd_some h9;refine (c84 h12).go ?_;(conv=>whnf);refine pbr_t g10 ?_;(conv=>whnf);cases h9;exact ⟨(.cons rfl (.cons rfl (.cons rfl .nil))), rfl⟩
      · (conv=>whnf);refine pbr_f g10 ?_;(conv=>whnf);refine pbr_f g10 ?_;(conv=>whnf);cases h9;exact ⟨(.cons rfl (.cons rfl (.cons rfl .nil))), rfl⟩
    · refine po_all ?_;(conv=>whnf);refine pw_seq ?_;refine pw_sd ?_;(conv=>whnf);refine ⟨?_, trivial⟩;(conv=>whnf);obtain ⟨y13, h14, H⟩ := obnd_some H;refine (c64 h14).go ?_;(conv=>whnf);refine ⟨by repeat (first | exact trivial | refine And.intro rfl ?_), ?_⟩;(conv=>whnf);refine ⟨?_, trivial⟩;(conv=>whnf);obtain ⟨y15, h16, H⟩ := obnd_some H;refine (c64 h16).go ?_;(conv=>whnf);refine ⟨by repeat (first | exact trivial | refine And.intro rfl ?_), ?_⟩;(conv=>whnf);refine ⟨?_, trivial⟩;(conv=>whnf);refine ⟨by repeat (first | exact trivial | refine And.intro rfl ?_), ?_⟩;(conv=>whnf);refine ⟨?_, trivial⟩;(conv=>whnf)
      obtain ⟨y17, h18, H⟩ := obnd_some H;refine ICalls.goW (c63 h18) (.cons (.vt _ _ _) .nil) ?_;(conv=>whnf);refine ⟨by repeat (first | exact trivial | refine And.intro rfl ?_), ?_⟩;(conv=>whnf);refine pw_so ?_;refine po_all ?_;(conv=>whnf);refine pw_cond ?_;(conv=>whnf);refine pbr_oite H (fun g19 H => ?_) (fun g19 H => ?_)
      · (conv=>whnf);refine pw_so ?_;refine po_all ?_;(conv=>whnf);refine pw_ret ?_;(conv=>whnf);cases H; rfl
      · (conv=>whnf);refine pw_skip ?_;(conv=>whnf);refine pw_so ?_;refine po_all ?_;(conv=>whnf);refine pw_ret ?_;(conv=>whnf);cases H; rfl

/-- guidevane/guidevanetop.TopDamInvariant -/
noncomputable def f9 [LO]  (a0 : List (Int × Int × Int)) (a1 : Int) (a2 : Int) (a3 : Int) (a4 : Int) (a5 : Int) (a6 : Int) (a7 : Int) (a8 : Int) (a9 : Int) : Option Bool :=
  obnd (f50) fun (y1 : Bool) =>
  oite (!y1) (
   some false
    ) (
   obnd (
    obnd (
     oite ((ilt (12 : Int) ((a0.map e_III).length : Int))) (
      some true
       ) (
      obnd (f51 a0) fun (y11 : Int) =>
      some (!(ieq y11 (0 : Int)))
       )
      ) fun (r8 : Bool) =>
    obnd (
     oite r8 (
      some true
       ) (
      obnd (f32 a1 a2 a3) fun (y16 : Int) =>
      some (!(ieq y16 (0 : Int)))
       )
      ) fun (r13 : Bool) =>
    oite r13 (
     some true
      ) (
     obnd (f52 a4) fun (y19 : Int) =>
     some (!(ieq y19 (0 : Int)))
      )
     ) fun (r4 : Bool) =>
   oite r4 (
    some true
     ) (
    obndS (
     obnd (f15 a5 (-100 : Int) (100 : Int)) fun (y26 : Bool) =>
     oite (!y26) (
      some (.inr (true))
       ) (
      obnd (f15 a6 (-100 : Int) (100 : Int)) fun (y29 : Bool) =>
      oite (!y29) (
       some (.inr (true))
        ) (
       obnd (f15 a7 (-100 : Int) (100 : Int)) fun (y32 : Bool) =>
       oite (!y32) (
        some (.inr (true))
         ) (
        obnd (f15 a8 (-100 : Int) (100 : Int)) fun (y35 : Bool) =>
        oite (!y35) (
         some (.inr (true))
          ) (
         obnd (f15 a9 (-100 : Int) (100 : Int)) fun (y38 : Bool) =>
         oite (!y38) (
          some (.inr (true))
           ) (
          some (.inl ())
           )
          )
         )
        )
       )
      ) fun (_ : Unit) =>
    obnd (f53s a0) fun (y42 : (List (Int × Int × Int))) =>
    obnd (
     oloop (τ := Int × (List (Int × Int × Int))) (ρ := (List (Int × Int × Int))) (fun e48 =>
      oite ((ilt e48.1 (y42.length : Int))) (
       ogrd ((ile 0 e48.1)) (
       obnd (e48.2[e48.1.toNat]?) fun (x53 : Int × Int × Int) =>
       obnd (a0[e48.1.toNat]?) fun (x55 : Int × Int × Int) =>
       obnd (f54 a4 a5 a6 a7 a8 a9 x55.1 x55.2.1 x55.2.2) fun (y56 : Int) =>
       some (.inl (((IntKind.i64.wrap (e48.1 + (1 : Int))), (e48.2.set e48.1.toNat (x53.1, x53.2.1, (IntKind.i64.wrap (x53.2.2 + y56)))))))
       )
        ) (
       oinr (
         ogrd (Nat.beq y42.length e48.2.length) (
         some e48.2
         )
         )
        )
       ) ((0 : Int), y42)
      ) fun (r44 : (List (Int × Int × Int))) =>
    obnd (f54 a4 a5 a6 a7 a8 a9 a1 a2 a3) fun (y61 : Int) =>
    obnd (
     obnd (f51 r44) fun (y67 : Int) =>
     oite ((!(ieq y67 (0 : Int)))) (
      some true
       ) (
      obnd (f32 a1 a2 (IntKind.i64.wrap (a3 + y61))) fun (y70 : Int) =>
      some (!(ieq y70 (0 : Int)))
       )
      ) fun (r63 : Bool) =>
    oite r63 (
     some true
      ) (
     obnd (
      obnd (f53 a0) fun (y77 : (List (Int × Int × Int))) =>
      obnd (f55 y77 a4) fun (y79 : Int × Int × Int × Int × Int × Int × Int) =>
      some (y79.2.2.2.2.2.2, y79.1, y79.2.1, y79.2.2.1, y79.2.2.2.1, y79.2.2.2.2.1, y79.2.2.2.2.2.1)
       ) fun (r73 : Int × Int × Int × Int × Int × Int × Int) =>
     obnd (
      obnd (f53 r44) fun (y85 : (List (Int × Int × Int))) =>
      obnd (f55 y85 a4) fun (y87 : Int × Int × Int × Int × Int × Int × Int) =>
      some (y87.2.2.2.2.2.2, y87.1, y87.2.1, y87.2.2.1, y87.2.2.2.1, y87.2.2.2.2.1, y87.2.2.2.2.2.1)
       ) fun (r81 : Int × Int × Int × Int × Int × Int × Int) =>
     obnd (
      oite ((ieq r73.1 (12 : Int))) (
       some true
        ) (
       some (ieq r81.1 (12 : Int))
        )
       ) fun (r89 : Bool) =>
     oite r89 (
      some (ieq r73.1 r81.1)
       ) (
      obnd (
       oite ((!(ieq r73.1 (0 : Int)))) (
        some true
         ) (
        some (!(ieq r81.1 (0 : Int)))
         )
        ) fun (r95 : Bool) =>
      oite r95 (
       obnd (
        oite ((ieq r73.1 (0 : Int))) (
         some true
          ) (
         some (ieq r73.1 (8 : Int))
          )
         ) fun (r101 : Bool) =>
       obnd (
        oite r101 (
         oite ((ieq r81.1 (0 : Int))) (
          some true
           ) (
          some (ieq r81.1 (8 : Int))
           )
          ) (
         some false
          )
         ) fun (r104 : Bool) =>
       some r104
        ) (
       obnd (f53 a0) fun (y108 : (List (Int × Int × Int))) =>
       obnd (f56 y108 r73.2.1 r73.2.2.1 r73.2.2.2.1 r73.2.2.2.2.1 r73.2.2.2.2.2.1 r73.2.2.2.2.2.2) fun (y110 : (List (Int × Int)) × Int) =>
       obnd (f53 r44) fun (y112 : (List (Int × Int × Int))) =>
       obnd (f56 y112 r81.2.1 r81.2.2.1 r81.2.2.2.1 r81.2.2.2.2.1 r81.2.2.2.2.2.1 r81.2.2.2.2.2.2) fun (y114 : (List (Int × Int)) × Int) =>
       obnd (f53 a0) fun (y116 : (List (Int × Int × Int))) =>
       obnd (f57 y116 r73.2.1 r73.2.2.1 r73.2.2.2.1 r73.2.2.2.2.1 r73.2.2.2.2.2.1 r73.2.2.2.2.2.2) fun (y118 : Int × Int) =>
       obnd (f53 r44) fun (y120 : (List (Int × Int × Int))) =>
       obnd (f57 y120 r81.2.1 r81.2.2.1 r81.2.2.2.1 r81.2.2.2.2.1 r81.2.2.2.2.2.1 r81.2.2.2.2.2.2) fun (y122 : Int × Int) =>
       obnd (
        obnd (
         oite ((!(ieq y110.2 (0 : Int)))) (
          some true
           ) (
          some (!(ieq y114.2 (0 : Int)))
           )
          ) fun (r128 : Bool) =>
        obnd (
         oite r128 (
          some true
           ) (
          obnd (f58 y110.1 y114.1) fun (y134 : Bool) =>
          some (!y134)
           )
          ) fun (r131 : Bool) =>
        obnd (
         oite r131 (
          some true
           ) (
          some (!(ieq y118.2 (0 : Int)))
           )
          ) fun (r136 : Bool) =>
        obnd (
         oite r136 (
          some true
           ) (
          some (!(ieq y122.2 (0 : Int)))
           )
          ) fun (r139 : Bool) =>
        oite r139 (
         some true
          ) (
         some (!(ieq y118.1 y122.1))
          )
         ) fun (r124 : Bool) =>
       oite r124 (
        some false
         ) (
        obnd (f59 a0 r73.2.1 r73.2.2.1 r73.2.2.2.1 r73.2.2.2.2.1 r73.2.2.2.2.2.1 r73.2.2.2.2.2.2 a1 a2 a3) fun (y144 : Int × Int × Int) =>
        obnd (f59 r44 r81.2.1 r81.2.2.1 r81.2.2.2.1 r81.2.2.2.2.1 r81.2.2.2.2.2.1 r81.2.2.2.2.2.2 a1 a2 (IntKind.i64.wrap (a3 + y61))) fun (y146 : Int × Int × Int) =>
        obnd (
         oite ((!(ieq y144.2.2 (0 : Int)))) (
          some true
           ) (
          oite ((!(ieq y146.2.2 (0 : Int)))) (
           some true
            ) (
           obnd (f15 y144.1 (-1125899906842624 : Int) (1125899906842624 : Int)) fun (y154 : Bool) =>
           oite (!y154) (
            some true
             ) (
            obnd (f15 y144.2.1 y144.1 (1125899906842624 : Int)) fun (y157 : Bool) =>
            oite (!y157) (
             some true
              ) (
             obnd (f54 a4 a5 a6 a7 a8 a9 a1 a2 a3) fun (y160 : Int) =>
             obnd (f54 a4 a5 a6 a7 a8 a9 a1 a2 a3) fun (y162 : Int) =>
             some (!((ieq y146.1 (IntKind.i64.wrap (y144.1 + y160))) && ((ieq y146.2.1 (IntKind.i64.wrap (y144.2.1 + y162))) && true)))
              )
             )
            )
           )
          ) fun (r148 : Bool) =>
        oite r148 (
         some false
          ) (
         obnd (f42 y144.1 y144.2.1 a3) fun (y165 : Int × Int) =>
         obnd (f42 y146.1 y146.2.1 (IntKind.i64.wrap (a3 + y61))) fun (y167 : Int × Int) =>
         obnd (
          oite ((!(ieq y165.2 (0 : Int)))) (
           some true
            ) (
           some (!(ieq y167.2 (0 : Int)))
            )
           ) fun (r169 : Bool) =>
         obnd (
          oite r169 (
           some true
            ) (
           some (ieq y165.1 y167.1)
            )
           ) fun (r172 : Bool) =>
         some r172
          )
         )
        )
       )
      )
     )
    )
set_option maxHeartbeats 1000000 in
theorem c9 [LO]  {a0 : List (Int × Int × Int)} {a1 : Int} {a2 : Int} {a3 : Int} {a4 : Int} {a5 : Int} {a6 : Int} {a7 : Int} {a8 : Int} {a9 : Int} {x : Bool} (H : f9 a0 a1 a2 a3 a4 a5 a6 a7 a8 a9 = some x) : ICalls E 9 [(VS 3 (a0.map e_III)), (.agg ⟨[(.int .i64 a1), (.int .i64 a2), (.int .i64 a3)]⟩), (.agg ⟨[(.int .i64 a4), (.int .i64 a5), (.int .i64 a6), (.int .i64 a7), (.int .i64 a8), (.int .i64 a9)]⟩)] AHeap.none fun v _ => v = (.bool x) := by
  refine icalls_fn (pfnw ?_); unfold f9 at H;(conv=>whnf);refine pw_so ?_;refine po_all ?_;(conv=>whnf);refine pw_seq ?_;refine pw_so ?_;refine po_all ?_;(conv=>whnf);obtain ⟨y1, h2, H⟩ := obnd_some H;refine (c50 h2).go ?_;(conv=>whnf);refine pw_cond ?_;(conv=>whnf);refine pbr_oite H (fun g3 H => ?_) (fun g3 H => ?_)
  · (conv=>whnf);refine pw_so ?_;refine po_all ?_;(conv=>whnf);refine pw_ret ?_;(conv=>whnf);cases H; rfl
  · (conv=>whnf);refine pw_skip ?_;(conv=>whnf);refine pw_seq ?_;obtain ⟨r4, h5, H⟩ := obnd_some H;refine pw_join (ρ := Bool) (fun e => ⟨[(0, (VS 3 (a0.map e_III))), (4, (.pointer (some ⟨0, 0, none⟩))), (5, (.pointer (some ⟨1, 0, none⟩))), (51, (.bool e))], ⟨2, [(1, .rw [(.int .i64 a4), (.int .i64 a5), (.int .i64 a6), (.int .i64 a7), (.int .i64 a8), (.int .i64 a9)]), (0, .rw [(.int .i64 a1), (.int .i64 a2), (.int .i64 a3)])], false⟩⟩) r4 ?_ ?_
    · refine pw_ops ?_;refine po_ops 4 ?_;(conv=>whnf);obtain ⟨r8, h9, h5⟩ := obnd_some h5;refine po_seg (τ := Bool) 4 (fun e => ⟨[(0, (VS 3 (a0.map e_III))), (4, (.pointer (some ⟨0, 0, none⟩))), (5, (.pointer (some ⟨1, 0, none⟩))), (40, (.bool e))], ⟨2, [(1, .rw [(.int .i64 a4), (.int .i64 a5), (.int .i64 a6), (.int .i64 a7), (.int .i64 a8), (.int .i64 a9)]), (0, .rw [(.int .i64 a1), (.int .i64 a2), (.int .i64 a3)])], false⟩⟩) r8 ?_ ?_
      · refine po_all ?_;(conv=>whnf);refine pbr_oite h9 (fun g10 h9 => ?_) (fun g10 h9 => ?_)
        · (conv=>whnf);refine pbr_t g10 ?_;(conv=>whnf);refine pbr_t g10 ?_;(conv=>whnf);refine pbr_t g10 ?_;(conv=>whnf);cases h9;exact ⟨(.cons rfl (.cons rfl (.cons rfl (.cons rfl .nil)))), rfl⟩
        · (conv=>whnf);refine pbr_f g10 ?_;(conv=>whnf);obtain ⟨y11, h12, h9⟩ := obnd_some h9;refine (c51 h12).go ?_;(conv=>whnf);refine pbr_f g10 ?_;(conv=>whnf);refine pbr_f g10 ?_;(conv=>whnf);cases h9;exact ⟨(.cons rfl (.cons rfl (.cons rfl (.cons rfl .nil)))), rfl⟩
      · refine po_ops 1 ?_;(conv=>whnf);obtain ⟨r13, h14, h5⟩ := obnd_some h5;refine po_seg (τ := Bool) 4 (fun e => ⟨[(0, (VS 3 (a0.map e_III))), (4, (.pointer (some ⟨0, 0, none⟩))), (5, (.pointer (some ⟨1, 0, none⟩))), (45, (.bool e))], ⟨2, [(1, .rw [(.int .i64 a4), (.int .i64 a5), (.int .i64 a6), (.int .i64 a7), (.int .i64 a8), (.int .i64 a9)]), (0, .rw [(.int .i64 a1), (.int .i64 a2), (.int .i64 a3)])], false⟩⟩) r13 ?_ ?_
        · refine po_all ?_;(conv=>whnf);refine pbr_oite h14 (fun g15 h14 => ?_) (fun g15 h14 => ?_)
          · (conv=>whnf);refine pbr_t g15 ?_;(conv=>whnf);refine pbr_t g15 ?_;(conv=>whnf);refine pbr_t g15 ?_;(conv=>whnf);cases h14;exact ⟨(.cons rfl (.cons rfl (.cons rfl (.cons rfl .nil)))), rfl⟩
          · (conv=>whnf);refine pbr_f g15 ?_;(conv=>whnf);obtain ⟨y16, h17, h14⟩ := obnd_some h14;refine (c32 h17).go ?_;(conv=>whnf);refine pbr_f g15 ?_;(conv=>whnf);refine pbr_f g15 ?_;(conv=>whnf);cases h14;exact ⟨(.cons rfl (.cons rfl (.cons rfl (.cons rfl .nil)))), rfl⟩
        · refine po_all ?_;(conv=>whnf);refine pbr_oite h5 (fun g18 h5 => ?_) (fun g18 h5 => ?_)
          · (conv=>whnf);refine pbr_t g18 ?_;(conv=>whnf);refine pbr_t g18 ?_;(conv=>whnf);refine pbr_t g18 ?_;(conv=>whnf);refine pbr_t g18 ?_;(conv=>whnf);cases h5;exact ⟨(.cons rfl (.cons rfl (.cons rfl (.cons rfl .nil)))), rfl⟩
          · (conv=>whnf);refine pbr_f g18 ?_;(conv=>whnf);refine pbr_f g18 ?_;(conv=>whnf);obtain ⟨y19, h20, h5⟩ := obnd_some h5;refine (c52 h20).go ?_;(conv=>whnf);refine pbr_f g18 ?_;(conv=>whnf);refine pbr_f g18 ?_;(conv=>whnf);cases h5;exact ⟨(.cons rfl (.cons rfl (.cons rfl (.cons rfl .nil)))), rfl⟩
    · refine pw_cond ?_;(conv=>whnf);refine pbr_oite H (fun g21 H => ?_) (fun g21 H => ?_)
      · (conv=>whnf);refine pw_so ?_;refine po_all ?_;(conv=>whnf);refine pw_ret ?_;(conv=>whnf);cases H; rfl
      · (conv=>whnf);refine pw_skip ?_;(conv=>whnf);obtain ⟨r22, h23, h24, h25⟩ := obndS_some H;refine pw_joinS (ρ := Unit) (fun e => ⟨[(0, (VS 3 (a0.map e_III))), (4, (.pointer (some ⟨0, 0, none⟩))), (5, (.pointer (some ⟨1, 0, none⟩)))], ⟨2, [(1, .rw [(.int .i64 a4), (.int .i64 a5), (.int .i64 a6), (.int .i64 a7), (.int .i64 a8), (.int .i64 a9)]), (0, .rw [(.int .i64 a1), (.int .i64 a2), (.int .i64 a3)])], false⟩⟩) r22 ?_ ?_
        · refine pw_so ?_;refine po_all ?_;(conv=>whnf);refine pw_block ?_;refine pw_unroll 6 ?_;(conv=>whnf);refine pw_seq ?_;refine pw_so ?_;refine po_all ?_;(conv=>whnf);refine pw_cond ?_;(conv=>whnf);refine pw_skip ?_;(conv=>whnf);refine pw_seq ?_;refine pw_block ?_;refine pw_so ?_;refine po_all ?_;(conv=>whnf);obtain ⟨y26, h27, h23⟩ := obnd_some h23;refine (c15 h27).go ?_;(conv=>whnf);refine pw_cond ?_;(conv=>whnf);refine pbr_oite h23 (fun g28 h23 => ?_) (fun g28 h23 => ?_)
          · (conv=>whnf);refine pw_so ?_;refine po_all ?_;(conv=>whnf);refine pw_ret ?_;(conv=>whnf);cases h23;obtain rfl := h25 _ rfl; rfl
          · (conv=>whnf);refine pw_skip ?_;(conv=>whnf);refine pw_ops ?_;refine po_all ?_;(conv=>whnf);refine ⟨_, .refl, Nat.le_of_ble_eq_true rfl, ?_⟩;(conv=>whnf);refine pw_seq ?_;refine pw_so ?_;refine po_all ?_;(conv=>whnf);refine pw_cond ?_;(conv=>whnf);refine pw_skip ?_;(conv=>whnf);refine pw_seq ?_;refine pw_block ?_;refine pw_so ?_;refine po_all ?_;(conv=>whnf);obtain ⟨y29, h30, h23⟩ := obnd_some h23;refine (c15 h30).go ?_;(conv=>whnf);refine pw_cond ?_;(conv=>whnf);refine pbr_oite h23 (fun g31 h23 => ?_) (fun g31 h23 => ?_)
            · (conv=>whnf);refine pw_so ?_;refine po_all ?_;(conv=>whnf);refine pw_ret ?_;(conv=>whnf);cases h23;obtain rfl := h25 _ rfl; rfl
            · (conv=>whnf);refine pw_skip ?_;(conv=>whnf);refine pw_ops ?_;refine po_all ?_;(conv=>whnf);refine ⟨_, .refl, Nat.le_of_ble_eq_true rfl, ?_⟩;(conv=>whnf);refine pw_seq ?_;refine pw_so ?_;refine po_all ?_;(conv=>whnf);refine pw_cond ?_;(conv=>whnf);refine pw_skip ?_;(conv=>whnf);refine pw_seq ?_;refine pw_block ?_;refine pw_so ?_;refine po_all ?_;(conv=>whnf);obtain ⟨y32, h33, h23⟩ := obnd_some h23;refine (c15 h33).go ?_;(conv=>whnf);refine pw_cond ?_;(conv=>whnf);refine pbr_oite h23 (fun g34 h23 => ?_) (fun g34 h23 => ?_)
              · (conv=>whnf);refine pw_so ?_;refine po_all ?_;(conv=>whnf);refine pw_ret ?_;(conv=>whnf);cases h23;obtain rfl := h25 _ rfl; rfl
              · (conv=>whnf);refine pw_skip ?_;(conv=>whnf);refine pw_ops ?_;refine po_all ?_;(conv=>whnf);refine ⟨_, .refl, Nat.le_of_ble_eq_true rfl, ?_⟩;(conv=>whnf);refine pw_seq ?_;refine pw_so ?_;refine po_all ?_;(conv=>whnf);refine pw_cond ?_;(conv=>whnf);refine pw_skip ?_;(conv=>whnf);refine pw_seq ?_;refine pw_block ?_;refine pw_so ?_;refine po_all ?_;(conv=>whnf);obtain ⟨y35, h36, h23⟩ := obnd_some h23;refine (c15 h36).go ?_;(conv=>whnf);refine pw_cond ?_;(conv=>whnf);refine pbr_oite h23 (fun g37 h23 => ?_) (fun g37 h23 => ?_)
                · (conv=>whnf);refine pw_so ?_;refine po_all ?_;(conv=>whnf);refine pw_ret ?_;(conv=>whnf);cases h23;obtain rfl := h25 _ rfl; rfl
                · (conv=>whnf);refine pw_skip ?_;(conv=>whnf);refine pw_ops ?_;refine po_all ?_;(conv=>whnf);refine ⟨_, .refl, Nat.le_of_ble_eq_true rfl, ?_⟩;(conv=>whnf);refine pw_seq ?_;refine pw_so ?_;refine po_all ?_;(conv=>whnf);refine pw_cond ?_;(conv=>whnf);refine pw_skip ?_;(conv=>whnf);refine pw_seq ?_;refine pw_block ?_;refine pw_so ?_;refine po_all ?_;(conv=>whnf);obtain ⟨y38, h39, h23⟩ := obnd_some h23;refine (c15 h39).go ?_;(conv=>whnf);refine pw_cond ?_;(conv=>whnf);refine pbr_oite h23 (fun g40 h23 => ?_) (fun g40 h23 => ?_)
                  · (conv=>whnf);refine pw_so ?_;refine po_all ?_;(conv=>whnf);refine pw_ret ?_;(conv=>whnf);cases h23;obtain rfl := h25 _ rfl; rfl
                  · (conv=>whnf);refine pw_skip ?_;(conv=>whnf);refine pw_ops ?_;refine po_all ?_;(conv=>whnf);refine ⟨_, .refl, Nat.le_of_ble_eq_true rfl, ?_⟩;(conv=>whnf);refine pw_seq ?_;refine pw_so ?_;refine po_all ?_;(conv=>whnf);refine pw_cond ?_;(conv=>whnf);refine pw_exit ?_;(conv=>whnf);cases h23;exact ⟨_, rfl, ⟨(.cons rfl (.cons rfl (.cons rfl .nil))), rfl⟩⟩
        · intro r41 hr; have H := h24 _ hr;refine pw_so ?_;refine po_all ?_;(conv=>whnf);obtain ⟨y42, h43, H⟩ := obnd_some H;refine ICalls.goS (f := e_III) (c53s h43) (.cons (.refl _) .nil) ?_;(conv=>whnf);obtain ⟨r44, h45, H⟩ := obnd_some H;refine pw_joinR (ρ := (List (Int × Int × Int))) (fun e => ⟨[(0, (VS 3 (a0.map e_III))), (4, (.pointer (some ⟨0, 0, none⟩))), (5, (.pointer (some ⟨1, 0, none⟩))), (8, (VS 3 (e.map e_III)))], ⟨3, [(1, .rw [(.int .i64 a4), (.int .i64 a5), (.int .i64 a6), (.int .i64 a7), (.int .i64 a8), (.int .i64 a9)]), (0, .rw [(.int .i64 a1), (.int .i64 a2), (.int .i64 a3)])], false⟩⟩) r44 ?_ ?_
          · refine pw_so ?_;refine po_all ?_;(conv=>whnf);refine pw_block ?_;refine pw_loop (τ := Int × (List (Int × Int × Int))) (fun e => ⟨[(0, (VS 3 (a0.map e_III))), (4, (.pointer (some ⟨0, 0, none⟩))), (5, (.pointer (some ⟨1, 0, none⟩))), (8, (.slice (some ⟨2, 0, none⟩) y42.length 4)), (9, (.int .i64 e.1))], ⟨3, [(2, .rw (flat (e.2.map e_III))), (1, .rw [(.int .i64 a4), (.int .i64 a5), (.int .i64 a6), (.int .i64 a7), (.int .i64 a8), (.int .i64 a9)]), (0, .rw [(.int .i64 a1), (.int .i64 a2), (.int .i64 a3)])], false⟩⟩) h45 ?_ (fun _ => Nat.le_of_ble_eq_true rfl) ?_
            · exact .sub' (Nat.le_of_ble_eq_true rfl) (.cons rfl (.cons rfl (.cons rfl (.cons rfl (.cons rfl .nil)))))
            · intro e48 x49 h50;refine pw_seq ?_;refine pw_so ?_;refine po_all ?_;(conv=>whnf);refine pw_cond ?_;(conv=>whnf);refine pbr_oite h50 (fun g51 h50 => ?_) (fun g51 h50 => ?_)
              · (conv=>whnf);refine pw_skip ?_;(conv=>whnf);refine pw_seq ?_;refine pw_block ?_;refine pw_draw ?_;(conv=>whnf);refine pbr_ogrd h50 (fun g52 h50 => ?_);(conv=>whnf);refine pbr_t g51 ?_;(conv=>whnf);obtain ⟨x53, h54, h50⟩ := obnd_some h50;refine nth_st (f := e_III) (l := e48.2) (n := e48.1.toNat) (j := 2) (x := x53) h54 rfl rfl ?_;(conv=>whnf);refine pbr_t g52 ?_;(conv=>whnf);refine nth_o (l := a0) h50 (fun x55 _ h50 => ?_);(conv=>whnf);refine ⟨?_, trivial⟩;(conv=>whnf);obtain ⟨y56, h57, h50⟩ := obnd_some h50;refine (c54 h57).go ?_;(conv=>whnf);refine ⟨by repeat (first | exact trivial | refine And.intro rfl ?_ | refine And.intro (lev_st (f := e_III) (l := e48.2) (n := e48.1.toNat) (j := 2) (x := x53) rfl h54 rfl rfl) ?_), ?_⟩
                (conv=>whnf);refine pbr_t g52 ?_;(conv=>whnf);refine pbr_t g51 ?_;(conv=>whnf);refine ⟨?_, trivial⟩;(conv=>whnf);refine set_st (f := e_III) (l := e48.2) (n := e48.1.toNat) (j := 2) (x := x53) (y := (x53.1, x53.2.1, (IntKind.i64.wrap (x53.2.2 + y56)))) h54 rfl rfl rfl ?_;(conv=>whnf);refine ⟨by repeat (first | exact trivial | refine And.intro rfl ?_ | refine And.intro (lev_st (f := e_III) (l := e48.2) (n := e48.1.toNat) (j := 2) (x := x53) rfl h54 rfl rfl) ?_), ?_⟩;(conv=>whnf);refine pw_ops ?_;refine po_all ?_;(conv=>whnf);cases h50;refine ⟨_, rfl, ?_⟩;exact .sub' (Nat.le_of_ble_eq_true rfl) (.cons rfl (.cons rfl (.cons rfl (.cons rfl (.cons rfl .nil)))))
              · (conv=>whnf);refine pw_exit ?_;(conv=>whnf);obtain ⟨w60, rfl, h58⟩ := oinr_some h50;refine ⟨_, rfl, ?_⟩; rintro rfl;(conv=>whnf);obtain ⟨g59, h58⟩ := ogrd_some h58;cases h58;exact Recast.fz (fun b => Nat.beq b 2) (Nat.le_of_ble_eq_true rfl) (.cons (.same rfl rfl (OBnd.rwl (Nat.le_of_ble_eq_true rfl) rfl (.cons .cl (.cons .cl (.cons .cl (.cons .cl (.cons .cl (.cons .cl .nil)))))))) (.cons (.same rfl rfl (OBnd.rwl (Nat.le_of_ble_eq_true rfl) rfl (.cons .cl (.cons .cl (.cons .cl .nil))))) .nil)) (.cons rfl (.same _ .cl) (.cons rfl (.same _ (.ptr (Nat.le_of_ble_eq_true rfl))) (.cons rfl (.same _ (.ptr (Nat.le_of_ble_eq_true rfl))) (.cons rfl (.sls rfl rfl rfl g59) .nil))))
          · refine pw_so ?_;refine po_all ?_;(conv=>whnf);refine pw_sd ?_;(conv=>whnf);refine ⟨?_, trivial⟩;(conv=>whnf);obtain ⟨y61, h62, H⟩ := obnd_some H;refine (c54 h62).go ?_;(conv=>whnf);refine ⟨by repeat (first | exact trivial | refine And.intro rfl ?_), ?_⟩;(conv=>whnf);refine ⟨?_, trivial⟩;(conv=>whnf);refine ⟨by repeat (first | exact trivial | refine And.intro rfl ?_), ?_⟩;(conv=>whnf);refine pw_seq ?_;obtain ⟨r63, h64, H⟩ := obnd_some H;refine pw_join (ρ := Bool) (fun e => ⟨[(0, (VS 3 (a0.map e_III))), (4, (.pointer (some ⟨0, 0, none⟩))), (5, (.pointer (some ⟨1, 0, none⟩))), (8, (VS 3 (r44.map e_III))), (10, (.pointer (some ⟨3, 0, none⟩))), (101, (.bool e))], ⟨4, [(3, .rw [(.int .i64 a1), (.int .i64 a2), (.int .i64 (IntKind.i64.wrap (a3 + y61)))]), (1, .rw [(.int .i64 a4), (.int .i64 a5), (.int .i64 a6), (.int .i64 a7), (.int .i64 a8), (.int .i64 a9)]), (0, .rw [(.int .i64 a1), (.int .i64 a2), (.int .i64 a3)])], false⟩⟩) r63 ?_ ?_
            · refine pw_ops ?_;refine po_all ?_;(conv=>whnf);obtain ⟨y67, h68, h64⟩ := obnd_some h64;refine (c51 h68).go ?_;(conv=>whnf);refine pbr_oite h64 (fun g69 h64 => ?_) (fun g69 h64 => ?_)
              · (conv=>whnf);refine pbr_t g69 ?_;(conv=>whnf);refine pbr_t g69 ?_;(conv=>whnf);refine pbr_t g69 ?_;(conv=>whnf);cases h64;exact ⟨(.cons rfl (.cons rfl (.cons rfl (.cons rfl (.cons rfl (.cons rfl .nil)))))), rfl⟩
              · (conv=>whnf);refine pbr_f g69 ?_;(conv=>whnf);obtain ⟨y70, h71, h64⟩ := obnd_some h64;refine (c32 h71).go ?_;(conv=>whnf);refine pbr_f g69 ?_;(conv=>whnf);refine pbr_f g69 ?_;(conv=>whnf);cases h64;exact ⟨(.cons rfl (.cons rfl (.cons rfl (.cons rfl (.cons rfl (.cons rfl .nil)))))), rfl⟩
            · refine pw_cond ?_;(conv=>whnf);refine pbr_oite H (fun g72 H => ?_) (fun g72 H => ?_)
              · (conv=>whnf);refine pw_so ?_;refine po_all ?_;(conv=>whnf);refine pw_ret ?_;(conv=>whnf);cases H; rfl
              · (conv=>whnf);refine pw_skip ?_;(conv=>whnf);obtain ⟨r73, h74, H⟩ := obnd_some H;refine pw_join (ρ := Int × Int × Int × Int × Int × Int × Int) (fun e => ⟨[(0, (VS 3 (a0.map e_III))), (4, (.pointer (some ⟨0, 0, none⟩))), (5, (.pointer (some ⟨1, 0, none⟩))), (8, (VS 3 (r44.map e_III))), (10, (.pointer (some ⟨3, 0, none⟩))), (11, (.pointer (some ⟨4, 0, none⟩))), (12, (.int .i64 e.1))], ⟨5, [(4, .rw [(.int .i64 e.2.1), (.int .i64 e.2.2.1), (.int .i64 e.2.2.2.1), (.int .i64 e.2.2.2.2.1), (.int .i64 e.2.2.2.2.2.1), (.int .i64 e.2.2.2.2.2.2)]), (3, .rw [(.int .i64 a1), (.int .i64 a2), (.int .i64 (IntKind.i64.wrap (a3 + y61)))]), (1, .rw [(.int .i64 a4), (.int .i64 a5), (.int .i64 a6), (.int .i64 a7), (.int .i64 a8), (.int .i64 a9)]), (0, .rw [(.int .i64 a1), (.int .i64 a2), (.int .i64 a3)])], false⟩⟩) r73 ?_ ?_
                · refine pw_draw ?_;(conv=>whnf);refine ⟨?_, ?_⟩
                  · (conv=>whnf);obtain ⟨y77, h78, h74⟩ := obnd_some h74;refine (c53 h78).go ?_;(conv=>whnf);refine ⟨by repeat (first | exact trivial | refine And.intro rfl ?_), ?_⟩;(conv=>whnf);refine ⟨?_, ?_⟩
                    · (conv=>whnf);obtain ⟨y79, h80, h74⟩ := obnd_some h74;refine (c55 h80).go ?_;(conv=>whnf);refine ⟨by repeat (first | exact trivial | refine And.intro rfl ?_), ?_⟩;(conv=>whnf);refine ⟨?_, trivial⟩;(conv=>whnf);refine ⟨by repeat (first | exact trivial | refine And.intro rfl ?_), ?_⟩;(conv=>whnf);refine ⟨?_, trivial⟩;(conv=>whnf);refine ⟨by repeat (first | exact trivial | refine And.intro rfl ?_), ?_⟩;(conv=>whnf);cases h74;exact ⟨(.cons rfl (.cons rfl (.cons rfl (.cons rfl (.cons rfl (.cons rfl (.cons rfl .nil))))))), rfl⟩
                    · obtain ⟨y79, h80, h74⟩ := obnd_some h74;(conv=>whnf);refine ⟨?_, trivial⟩;(conv=>whnf);refine ⟨by repeat (first | exact trivial | refine And.intro rfl ?_), ?_⟩;(conv=>whnf);refine ⟨?_, trivial⟩;(conv=>whnf);refine (c55 h80).go ?_;(conv=>whnf);refine ⟨by repeat (first | exact trivial | refine And.intro rfl ?_), ?_⟩;(conv=>whnf);refine ⟨?_, trivial⟩;(conv=>whnf);refine ⟨by repeat (first | exact trivial | refine And.intro rfl ?_), ?_⟩;(conv=>whnf);cases h74;exact ⟨(.cons rfl (.cons rfl (.cons rfl (.cons rfl (.cons rfl (.cons rfl (.cons rfl .nil))))))), rfl⟩
                  · obtain ⟨y77, h78, h74⟩ := obnd_some h74;obtain ⟨y79, h80, h74⟩ := obnd_some h74;(conv=>whnf);refine ⟨?_, trivial⟩;(conv=>whnf);refine ⟨by repeat (first | exact trivial | refine And.intro rfl ?_), ?_⟩;(conv=>whnf);refine ⟨?_, trivial⟩;(conv=>whnf);refine (c53 h78).go ?_;(conv=>whnf);refine ⟨by repeat (first | exact trivial | refine And.intro rfl ?_), ?_⟩;(conv=>whnf);refine ⟨?_, trivial⟩;(conv=>whnf);refine (c55 h80).go ?_;(conv=>whnf);refine ⟨by repeat (first | exact trivial | refine And.intro rfl ?_), ?_⟩;(conv=>whnf);refine ⟨?_, trivial⟩;(conv=>whnf);refine ⟨by repeat (first | exact trivial | refine And.intro rfl ?_), ?_⟩
                    (conv=>whnf);cases h74;exact ⟨(.cons rfl (.cons rfl (.cons rfl (.cons rfl (.cons rfl (.cons rfl (.cons rfl .nil))))))), rfl⟩
                · obtain ⟨r81, h82, H⟩ := obnd_some H;refine pw_join (ρ := Int × Int × Int × Int × Int × Int × Int) (fun e => ⟨[(0, (VS 3 (a0.map e_III))), (4, (.pointer (some ⟨0, 0, none⟩))), (5, (.pointer (some ⟨1, 0, none⟩))), (8, (VS 3 (r44.map e_III))), (10, (.pointer (some ⟨3, 0, none⟩))), (11, (.pointer (some ⟨4, 0, none⟩))), (12, (.int .i64 r73.1)), (13, (.pointer (some ⟨5, 0, none⟩))), (14, (.int .i64 e.1))], ⟨6, [(5, .rw [(.int .i64 e.2.1), (.int .i64 e.2.2.1), (.int .i64 e.2.2.2.1), (.int .i64 e.2.2.2.2.1), (.int .i64 e.2.2.2.2.2.1), (.int .i64 e.2.2.2.2.2.2)]), (4, .rw [(.int .i64 r73.2.1), (.int .i64 r73.2.2.1), (.int .i64 r73.2.2.2.1), (.int .i64 r73.2.2.2.2.1), (.int .i64 r73.2.2.2.2.2.1), (.int .i64 r73.2.2.2.2.2.2)]), (3, .rw [(.int .i64 a1), (.int .i64 a2), (.int .i64 (IntKind.i64.wrap (a3 + y61)))]), (1, .rw [(.int .i64 a4), (.int .i64 a5), (.int .i64 a6), (.int .i64 a7), (.int .i64 a8), (.int .i64 a9)]), (0, .rw [(.int .i64 a1), (.int .i64 a2), (.int .i64 a3)])], false⟩⟩) r81 ?_ ?_
                  · refine pw_draw ?_;(conv=>whnf);refine ⟨?_, ?_⟩
                    · (conv=>whnf);obtain ⟨y85, h86, h82⟩ := obnd_some h82;refine (c53 h86).go ?_;(conv=>whnf);refine ⟨by repeat (first | exact trivial | refine And.intro rfl ?_), ?_⟩;(conv=>whnf);refine ⟨?_, ?_⟩
                      · (conv=>whnf);obtain ⟨y87, h88, h82⟩ := obnd_some h82;refine (c55 h88).go ?_;(conv=>whnf);refine ⟨by repeat (first | exact trivial | refine And.intro rfl ?_), ?_⟩;(conv=>whnf);refine ⟨?_, trivial⟩;(conv=>whnf);refine ⟨by repeat (first | exact trivial | refine And.intro rfl ?_), ?_⟩;(conv=>whnf);refine ⟨?_, trivial⟩;(conv=>whnf);refine ⟨by repeat (first | exact trivial | refine And.intro rfl ?_), ?_⟩;(conv=>whnf);cases h82;exact ⟨(.cons rfl (.cons rfl (.cons rfl (.cons rfl (.cons rfl (.cons rfl (.cons rfl (.cons rfl (.cons rfl .nil))))))))), rfl⟩
                      · obtain ⟨y87, h88, h82⟩ := obnd_some h82;(conv=>whnf);refine ⟨?_, trivial⟩;(conv=>whnf);refine ⟨by repeat (first | exact trivial | refine And.intro rfl ?_), ?_⟩;(conv=>whnf);refine ⟨?_, trivial⟩;(conv=>whnf);refine (c55 h88).go ?_;(conv=>whnf);refine ⟨by repeat (first | exact trivial | refine And.intro rfl ?_), ?_⟩;(conv=>whnf);refine ⟨?_, trivial⟩;(conv=>whnf);refine ⟨by repeat (first | exact trivial | refine And.intro rfl ?_), ?_⟩;(conv=>whnf);cases h82;exact ⟨(.cons rfl (.cons rfl (.cons rfl (.cons rfl (.cons rfl (.cons rfl (.cons rfl (.cons rfl (.cons rfl .nil))))))))), rfl⟩
                    · obtain ⟨y85, h86, h82⟩ := obnd_some h82;obtain ⟨y87, h88, h82⟩ := obnd_some h82;(conv=>whnf);refine ⟨?_, trivial⟩;(conv=>whnf);refine ⟨by repeat (first | exact trivial | refine And.intro rfl ?_), ?_⟩;(conv=>whnf);refine ⟨?_, trivial⟩;(conv=>whnf);refine (c53 h86).go ?_;(conv=>whnf);refine ⟨by repeat (first | exact trivial | refine And.intro rfl ?_), ?_⟩;(conv=>whnf);refine ⟨?_, trivial⟩;(conv=>whnf);refine (c55 h88).go ?_;(conv=>whnf);refine ⟨by repeat (first | exact trivial | refine And.intro rfl ?_), ?_⟩;(conv=>whnf);refine ⟨?_, trivial⟩;(conv=>whnf);refine ⟨by repeat (first | exact trivial | refine And.intro rfl ?_), ?_⟩
                      (conv=>whnf);cases h82;exact ⟨(.cons rfl (.cons rfl (.cons rfl (.cons rfl (.cons rfl (.cons rfl (.cons rfl (.cons rfl (.cons rfl .nil))))))))), rfl⟩
                  · refine pw_seq ?_;obtain ⟨r89, h90, H⟩ := obnd_some H;refine pw_join (ρ := Bool) (fun e => ⟨[(0, (VS 3 (a0.map e_III))), (4, (.pointer (some ⟨0, 0, none⟩))), (5, (.pointer (some ⟨1, 0, none⟩))), (8, (VS 3 (r44.map e_III))), (10, (.pointer (some ⟨3, 0, none⟩))), (11, (.pointer (some ⟨4, 0, none⟩))), (12, (.int .i64 r73.1)), (13, (.pointer (some ⟨5, 0, none⟩))), (14, (.int .i64 r81.1)), (123, (.bool e))], ⟨6, [(5, .rw [(.int .i64 r81.2.1), (.int .i64 r81.2.2.1), (.int .i64 r81.2.2.2.1), (.int .i64 r81.2.2.2.2.1), (.int .i64 r81.2.2.2.2.2.1), (.int .i64 r81.2.2.2.2.2.2)]), (4, .rw [(.int .i64 r73.2.1), (.int .i64 r73.2.2.1), (.int .i64 r73.2.2.2.1), (.int .i64 r73.2.2.2.2.1), (.int .i64 r73.2.2.2.2.2.1), (.int .i64 r73.2.2.2.2.2.2)]), (3, .rw [(.int .i64 a1), (.int .i64 a2), (.int .i64 (IntKind.i64.wrap (a3 + y61)))]), (1, .rw [(.int .i64 a4), (.int .i64 a5), (.int .i64 a6), (.int .i64 a7), (.int .i64 a8), (.int .i64 a9)]), (0, .rw [(.int .i64 a1), (.int .i64 a2), (.int .i64 a3)])], false⟩⟩) r89 ?_ ?_
                    · refine pw_ops ?_;refine po_all ?_;(conv=>whnf);refine pbr_oite h90 (fun g93 h90 => ?_) (fun g93 h90 => ?_)
                      · (conv=>whnf);refine pbr_t g93 ?_;(conv=>whnf);refine pbr_t g93 ?_;(conv=>whnf);cases h90;exact ⟨(.cons rfl (.cons rfl (.cons rfl (.cons rfl (.cons rfl (.cons rfl (.cons rfl (.cons rfl (.cons rfl (.cons rfl .nil)))))))))), rfl⟩
                      · (conv=>whnf);refine pbr_f g93 ?_;(conv=>whnf);refine pbr_f g93 ?_;(conv=>whnf);cases h90;exact ⟨(.cons rfl (.cons rfl (.cons rfl (.cons rfl (.cons rfl (.cons rfl (.cons rfl (.cons rfl (.cons rfl (.cons rfl .nil)))))))))), rfl⟩
                    · refine pw_cond ?_;(conv=>whnf);refine pbr_oite H (fun g94 H => ?_) (fun g94 H => ?_)
                      · (conv=>whnf);refine pw_so ?_;refine po_all ?_;(conv=>whnf);refine pw_ret ?_;(conv=>whnf);cases H; rfl
                      · (conv=>whnf);refine pw_skip ?_;(conv=>whnf);refine pw_seq ?_;obtain ⟨r95, h96, H⟩ := obnd_some H;refine pw_join (ρ := Bool) (fun e => ⟨[(0, (VS 3 (a0.map e_III))), (4, (.pointer (some ⟨0, 0, none⟩))), (5, (.pointer (some ⟨1, 0, none⟩))), (8, (VS 3 (r44.map e_III))), (10, (.pointer (some ⟨3, 0, none⟩))), (11, (.pointer (some ⟨4, 0, none⟩))), (12, (.int .i64 r73.1)), (13, (.pointer (some ⟨5, 0, none⟩))), (14, (.int .i64 r81.1)), (132, (.bool e))], ⟨6, [(5, .rw [(.int .i64 r81.2.1), (.int .i64 r81.2.2.1), (.int .i64 r81.2.2.2.1), (.int .i64 r81.2.2.2.2.1), (.int .i64 r81.2.2.2.2.2.1), (.int .i64 r81.2.2.2.2.2.2)]), (4, .rw [(.int .i64 r73.2.1), (.int .i64 r73.2.2.1), (.int .i64 r73.2.2.2.1), (.int .i64 r73.2.2.2.2.1), (.int .i64 r73.2.2.2.2.2.1), (.int .i64 r73.2.2.2.2.2.2)]), (3, .rw [(.int .i64 a1), (.int .i64 a2), (.int .i64 (IntKind.i64.wrap (a3 + y61)))]), (1, .rw [(.int .i64 a4), (.int .i64 a5), (.int .i64 a6), (.int .i64 a7), (.int .i64 a8), (.int .i64 a9)]), (0, .rw [(.int .i64 a1), (.int .i64 a2), (.int .i64 a3)])], false⟩⟩) r95 ?_ ?_
                        · refine pw_ops ?_;refine po_all ?_;(conv=>whnf);refine pbr_oite h96 (fun g99 h96 => ?_) (fun g99 h96 => ?_)
                          · (conv=>whnf);refine pbr_t g99 ?_;(conv=>whnf);refine pbr_t g99 ?_;(conv=>whnf);cases h96;exact ⟨(.cons rfl (.cons rfl (.cons rfl (.cons rfl (.cons rfl (.cons rfl (.cons rfl (.cons rfl (.cons rfl (.cons rfl .nil)))))))))), rfl⟩
                          · (conv=>whnf);refine pbr_f g99 ?_;(conv=>whnf);refine pbr_f g99 ?_;(conv=>whnf);cases h96;exact ⟨(.cons rfl (.cons rfl (.cons rfl (.cons rfl (.cons rfl (.cons rfl (.cons rfl (.cons rfl (.cons rfl (.cons rfl .nil)))))))))), rfl⟩
                        · refine pw_cond ?_;(conv=>whnf);refine pbr_oite H (fun g100 H => ?_) (fun g100 H => ?_)
                          · (conv=>whnf);refine pw_so ?_;refine po_ops 3 ?_;(conv=>whnf);obtain ⟨r101, h102, H⟩ := obnd_some H;refine po_seg (τ := Bool) 3 (fun e => ⟨[(14, (.int .i64 r81.1)), (138, (.bool e))], ⟨6, [(5, .rw [(.int .i64 r81.2.1), (.int .i64 r81.2.2.1), (.int .i64 r81.2.2.2.1), (.int .i64 r81.2.2.2.2.1), (.int .i64 r81.2.2.2.2.2.1), (.int .i64 r81.2.2.2.2.2.2)]), (4, .rw [(.int .i64 r73.2.1), (.int .i64 r73.2.2.1), (.int .i64 r73.2.2.2.1), (.int .i64 r73.2.2.2.2.1), (.int .i64 r73.2.2.2.2.2.1), (.int .i64 r73.2.2.2.2.2.2)]), (3, .rw [(.int .i64 a1), (.int .i64 a2), (.int .i64 (IntKind.i64.wrap (a3 + y61)))]), (1, .rw [(.int .i64 a4), (.int .i64 a5), (.int .i64 a6), (.int .i64 a7), (.int .i64 a8), (.int .i64 a9)]), (0, .rw [(.int .i64 a1), (.int .i64 a2), (.int .i64 a3)])], false⟩⟩) r101 ?_ ?_
                            · refine po_all ?_;(conv=>whnf);refine pbr_oite h102 (fun g103 h102 => ?_) (fun g103 h102 => ?_)
                              · (conv=>whnf);refine pbr_t g103 ?_;(conv=>whnf);refine pbr_t g103 ?_;(conv=>whnf);cases h102;exact ⟨(.cons rfl (.cons rfl .nil)), rfl⟩
                              · (conv=>whnf);refine pbr_f g103 ?_;(conv=>whnf);refine pbr_f g103 ?_;(conv=>whnf);cases h102;exact ⟨(.cons rfl (.cons rfl .nil)), rfl⟩
                            · refine po_ops 1 ?_;(conv=>whnf);obtain ⟨r104, h105, H⟩ := obnd_some H;refine po_seg (τ := Bool) 7 (fun e => ⟨[(146, (.bool e))], ⟨6, [(5, .rw [(.int .i64 r81.2.1), (.int .i64 r81.2.2.1), (.int .i64 r81.2.2.2.1), (.int .i64 r81.2.2.2.2.1), (.int .i64 r81.2.2.2.2.2.1), (.int .i64 r81.2.2.2.2.2.2)]), (4, .rw [(.int .i64 r73.2.1), (.int .i64 r73.2.2.1), (.int .i64 r73.2.2.2.1), (.int .i64 r73.2.2.2.2.1), (.int .i64 r73.2.2.2.2.2.1), (.int .i64 r73.2.2.2.2.2.2)]), (3, .rw [(.int .i64 a1), (.int .i64 a2), (.int .i64 (IntKind.i64.wrap (a3 + y61)))]), (1, .rw [(.int .i64 a4), (.int .i64 a5), (.int .i64 a6), (.int .i64 a7), (.int .i64 a8), (.int .i64 a9)]), (0, .rw [(.int .i64 a1), (.int .i64 a2), (.int .i64 a3)])], false⟩⟩) r104 ?_ ?_
                              · refine po_all ?_;(conv=>whnf);refine pbr_oite h105 (fun g106 h105 => ?_) (fun g106 h105 => ?_)
                                · (conv=>whnf);refine pbr_t g106 ?_;(conv=>whnf);refine pbr_t g106 ?_;(conv=>whnf);refine pbr_oite h105 (fun g107 h105 => ?_) (fun g107 h105 => ?_)
                                  · (conv=>whnf);refine pbr_t g107 ?_;(conv=>whnf);refine pbr_t g106 ?_;(conv=>whnf);refine pbr_t g107 ?_;(conv=>whnf);refine pbr_t g106 ?_;(conv=>whnf);cases h105;exact ⟨(.cons rfl .nil), rfl⟩
                                  · (conv=>whnf);refine pbr_f g107 ?_;(conv=>whnf);refine pbr_t g106 ?_;(conv=>whnf);refine pbr_f g107 ?_;(conv=>whnf);refine pbr_t g106 ?_;(conv=>whnf);cases h105;exact ⟨(.cons rfl .nil), rfl⟩
                                · (conv=>whnf);refine pbr_f g106 ?_;(conv=>whnf);refine pbr_f g106 ?_;(conv=>whnf);refine pbr_f g106 ?_;(conv=>whnf);refine pbr_f g106 ?_;(conv=>whnf);cases h105;exact ⟨(.cons rfl .nil), rfl⟩
                              · refine po_all ?_;(conv=>whnf);refine pw_ret ?_;(conv=>whnf);cases H; rfl
                          · (conv=>whnf);refine pw_skip ?_;(conv=>whnf);refine pw_sd ?_;(conv=>whnf);refine ⟨?_, trivial⟩;(conv=>whnf);obtain ⟨y108, h109, H⟩ := obnd_some H;refine (c53 h109).go ?_;(conv=>whnf);refine ⟨by repeat (first | exact trivial | refine And.intro rfl ?_), ?_⟩;(conv=>whnf);refine ⟨?_, trivial⟩;(conv=>whnf);obtain ⟨y110, h111, H⟩ := obnd_some H;refine (c56 h111).go ?_;(conv=>whnf);refine ⟨by repeat (first | exact trivial | refine And.intro rfl ?_), ?_⟩;(conv=>whnf);refine pw_sd ?_;(conv=>whnf);refine ⟨?_, trivial⟩;(conv=>whnf);obtain ⟨y112, h113, H⟩ := obnd_some H;refine (c53 h113).go ?_;(conv=>whnf);refine ⟨by repeat (first | exact trivial | refine And.intro rfl ?_), ?_⟩
                            (conv=>whnf);refine ⟨?_, trivial⟩;(conv=>whnf);obtain ⟨y114, h115, H⟩ := obnd_some H;refine (c56 h115).go ?_;(conv=>whnf);refine ⟨by repeat (first | exact trivial | refine And.intro rfl ?_), ?_⟩;(conv=>whnf);refine pw_sd ?_;(conv=>whnf);refine ⟨?_, trivial⟩;(conv=>whnf);obtain ⟨y116, h117, H⟩ := obnd_some H;refine (c53 h117).go ?_;(conv=>whnf);refine ⟨by repeat (first | exact trivial | refine And.intro rfl ?_), ?_⟩;(conv=>whnf);refine ⟨?_, trivial⟩;(conv=>whnf);obtain ⟨y118, h119, H⟩ := obnd_some H;refine (c57 h119).go ?_;(conv=>whnf);refine ⟨by repeat (first | exact trivial | refine And.intro rfl ?_), ?_⟩
                            (conv=>whnf);refine pw_sd ?_;(conv=>whnf);refine ⟨?_, trivial⟩;(conv=>whnf);obtain ⟨y120, h121, H⟩ := obnd_some H;refine (c53 h121).go ?_;(conv=>whnf);refine ⟨by repeat (first | exact trivial | refine And.intro rfl ?_), ?_⟩;(conv=>whnf);refine ⟨?_, trivial⟩;(conv=>whnf);obtain ⟨y122, h123, H⟩ := obnd_some H;refine (c57 h123).go ?_;(conv=>whnf);refine ⟨by repeat (first | exact trivial | refine And.intro rfl ?_), ?_⟩;(conv=>whnf);refine pw_seq ?_;obtain ⟨r124, h125, H⟩ := obnd_some H;refine pw_join (ρ := Bool) (fun e => ⟨[(0, (VS 3 (a0.map e_III))), (4, (.pointer (some ⟨0, 0, none⟩))), (5, (.pointer (some ⟨1, 0, none⟩))), (8, (VS 3 (r44.map e_III))), (10, (.pointer (some ⟨3, 0, none⟩))), (11, (.pointer (some ⟨4, 0, none⟩))), (13, (.pointer (some ⟨5, 0, none⟩))), (199, (.bool e))], ⟨6, [(5, .rw [(.int .i64 r81.2.1), (.int .i64 r81.2.2.1), (.int .i64 r81.2.2.2.1), (.int .i64 r81.2.2.2.2.1), (.int .i64 r81.2.2.2.2.2.1), (.int .i64 r81.2.2.2.2.2.2)]), (4, .rw [(.int .i64 r73.2.1), (.int .i64 r73.2.2.1), (.int .i64 r73.2.2.2.1), (.int .i64 r73.2.2.2.2.1), (.int .i64 r73.2.2.2.2.2.1), (.int .i64 r73.2.2.2.2.2.2)]), (3, .rw [(.int .i64 a1), (.int .i64 a2), (.int .i64 (IntKind.i64.wrap (a3 + y61)))]), (1, .rw [(.int .i64 a4), (.int .i64 a5), (.int .i64 a6), (.int .i64 a7), (.int .i64 a8), (.int .i64 a9)]), (0, .rw [(.int .i64 a1), (.int .i64 a2), (.int .i64 a3)])], false⟩⟩) r124 ?_ ?_
                            · refine pw_ops ?_;refine po_ops 3 ?_;(conv=>whnf);obtain ⟨r128, h129, h125⟩ := obnd_some h125;refine po_seg (τ := Bool) 3 (fun e => ⟨[(0, (VS 3 (a0.map e_III))), (4, (.pointer (some ⟨0, 0, none⟩))), (5, (.pointer (some ⟨1, 0, none⟩))), (8, (VS 3 (r44.map e_III))), (10, (.pointer (some ⟨3, 0, none⟩))), (11, (.pointer (some ⟨4, 0, none⟩))), (13, (.pointer (some ⟨5, 0, none⟩))), (15, (VS 2 (y110.1.map e_II))), (17, (VS 2 (y114.1.map e_II))), (19, (.int .i64 y118.1)), (20, (.int .i64 y118.2)), (21, (.int .i64 y122.1)), (22, (.int .i64 y122.2)), (180, (.bool e))], ⟨6, [(5, .rw [(.int .i64 r81.2.1), (.int .i64 r81.2.2.1), (.int .i64 r81.2.2.2.1), (.int .i64 r81.2.2.2.2.1), (.int .i64 r81.2.2.2.2.2.1), (.int .i64 r81.2.2.2.2.2.2)]), (4, .rw [(.int .i64 r73.2.1), (.int .i64 r73.2.2.1), (.int .i64 r73.2.2.2.1), (.int .i64 r73.2.2.2.2.1), (.int .i64 r73.2.2.2.2.2.1), (.int .i64 r73.2.2.2.2.2.2)]), (3, .rw [(.int .i64 a1), (.int .i64 a2), (.int .i64 (IntKind.i64.wrap (a3 + y61)))]), (1, .rw [(.int .i64 a4), (.int .i64 a5), (.int .i64 a6), (.int .i64 a7), (.int .i64 a8), (.int .i64 a9)]), (0, .rw [(.int .i64 a1), (.int .i64 a2), (.int .i64 a3)])], false⟩⟩) r128 ?_ ?_
                              · refine po_all ?_;(conv=>whnf);refine pbr_oite h129 (fun g130 h129 => ?_) (fun g130 h129 => ?_)
                                · (conv=>whnf);refine pbr_t g130 ?_;(conv=>whnf);refine pbr_t g130 ?_;(conv=>whnf);cases h129;exact ⟨(.cons rfl (.cons rfl (.cons rfl (.cons rfl (.cons rfl (.cons rfl (.cons rfl (.cons rfl (.cons rfl (.cons rfl (.cons rfl (.cons rfl (.cons rfl (.cons rfl .nil)))))))))))))), rfl⟩
                                · (conv=>whnf);refine pbr_f g130 ?_;(conv=>whnf);refine pbr_f g130 ?_;(conv=>whnf);cases h129;exact ⟨(.cons rfl (.cons rfl (.cons rfl (.cons rfl (.cons rfl (.cons rfl (.cons rfl (.cons rfl (.cons rfl (.cons rfl (.cons rfl (.cons rfl (.cons rfl (.cons rfl .nil)))))))))))))), rfl⟩
                              · refine po_ops 1 ?_;(conv=>whnf);obtain ⟨r131, h132, h125⟩ := obnd_some h125;refine po_seg (τ := Bool) 5 (fun e => ⟨[(0, (VS 3 (a0.map e_III))), (4, (.pointer (some ⟨0, 0, none⟩))), (5, (.pointer (some ⟨1, 0, none⟩))), (8, (VS 3 (r44.map e_III))), (10, (.pointer (some ⟨3, 0, none⟩))), (11, (.pointer (some ⟨4, 0, none⟩))), (13, (.pointer (some ⟨5, 0, none⟩))), (19, (.int .i64 y118.1)), (20, (.int .i64 y118.2)), (21, (.int .i64 y122.1)), (22, (.int .i64 y122.2)), (186, (.bool e))], ⟨6, [(5, .rw [(.int .i64 r81.2.1), (.int .i64 r81.2.2.1), (.int .i64 r81.2.2.2.1), (.int .i64 r81.2.2.2.2.1), (.int .i64 r81.2.2.2.2.2.1), (.int .i64 r81.2.2.2.2.2.2)]), (4, .rw [(.int .i64 r73.2.1), (.int .i64 r73.2.2.1), (.int .i64 r73.2.2.2.1), (.int .i64 r73.2.2.2.2.1), (.int .i64 r73.2.2.2.2.2.1), (.int .i64 r73.2.2.2.2.2.2)]), (3, .rw [(.int .i64 a1), (.int .i64 a2), (.int .i64 (IntKind.i64.wrap (a3 + y61)))]), (1, .rw [(.int .i64 a4), (.int .i64 a5), (.int .i64 a6), (.int .i64 a7), (.int .i64 a8), (.int .i64 a9)]), (0, .rw [(.int .i64 a1), (.int .i64 a2), (.int .i64 a3)])], false⟩⟩) r131 ?_ ?_
                                · refine po_all ?_;(conv=>whnf);refine pbr_oite h132 (fun g133 h132 => ?_) (fun g133 h132 => ?_)
                                  · (conv=>whnf);refine pbr_t g133 ?_;(conv=>whnf);refine pbr_t g133 ?_;(conv=>whnf);refine pbr_t g133 ?_;(conv=>whnf);refine pbr_t g133 ?_;(conv=>whnf);cases h132;exact ⟨(.cons rfl (.cons rfl (.cons rfl (.cons rfl (.cons rfl (.cons rfl (.cons rfl (.cons rfl (.cons rfl (.cons rfl (.cons rfl (.cons rfl .nil)))))))))))), rfl⟩
                                  · (conv=>whnf);refine pbr_f g133 ?_;(conv=>whnf);refine pbr_f g133 ?_;(conv=>whnf);obtain ⟨y134, h135, h132⟩ := obnd_some h132;refine (c58 h135).go ?_;(conv=>whnf);refine pbr_f g133 ?_;(conv=>whnf);refine pbr_f g133 ?_;(conv=>whnf);cases h132;exact ⟨(.cons rfl (.cons rfl (.cons rfl (.cons rfl (.cons rfl (.cons rfl (.cons rfl (.cons rfl (.cons rfl (.cons rfl (.cons rfl (.cons rfl .nil)))))))))))), rfl⟩
                                · refine po_ops 1 ?_;(conv=>whnf);obtain ⟨r136, h137, h125⟩ := obnd_some h125;refine po_seg (τ := Bool) 3 (fun e => ⟨[(0, (VS 3 (a0.map e_III))), (4, (.pointer (some ⟨0, 0, none⟩))), (5, (.pointer (some ⟨1, 0, none⟩))), (8, (VS 3 (r44.map e_III))), (10, (.pointer (some ⟨3, 0, none⟩))), (11, (.pointer (some ⟨4, 0, none⟩))), (13, (.pointer (some ⟨5, 0, none⟩))), (19, (.int .i64 y118.1)), (21, (.int .i64 y122.1)), (22, (.int .i64 y122.2)), (190, (.bool e))], ⟨6, [(5, .rw [(.int .i64 r81.2.1), (.int .i64 r81.2.2.1), (.int .i64 r81.2.2.2.1), (.int .i64 r81.2.2.2.2.1), (.int .i64 r81.2.2.2.2.2.1), (.int .i64 r81.2.2.2.2.2.2)]), (4, .rw [(.int .i64 r73.2.1), (.int .i64 r73.2.2.1), (.int .i64 r73.2.2.2.1), (.int .i64 r73.2.2.2.2.1), (.int .i64 r73.2.2.2.2.2.1), (.int .i64 r73.2.2.2.2.2.2)]), (3, .rw [(.int .i64 a1), (.int .i64 a2), (.int .i64 (IntKind.i64.wrap (a3 + y61)))]), (1, .rw [(.int .i64 a4), (.int .i64 a5), (.int .i64 a6), (.int .i64 a7), (.int .i64 a8), (.int .i64 a9)]), (0, .rw [(.int .i64 a1), (.int .i64 a2), (.int .i64 a3)])], false⟩⟩) r136 ?_ ?_
                                  · refine po_all ?_;(conv=>whnf);refine pbr_oite h137 (fun g138 h137 => ?_) (fun g138 h137 => ?_)
                                    · (conv=>whnf);refine pbr_t g138 ?_;(conv=>whnf);refine pbr_t g138 ?_;(conv=>whnf);cases h137;exact ⟨(.cons rfl (.cons rfl (.cons rfl (.cons rfl (.cons rfl (.cons rfl (.cons rfl (.cons rfl (.cons rfl (.cons rfl (.cons rfl .nil))))))))))), rfl⟩
                                    · (conv=>whnf);refine pbr_f g138 ?_;(conv=>whnf);refine pbr_f g138 ?_;(conv=>whnf);cases h137;exact ⟨(.cons rfl (.cons rfl (.cons rfl (.cons rfl (.cons rfl (.cons rfl (.cons rfl (.cons rfl (.cons rfl (.cons rfl (.cons rfl .nil))))))))))), rfl⟩
                                  · refine po_ops 1 ?_;(conv=>whnf);obtain ⟨r139, h140, h125⟩ := obnd_some h125;refine po_seg (τ := Bool) 3 (fun e => ⟨[(0, (VS 3 (a0.map e_III))), (4, (.pointer (some ⟨0, 0, none⟩))), (5, (.pointer (some ⟨1, 0, none⟩))), (8, (VS 3 (r44.map e_III))), (10, (.pointer (some ⟨3, 0, none⟩))), (11, (.pointer (some ⟨4, 0, none⟩))), (13, (.pointer (some ⟨5, 0, none⟩))), (19, (.int .i64 y118.1)), (21, (.int .i64 y122.1)), (194, (.bool e))], ⟨6, [(5, .rw [(.int .i64 r81.2.1), (.int .i64 r81.2.2.1), (.int .i64 r81.2.2.2.1), (.int .i64 r81.2.2.2.2.1), (.int .i64 r81.2.2.2.2.2.1), (.int .i64 r81.2.2.2.2.2.2)]), (4, .rw [(.int .i64 r73.2.1), (.int .i64 r73.2.2.1), (.int .i64 r73.2.2.2.1), (.int .i64 r73.2.2.2.2.1), (.int .i64 r73.2.2.2.2.2.1), (.int .i64 r73.2.2.2.2.2.2)]), (3, .rw [(.int .i64 a1), (.int .i64 a2), (.int .i64 (IntKind.i64.wrap (a3 + y61)))]), (1, .rw [(.int .i64 a4), (.int .i64 a5), (.int .i64 a6), (.int .i64 a7), (.int .i64 a8), (.int .i64 a9)]), (0, .rw [(.int .i64 a1), (.int .i64 a2), (.int .i64 a3)])], false⟩⟩) r139 ?_ ?_
                                    · refine po_all ?_;(conv=>whnf);refine pbr_oite h140 (fun g141 h140 => ?_) (fun g141 h140 => ?_)
                                      · (conv=>whnf);refine pbr_t g141 ?_;(conv=>whnf);refine pbr_t g141 ?_;(conv=>whnf);cases h140;exact ⟨(.cons rfl (.cons rfl (.cons rfl (.cons rfl (.cons rfl (.cons rfl (.cons rfl (.cons rfl (.cons rfl (.cons rfl .nil)))))))))), rfl⟩
                                      · (conv=>whnf);refine pbr_f g141 ?_;(conv=>whnf);refine pbr_f g141 ?_;(conv=>whnf);cases h140;exact ⟨(.cons rfl (.cons rfl (.cons rfl (.cons rfl (.cons rfl (.cons rfl (.cons rfl (.cons rfl (.cons rfl (.cons rfl .nil)))))))))), rfl⟩
                                    · refine po_all ?_;(conv=>whnf);refine pbr_oite h125 (fun g142 h125 => ?_) (fun g142 h125 => ?_)
                                      · (conv=>whnf);refine pbr_t g142 ?_;(conv=>whnf);refine pbr_t g142 ?_;(conv=>whnf);refine pbr_t g142 ?_;(conv=>whnf);cases h125;exact ⟨(.cons rfl (.cons rfl (.cons rfl (.cons rfl (.cons rfl (.cons rfl (.cons rfl (.cons rfl .nil)))))))), rfl⟩
                                      · (conv=>whnf);refine pbr_f g142 ?_;(conv=>whnf);refine pbr_f g142 ?_;(conv=>whnf);refine pbr_f g142 ?_;(conv=>whnf);cases h125;exact ⟨(.cons rfl (.cons rfl (.cons rfl (.cons rfl (.cons rfl (.cons rfl (.cons rfl (.cons rfl .nil)))))))), rfl⟩
                            · refine pw_cond ?_;(conv=>whnf);refine pbr_oite H (fun g143 H => ?_) (fun g143 H => ?_)
                              · (conv=>whnf);refine pw_so ?_;refine po_all ?_;(conv=>whnf);refine pw_ret ?_;(conv=>whnf);cases H; rfl
                              · (conv=>whnf);refine pw_skip ?_;(conv=>whnf);refine pw_so ?_;refine po_all ?_;(conv=>whnf);obtain ⟨y144, h145, H⟩ := obnd_some H;refine (c59 h145).go ?_;(conv=>whnf);refine pw_so ?_;refine po_all ?_;(conv=>whnf);obtain ⟨y146, h147, H⟩ := obnd_some H;refine (c59 h147).go ?_;(conv=>whnf);refine pw_seq ?_;obtain ⟨r148, h149, H⟩ := obnd_some H;refine pw_join (ρ := Bool) (fun e => ⟨[(4, (.pointer (some ⟨0, 0, none⟩))), (10, (.pointer (some ⟨3, 0, none⟩))), (23, (.pointer (some ⟨6, 0, none⟩))), (25, (.pointer (some ⟨7, 0, none⟩))), (250, (.bool e))], ⟨8, [(7, .rw [(.int .i64 y146.1), (.int .i64 y146.2.1)]), (6, .rw [(.int .i64 y144.1), (.int .i64 y144.2.1)]), (5, .rw [(.int .i64 r81.2.1), (.int .i64 r81.2.2.1), (.int .i64 r81.2.2.2.1), (.int .i64 r81.2.2.2.2.1), (.int .i64 r81.2.2.2.2.2.1), (.int .i64 r81.2.2.2.2.2.2)]), (4, .rw [(.int .i64 r73.2.1), (.int .i64 r73.2.2.1), (.int .i64 r73.2.2.2.1), (.int .i64 r73.2.2.2.2.1), (.int .i64 r73.2.2.2.2.2.1), (.int .i64 r73.2.2.2.2.2.2)]), (3, .rw [(.int .i64 a1), (.int .i64 a2), (.int .i64 (IntKind.i64.wrap (a3 + y61)))]), (1, .rw [(.int .i64 a4), (.int .i64 a5), (.int .i64 a6), (.int .i64 a7), (.int .i64 a8), (.int .i64 a9)]), (0, .rw [(.int .i64 a1), (.int .i64 a2), (.int .i64 a3)])], false⟩⟩) r148 ?_ ?_
                                · refine pw_draw ?_;(conv=>whnf);refine pbr_oite h149 (fun g152 h149 => ?_) (fun g152 h149 => ?_)
                                  · (conv=>whnf);refine pbr_t g152 ?_;(conv=>whnf);refine pbr_t g152 ?_;(conv=>whnf);refine ⟨?_, trivial⟩;(conv=>whnf);refine ⟨?_, trivial⟩;(conv=>whnf);refine ⟨?_, trivial⟩;(conv=>whnf);refine ⟨?_, trivial⟩;(conv=>whnf);cases h149;exact ⟨(.cons rfl (.cons rfl (.cons rfl (.cons rfl (.cons rfl .nil))))), rfl⟩
                                  · (conv=>whnf);refine pbr_f g152 ?_;(conv=>whnf);refine pbr_f g152 ?_;(conv=>whnf);refine pbr_oite h149 (fun g153 h149 => ?_) (fun g153 h149 => ?_)
                                    · (conv=>whnf);refine pbr_t g153 ?_;(conv=>whnf);refine ⟨?_, trivial⟩;(conv=>whnf);refine pbr_t g153 ?_;(conv=>whnf);refine pbr_t g153 ?_;(conv=>whnf);refine pbr_t g153 ?_;(conv=>whnf);refine ⟨?_, trivial⟩;(conv=>whnf);refine ⟨?_, trivial⟩;(conv=>whnf);refine ⟨?_, trivial⟩;(conv=>whnf);cases h149;exact ⟨(.cons rfl (.cons rfl (.cons rfl (.cons rfl (.cons rfl .nil))))), rfl⟩
                                    · (conv=>whnf);refine pbr_f g153 ?_;(conv=>whnf);refine ⟨?_, trivial⟩;(conv=>whnf);refine pbr_f g153 ?_;(conv=>whnf);obtain ⟨y154, h155, h149⟩ := obnd_some h149;refine (c15 h155).go ?_;(conv=>whnf);refine ⟨by repeat (first | exact trivial | refine And.intro rfl ?_), ?_⟩;(conv=>whnf);refine pbr_f g153 ?_;(conv=>whnf);refine pbr_f g153 ?_;(conv=>whnf);refine pbr_oite h149 (fun g156 h149 => ?_) (fun g156 h149 => ?_)
                                      · (conv=>whnf);refine pbr_t g156 ?_;(conv=>whnf);refine pbr_t g156 ?_;(conv=>whnf);refine pbr_t g156 ?_;(conv=>whnf);refine ⟨?_, trivial⟩;(conv=>whnf);refine pbr_t g156 ?_;(conv=>whnf);refine pbr_t g156 ?_;(conv=>whnf);refine pbr_t g156 ?_;(conv=>whnf);refine ⟨?_, trivial⟩;(conv=>whnf);refine ⟨?_, trivial⟩;(conv=>whnf);cases h149;exact ⟨(.cons rfl (.cons rfl (.cons rfl (.cons rfl (.cons rfl .nil))))), rfl⟩
                                      · (conv=>whnf);refine pbr_f g156 ?_;(conv=>whnf);refine pbr_f g156 ?_;(conv=>whnf);refine pbr_f g156 ?_;(conv=>whnf);refine ⟨?_, trivial⟩;(conv=>whnf);refine pbr_f g156 ?_;(conv=>whnf);obtain ⟨y157, h158, h149⟩ := obnd_some h149;refine (c15 h158).go ?_;(conv=>whnf);refine ⟨by repeat (first | exact trivial | refine And.intro rfl ?_), ?_⟩;(conv=>whnf);refine pbr_f g156 ?_;(conv=>whnf);refine pbr_f g156 ?_;(conv=>whnf);refine pbr_oite h149 (fun g159 h149 => ?_) (fun g159 h149 => ?_)
                                        · (conv=>whnf);refine pbr_t g159 ?_;(conv=>whnf);refine pbr_t g159 ?_;(conv=>whnf);refine pbr_t g159 ?_;(conv=>whnf);refine pbr_t g159 ?_;(conv=>whnf);refine pbr_t g159 ?_;(conv=>whnf);refine pbr_t g159 ?_;(conv=>whnf);refine pbr_t g159 ?_;(conv=>whnf);refine pbr_t g159 ?_;(conv=>whnf);refine ⟨?_, trivial⟩;(conv=>whnf);refine pbr_t g159 ?_;(conv=>whnf);refine pbr_t g159 ?_;(conv=>whnf);refine ⟨?_, trivial⟩;(conv=>whnf);refine pbr_t g159 ?_;(conv=>whnf);refine pbr_t g159 ?_;(conv=>whnf);refine pbr_t g159 ?_;(conv=>whnf);refine pbr_t g159 ?_;(conv=>whnf);refine pbr_t g159 ?_;(conv=>whnf);cases h149
                                          exact ⟨(.cons rfl (.cons rfl (.cons rfl (.cons rfl (.cons rfl .nil))))), rfl⟩
                                        · (conv=>whnf);refine pbr_f g159 ?_;(conv=>whnf);refine pbr_f g159 ?_;(conv=>whnf);refine pbr_f g159 ?_;(conv=>whnf);refine pbr_f g159 ?_;(conv=>whnf);refine pbr_f g159 ?_;(conv=>whnf);refine pbr_f g159 ?_;(conv=>whnf);refine pbr_f g159 ?_;(conv=>whnf);refine pbr_f g159 ?_;(conv=>whnf);refine ⟨?_, trivial⟩;(conv=>whnf);refine pbr_f g159 ?_;(conv=>whnf);obtain ⟨y160, h161, h149⟩ := obnd_some h149;refine (c54 h161).go ?_;(conv=>whnf);refine ⟨by repeat (first | exact trivial | refine And.intro rfl ?_), ?_⟩;(conv=>whnf);refine pbr_f g159 ?_;(conv=>whnf);refine ⟨?_, trivial⟩;(conv=>whnf);refine pbr_f g159 ?_
                                          (conv=>whnf);obtain ⟨y162, h163, h149⟩ := obnd_some h149;refine (c54 h163).go ?_;(conv=>whnf);refine ⟨by repeat (first | exact trivial | refine And.intro rfl ?_), ?_⟩;(conv=>whnf);refine pbr_f g159 ?_;(conv=>whnf);refine pbr_f g159 ?_;(conv=>whnf);refine pbr_f g159 ?_;(conv=>whnf);refine pbr_f g159 ?_;(conv=>whnf);cases h149;exact ⟨(.cons rfl (.cons rfl (.cons rfl (.cons rfl (.cons rfl .nil))))), rfl⟩
                                · refine pw_cond ?_;(conv=>whnf);refine pbr_oite H (fun g164 H => ?_) (fun g164 H => ?_)
                                  · (conv=>whnf);refine pw_so ?_;refine po_all ?_;(conv=>whnf);refine pw_ret ?_;(conv=>whnf);cases H; rfl
                                  · (conv=>whnf);refine pw_skip ?_;(conv=>whnf);refine pw_so ?_;refine po_all ?_;(conv=>whnf);obtain ⟨y165, h166, H⟩ := obnd_some H;refine (c42 h166).go ?_;(conv=>whnf);refine pw_so ?_;refine po_all ?_;(conv=>whnf);obtain ⟨y167, h168, H⟩ := obnd_some H;refine (c42 h168).go ?_;(conv=>whnf);refine pw_so ?_;refine po_ops 3 ?_;(conv=>whnf);obtain ⟨r169, h170, H⟩ := obnd_some H;refine po_seg (τ := Bool) 3 (fun e => ⟨[(27, (.int .i64 y165.1)), (29, (.int .i64 y167.1)), (270, (.bool e))], ⟨8, [(7, .rw [(.int .i64 y146.1), (.int .i64 y146.2.1)]), (6, .rw [(.int .i64 y144.1), (.int .i64 y144.2.1)]), (5, .rw [(.int .i64 r81.2.1), (.int .i64 r81.2.2.1), (.int .i64 r81.2.2.2.1), (.int .i64 r81.2.2.2.2.1), (.int .i64 r81.2.2.2.2.2.1), (.int .i64 r81.2.2.2.2.2.2)]), (4, .rw [(.int .i64 r73.2.1), (.int .i64 r73.2.2.1), (.int .i64 r73.2.2.2.1), (.int .i64 r73.2.2.2.2.1), (.int .i64 r73.2.2.2.2.2.1), (.int .i64 r73.2.2.2.2.2.2)]), (3, .rw [(.int .i64 a1), (.int .i64 a2), (.int .i64 (IntKind.i64.wrap (a3 + y61)))]), (1, .rw [(.int .i64 a4), (.int .i64 a5), (.int .i64 a6), (.int .i64 a7), (.int .i64 a8), (.int .i64 a9)]), (0, .rw [(.int .i64 a1), (.int .i64 a2), (.int .i64 a3)])], false⟩⟩) r169 ?_ ?_
                                    · refine po_all ?_;(conv=>whnf);refine pbr_oite h170 (fun g171 h170 => ?_) (fun g171 h170 => ?_)
                                      · (conv=>whnf);refine pbr_t g171 ?_;(conv=>whnf);refine pbr_t g171 ?_;(conv=>whnf);cases h170;exact ⟨(.cons rfl (.cons rfl (.cons rfl .nil))), rfl⟩
                                      · (conv=>whnf);refine pbr_f g171 ?_;(conv=>whnf);refine pbr_f g171 ?_;(conv=>whnf);cases h170;exact ⟨(.cons rfl (.cons rfl (.cons rfl .nil))), rfl⟩
                                    · refine po_ops 1 ?_;(conv=>whnf);obtain ⟨r172, h173, H⟩ := obnd_some H;refine po_seg (τ := Bool) 4 (fun e => ⟨[(275, (.bool e))], ⟨8, [(7, .rw [(.int .i64 y146.1), (.int .i64 y146.2.1)]), (6, .rw [(.int .i64 y144.1), (.int .i64 y144.2.1)]), (5, .rw [(.int .i64 r81.2.1), (.int .i64 r81.2.2.1), (.int .i64 r81.2.2.2.1), (.int .i64 r81.2.2.2.2.1), (.int .i64 r81.2.2.2.2.2.1), (.int .i64 r81.2.2.2.2.2.2)]), (4, .rw [(.int .i64 r73.2.1), (.int .i64 r73.2.2.1), (.int .i64 r73.2.2.2.1), (.int .i64 r73.2.2.2.2.1), (.int .i64 r73.2.2.2.2.2.1), (.int .i64 r73.2.2.2.2.2.2)]), (3, .rw [(.int .i64 a1), (.int .i64 a2), (.int .i64 (IntKind.i64.wrap (a3 + y61)))]), (1, .rw [(.int .i64 a4), (.int .i64 a5), (.int .i64 a6), (.int .i64 a7), (.int .i64 a8), (.int .i64 a9)]), (0, .rw [(.int .i64 a1), (.int .i64 a2), (.int .i64 a3)])], false⟩⟩) r172 ?_ ?_
                                      · refine po_all ?_;(conv=>whnf);refine pbr_oite h173 (fun g174 h173 => ?_) (fun g174 h173 => ?_)
                                        · (conv=>whnf);refine pbr_t g174 ?_;(conv=>whnf);refine pbr_t g174 ?_;(conv=>whnf);refine pbr_t g174 ?_;(conv=>whnf);cases h173;exact ⟨(.cons rfl .nil), rfl⟩
                                        · (conv=>whnf);refine pbr_f g174 ?_;(conv=>whnf);refine pbr_f g174 ?_;(conv=>whnf);refine pbr_f g174 ?_;(conv=>whnf);cases h173;exact ⟨(.cons rfl .nil), rfl⟩
                                      · refine po_all ?_;(conv=>whnf);refine pw_ret ?_;(conv=>whnf);cases H; rfl

end Go.Proofs.Ytacgibkgojnfeaa.AM
