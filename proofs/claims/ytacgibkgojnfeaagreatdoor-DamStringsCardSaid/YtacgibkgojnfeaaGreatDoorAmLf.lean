/- Computations of functions, and that the functions do them (printed by tools/lift.py). Conditions: none. -/
import Derived.Test.YtacgibkgojnfeaaGreatDoorAmMan
namespace Go.Proofs.YtacgibkgojnfeaaGreatDoor.AM
set_option linter.unusedSimpArgs false
set_option linter.unusedVariables false
open Go Go.RowKit
attribute [local irreducible] ICallV ICalls Recast rng
abbrev e_SI (x : ByteArray × Int) : Value := .agg ⟨[(.string x.1), (.int .i64 x.2)]⟩
instance {x : ByteArray × Int} : Cl (e_SI x) := inferInstanceAs (Cl (.agg ⟨[(.string x.1), (.int .i64 x.2)]⟩))

/-- guidevane/dam.FormatReading -/
noncomputable def f374  (a0 : Int) (a1 : Int) (a2 : Int) : Option ByteArray :=
  obnd (f385 a0) fun (y1 : ByteArray) =>
  obnd (f385 a1) fun (y3 : ByteArray) =>
  obnd (f385 a2) fun (y5 : ByteArray) =>
  obnd (f384 ([y1, y3, y5] : List ByteArray) (⟨#[32]⟩ : ByteArray)) fun (y7 : ByteArray) =>
  some y7
set_option maxHeartbeats 1000000 in
theorem c374  {a0 : Int} {a1 : Int} {a2 : Int} {x : ByteArray} (H : f374 a0 a1 a2 = some x) : ICalls E 374 [(.agg ⟨[(.int .i64 a0), (.int .i64 a1), (.int .i64 a2)]⟩)] AHeap.none fun v _ => v = (.string x) := by
  refine icalls_fn (pfnw ?_); unfold f374 at H;(conv=>whnf);refine pw_so ?_;refine po_all ?_;(conv=>whnf);refine pw_sd ?_;(conv=>whnf);refine ⟨?_, trivial⟩;(conv=>whnf);obtain ⟨y1, h2, H⟩ := obnd_some H;refine (c385 h2).go ?_;(conv=>whnf);refine ⟨by repeat (first | exact trivial | refine And.intro rfl ?_), ?_⟩;(conv=>whnf);refine ⟨?_, trivial⟩;(conv=>whnf);obtain ⟨y3, h4, H⟩ := obnd_some H;refine (c385 h4).go ?_;(conv=>whnf);refine ⟨by repeat (first | exact trivial | refine And.intro rfl ?_), ?_⟩;(conv=>whnf);refine ⟨?_, trivial⟩;(conv=>whnf);obtain ⟨y5, h6, H⟩ := obnd_some H;refine (c385 h6).go ?_;(conv=>whnf)
  refine ⟨by repeat (first | exact trivial | refine And.intro rfl ?_), ?_⟩;(conv=>whnf);refine ⟨?_, trivial⟩;(conv=>whnf);refine ⟨by repeat (first | exact trivial | refine And.intro rfl ?_), ?_⟩;(conv=>whnf);refine ⟨?_, trivial⟩;(conv=>whnf);obtain ⟨y7, h8, H⟩ := obnd_some H;refine ICalls.goW (c384 h8) (.cons (.vt _ _ _) (.cons (.refl _) .nil)) ?_;(conv=>whnf);refine ⟨by repeat (first | exact trivial | refine And.intro rfl ?_), ?_⟩;(conv=>whnf);refine pw_ret ?_;(conv=>whnf);cases H; rfl

/-- guidevane/dam.within -/
noncomputable def f65  (a0 : Int) (a1 : Int) (a2 : Int) : Option Bool :=
  obnd (
   oite ((ile a1 a0)) (
    some (ile a0 a2)
     ) (
    some false
     )
    ) fun (r1 : Bool) =>
  some r1
set_option maxHeartbeats 1000000 in
theorem c65  {a0 : Int} {a1 : Int} {a2 : Int} {x : Bool} (H : f65 a0 a1 a2 = some x) : ICalls E 65 [(.int .i64 a0), (.int .i64 a1), (.int .i64 a2)] AHeap.none fun v _ => v = (.bool x) := by
  refine icalls_fn (pfnw ?_); unfold f65 at H;(conv=>whnf);refine pw_so ?_;refine po_all ?_;(conv=>whnf);refine pw_so ?_;refine po_ops 4 ?_;(conv=>whnf);obtain ⟨r1, h2, H⟩ := obnd_some H;refine po_seg (τ := Bool) 4 (fun e => ⟨[(14, (.bool e))], ⟨0, [], false⟩⟩) r1 ?_ ?_
  · refine po_all ?_;(conv=>whnf);refine pbr_oite h2 (fun g3 h2 => ?_) (fun g3 h2 => ?_)
    · (conv=>whnf);refine pbr_t g3 ?_;(conv=>whnf);refine pbr_t g3 ?_;(conv=>whnf);refine pbr_t g3 ?_;(conv=>whnf);cases h2;exact ⟨(.cons rfl .nil), rfl⟩
    · (conv=>whnf);refine pbr_f g3 ?_;(conv=>whnf);refine pbr_f g3 ?_;(conv=>whnf);refine pbr_f g3 ?_;(conv=>whnf);cases h2;exact ⟨(.cons rfl .nil), rfl⟩
  · refine po_all ?_;(conv=>whnf);refine pw_ret ?_;(conv=>whnf);cases H; rfl

/-- guidevane/dam.isSized -/
noncomputable def f78  (a0 : Int) (a1 : Int) : Option Bool :=
  obnd (f65 a0 (IntKind.i64.wrap (0 - a1)) a1) fun (y1 : Bool) =>
  some y1
set_option maxHeartbeats 1000000 in
theorem c78  {a0 : Int} {a1 : Int} {x : Bool} (H : f78 a0 a1 = some x) : ICalls E 78 [(.int .i64 a0), (.int .i64 a1)] AHeap.none fun v _ => v = (.bool x) := by
  refine icalls_fn (pfnw ?_); unfold f78 at H;(conv=>whnf);refine pw_so ?_;refine po_all ?_;(conv=>whnf);refine pw_so ?_;refine po_all ?_;(conv=>whnf);obtain ⟨y1, h2, H⟩ := obnd_some H;refine (c65 h2).go ?_;(conv=>whnf);refine pw_ret ?_;(conv=>whnf);cases H; rfl

/-- guidevane/dam.unless -/
noncomputable def f64  (a0 : Bool) (a1 : Int) : Option Int :=
  oite a0 (
   some (0 : Int)
    ) (
   some a1
    )
set_option maxHeartbeats 1000000 in
theorem c64  {a0 : Bool} {a1 : Int} {x : Int} (H : f64 a0 a1 = some x) : ICalls E 64 [(.bool a0), (.int .i64 a1)] AHeap.none fun v _ => v = (.int .i64 x) := by
  refine icalls_fn (pfnw ?_); unfold f64 at H;(conv=>whnf);refine pw_so ?_;refine po_all ?_;(conv=>whnf);refine pw_seq ?_;refine pw_so ?_;refine po_all ?_;(conv=>whnf);refine pw_cond ?_;(conv=>whnf);refine pbr_oite H (fun g1 H => ?_) (fun g1 H => ?_)
  · (conv=>whnf);refine pw_so ?_;refine po_all ?_;(conv=>whnf);refine pw_ret ?_;(conv=>whnf);cases H; rfl
  · (conv=>whnf);refine pw_skip ?_;(conv=>whnf);refine pw_so ?_;refine po_all ?_;(conv=>whnf);refine pw_ret ?_;(conv=>whnf);cases H; rfl

/-- guidevane/dam.CheckReading -/
noncomputable def f33  (a0 : Int) (a1 : Int) (a2 : Int) : Option Int :=
  obnd (f65 a0 (0 : Int) (36000 : Int)) fun (y1 : Bool) =>
  obnd (
   oite y1 (
    obnd (f78 a1 (50 : Int)) fun (y6 : Bool) =>
    some y6
     ) (
    some false
     )
    ) fun (r3 : Bool) =>
  obnd (
   oite r3 (
    obnd (f78 a2 (2000 : Int)) fun (y11 : Bool) =>
    some y11
     ) (
    some false
     )
    ) fun (r8 : Bool) =>
  obnd (f64 r8 (2 : Int)) fun (y13 : Int) =>
  some y13
set_option maxHeartbeats 1000000 in
theorem c33  {a0 : Int} {a1 : Int} {a2 : Int} {x : Int} (H : f33 a0 a1 a2 = some x) : ICalls E 33 [(.agg ⟨[(.int .i64 a0), (.int .i64 a1), (.int .i64 a2)]⟩)] AHeap.none fun v _ => v = (.int .i64 x) := by
  refine icalls_fn (pfnw ?_); unfold f33 at H;(conv=>whnf);refine pw_so ?_;refine po_all ?_;(conv=>whnf);refine pw_so ?_;refine po_ops 4 ?_;(conv=>whnf);obtain ⟨y1, h2, H⟩ := obnd_some H;refine (c65 h2).go ?_;(conv=>whnf);obtain ⟨r3, h4, H⟩ := obnd_some H;refine po_seg (τ := Bool) 4 (fun e => ⟨[(1, (.pointer (some ⟨0, 0, none⟩))), (10, (.bool e))], ⟨1, [(0, .rw [(.int .i64 a0), (.int .i64 a1), (.int .i64 a2)])], false⟩⟩) r3 ?_ ?_
  · refine po_all ?_;(conv=>whnf);refine pbr_oite h4 (fun g5 h4 => ?_) (fun g5 h4 => ?_)
    · (conv=>whnf);refine pbr_t g5 ?_;(conv=>whnf);refine pbr_t g5 ?_;(conv=>whnf);obtain ⟨y6, h7, h4⟩ := obnd_some h4;refine (c78 h7).go ?_;(conv=>whnf);refine pbr_t g5 ?_;(conv=>whnf);cases h4;exact ⟨(.cons rfl (.cons rfl .nil)), rfl⟩
    · (conv=>whnf);refine pbr_f g5 ?_;(conv=>whnf);refine pbr_f g5 ?_;(conv=>whnf);refine pbr_f g5 ?_;(conv=>whnf);cases h4;exact ⟨(.cons rfl (.cons rfl .nil)), rfl⟩
  · refine po_ops 1 ?_;(conv=>whnf);obtain ⟨r8, h9, H⟩ := obnd_some H;refine po_seg (τ := Bool) 4 (fun e => ⟨[(15, (.bool e))], ⟨1, [(0, .rw [(.int .i64 a0), (.int .i64 a1), (.int .i64 a2)])], false⟩⟩) r8 ?_ ?_
    · refine po_all ?_;(conv=>whnf);refine pbr_oite h9 (fun g10 h9 => ?_) (fun g10 h9 => ?_)
      · (conv=>whnf);refine pbr_t g10 ?_;(conv=>whnf);refine pbr_t g10 ?_;(conv=>whnf);obtain ⟨y11, h12, h9⟩ := obnd_some h9;refine (c78 h12).go ?_;(conv=>whnf);refine pbr_t g10 ?_;(conv=>whnf);cases h9;exact ⟨(.cons rfl .nil), rfl⟩
      · (conv=>whnf);refine pbr_f g10 ?_;(conv=>whnf);refine pbr_f g10 ?_;(conv=>whnf);refine pbr_f g10 ?_;(conv=>whnf);cases h9;exact ⟨(.cons rfl .nil), rfl⟩
    · refine po_all ?_;(conv=>whnf);obtain ⟨y13, h14, H⟩ := obnd_some H;refine (c64 h14).go ?_;(conv=>whnf);refine pw_ret ?_;(conv=>whnf);cases H; rfl

/-- guidevane/dam.ParseReading -/
noncomputable def f373  (a0 : ByteArray) : Option (Int × Int × Int × Int) :=
  obnd (f382 a0 (⟨#[32]⟩ : ByteArray)) fun (y1 : (List ByteArray)) =>
  oite ((!(ieq ((y1.map eS).length : Int) (3 : Int)))) (
   some ((0 : Int), (0 : Int), (0 : Int), (7 : Int))
    ) (
   obndS (
    obnd (y1[(0 : Int).toNat]?) fun (x8 : ByteArray) =>
    obnd (f383 x8 (5 : Int) false) fun (y9 : Int × Bool) =>
    oite (!y9.2) (
     some (.inr (((0 : Int), (0 : Int), (0 : Int), (7 : Int))))
      ) (
     obnd (y1[(1 : Int).toNat]?) fun (x12 : ByteArray) =>
     obnd (f383 x12 (5 : Int) true) fun (y13 : Int × Bool) =>
     oite (!y13.2) (
      some (.inr (((0 : Int), (0 : Int), (0 : Int), (7 : Int))))
       ) (
      obnd (y1[(2 : Int).toNat]?) fun (x16 : ByteArray) =>
      obnd (f383 x16 (5 : Int) true) fun (y17 : Int × Bool) =>
      oite (!y17.2) (
       some (.inr (((0 : Int), (0 : Int), (0 : Int), (7 : Int))))
        ) (
       some (.inl (y9.1, y13.1, y17.1))
        )
       )
      )
     ) fun (r20 : Int × Int × Int) =>
   obnd (f33 r20.1 r20.2.1 r20.2.2) fun (y21 : Int) =>
   oite ((!(ieq y21 (0 : Int)))) (
    some ((0 : Int), (0 : Int), (0 : Int), y21)
     ) (
    some (r20.1, r20.2.1, r20.2.2, (0 : Int))
     )
    )
set_option maxHeartbeats 1000000 in
theorem c373  {a0 : ByteArray} {x : Int × Int × Int × Int} (H : f373 a0 = some x) : ICalls E 373 [(.string a0)] AHeap.none fun v _ => v = (.tuple ⟨[(.agg ⟨[(.int .i64 x.1), (.int .i64 x.2.1), (.int .i64 x.2.2.1)]⟩), (.int .i64 x.2.2.2)]⟩) := by
  refine icalls_fn (pfnw ?_); unfold f373 at H;(conv=>whnf);refine pw_so ?_;refine po_all ?_;(conv=>whnf);refine pw_so ?_;refine po_all ?_;(conv=>whnf);refine pw_so ?_;refine po_all ?_;(conv=>whnf);refine pw_so ?_;refine po_all ?_;(conv=>whnf);obtain ⟨y1, h2, H⟩ := obnd_some H;refine (c382 h2).go ?_;(conv=>whnf);refine pw_seq ?_;refine pw_so ?_;refine po_all ?_;(conv=>whnf);refine pw_cond ?_;(conv=>whnf);refine pbr_oite H (fun g3 H => ?_) (fun g3 H => ?_)
  · (conv=>whnf);refine pw_so ?_;refine po_all ?_;(conv=>whnf);refine pw_ret ?_;(conv=>whnf);cases H; rfl
  · (conv=>whnf);refine pw_skip ?_;(conv=>whnf);obtain ⟨r4, h5, h6, h7⟩ := obndS_some H;refine pw_joinS (ρ := Int × Int × Int) (fun e => ⟨[(2, (.pointer (some ⟨0, 0, none⟩))), (4, (.pointer (some ⟨1, 0, none⟩)))], ⟨3, [(2, .rw [(.pointer (some ⟨1, 0, none⟩)), (.pointer (some ⟨1, 1, none⟩)), (.pointer (some ⟨1, 2, none⟩))]), (1, .rw [(.int .i64 e.1), (.int .i64 e.2.1), (.int .i64 e.2.2)]), (0, .rw [(.int .i64 0), (.int .i64 0), (.int .i64 0)])], false⟩⟩) r4 ?_ ?_
    · refine pw_so ?_;refine po_all ?_;(conv=>whnf);refine pw_block ?_;refine pw_unroll 4 ?_;(conv=>whnf);refine pw_so ?_;refine po_all ?_;(conv=>whnf);refine pw_seq ?_;refine pw_cond ?_;(conv=>whnf);refine pw_skip ?_;(conv=>whnf);refine pw_seq ?_;refine pw_block ?_;refine pw_so ?_;refine po_all ?_;(conv=>whnf);refine pw_so ?_;refine po_all ?_;(conv=>whnf);refine nth_o (l := y1) h5 (fun x8 _ h5 => ?_);(conv=>whnf);obtain ⟨y9, h10, h5⟩ := obnd_some h5;refine (c383 h10).go ?_;(conv=>whnf);refine pw_seq ?_;refine pw_so ?_;refine po_all ?_;(conv=>whnf);refine pw_cond ?_;(conv=>whnf);refine pbr_oite h5 (fun g11 h5 => ?_) (fun g11 h5 => ?_)
      · (conv=>whnf);refine pw_so ?_;refine po_all ?_;(conv=>whnf);refine pw_ret ?_;(conv=>whnf);cases h5;obtain rfl := h7 _ rfl; rfl
      · (conv=>whnf);refine pw_skip ?_;(conv=>whnf);refine pw_ops ?_;refine po_all ?_;(conv=>whnf);refine pw_ops ?_;refine po_all ?_;(conv=>whnf);refine ⟨_, .refl, Nat.le_of_ble_eq_true rfl, ?_⟩;(conv=>whnf);refine pw_so ?_;refine po_all ?_;(conv=>whnf);refine pw_seq ?_;refine pw_cond ?_;(conv=>whnf);refine pw_skip ?_;(conv=>whnf);refine pw_seq ?_;refine pw_block ?_;refine pw_so ?_;refine po_all ?_;(conv=>whnf);refine pw_so ?_;refine po_all ?_;(conv=>whnf);refine nth_o (l := y1) h5 (fun x12 _ h5 => ?_);(conv=>whnf);obtain ⟨y13, h14, h5⟩ := obnd_some h5;refine (c383 h14).go ?_;(conv=>whnf);refine pw_seq ?_;refine pw_so ?_
        refine po_all ?_;(conv=>whnf);refine pw_cond ?_;(conv=>whnf);refine pbr_oite h5 (fun g15 h5 => ?_) (fun g15 h5 => ?_)
        · (conv=>whnf);refine pw_so ?_;refine po_all ?_;(conv=>whnf);refine pw_ret ?_;(conv=>whnf);cases h5;obtain rfl := h7 _ rfl; rfl
        · (conv=>whnf);refine pw_skip ?_;(conv=>whnf);refine pw_ops ?_;refine po_all ?_;(conv=>whnf);refine pw_ops ?_;refine po_all ?_;(conv=>whnf);refine ⟨_, .refl, Nat.le_of_ble_eq_true rfl, ?_⟩;(conv=>whnf);refine pw_so ?_;refine po_all ?_;(conv=>whnf);refine pw_seq ?_;refine pw_cond ?_;(conv=>whnf);refine pw_skip ?_;(conv=>whnf);refine pw_seq ?_;refine pw_block ?_;refine pw_so ?_;refine po_all ?_;(conv=>whnf);refine pw_so ?_;refine po_all ?_;(conv=>whnf);refine nth_o (l := y1) h5 (fun x16 _ h5 => ?_);(conv=>whnf);obtain ⟨y17, h18, h5⟩ := obnd_some h5;refine (c383 h18).go ?_;(conv=>whnf);refine pw_seq ?_;refine pw_so ?_
          refine po_all ?_;(conv=>whnf);refine pw_cond ?_;(conv=>whnf);refine pbr_oite h5 (fun g19 h5 => ?_) (fun g19 h5 => ?_)
          · (conv=>whnf);refine pw_so ?_;refine po_all ?_;(conv=>whnf);refine pw_ret ?_;(conv=>whnf);cases h5;obtain rfl := h7 _ rfl; rfl
          · (conv=>whnf);refine pw_skip ?_;(conv=>whnf);refine pw_ops ?_;refine po_all ?_;(conv=>whnf);refine pw_ops ?_;refine po_all ?_;(conv=>whnf);refine ⟨_, .refl, Nat.le_of_ble_eq_true rfl, ?_⟩;(conv=>whnf);refine pw_so ?_;refine po_all ?_;(conv=>whnf);refine pw_seq ?_;refine pw_cond ?_;(conv=>whnf);refine pw_exit ?_;(conv=>whnf);cases h5;exact ⟨_, rfl, ⟨(.cons rfl (.cons rfl .nil)), rfl⟩⟩
    · intro r20 hr; have H := h6 _ hr;refine pw_seq ?_;refine pw_so ?_;refine po_all ?_;(conv=>whnf);obtain ⟨y21, h22, H⟩ := obnd_some H;refine (c33 h22).go ?_;(conv=>whnf);refine pw_so ?_;refine po_all ?_;(conv=>whnf);refine pw_cond ?_;(conv=>whnf);refine pbr_oite H (fun g23 H => ?_) (fun g23 H => ?_)
      · (conv=>whnf);refine pw_so ?_;refine po_all ?_;(conv=>whnf);refine pw_ret ?_;(conv=>whnf);cases H; rfl
      · (conv=>whnf);refine pw_skip ?_;(conv=>whnf);refine pw_so ?_;refine po_all ?_;(conv=>whnf);refine pw_ret ?_;(conv=>whnf);cases H; rfl

/-- guidevane/guidevanebase.Cut -/
noncomputable def f386 [LO]  (a0 : ByteArray) (a1 : Int) : Option ((List ByteArray)) :=
  obnd (
   oloop (τ := (List ByteArray) × Int × Int) (ρ := (List ByteArray) × Int) (fun e5 =>
    oite ((ilt e5.2.2 (a0.size : Int))) (
     ogrd ((ile 0 e5.2.2)) (
     obnd (a0.data.toList[e5.2.2.toNat]?) fun (x10 : UInt8) =>
     oite ((ieq (x10.toNat : Int) a1)) (
      ogrd ((ile 0 e5.2.1)) (
      ogrd ((ile e5.2.1 e5.2.2)) (
      ogrd ((ile e5.2.2 (a0.size : Int))) (
      ogrd (fits 16 (e5.1.length + ([(⟨⟨(a0.data.toList.drop e5.2.1.toNat).take (e5.2.2.toNat - e5.2.1.toNat)⟩⟩ : ByteArray)] : List ByteArray).length)) (
      some (.inl (((e5.1 ++ ([(⟨⟨(a0.data.toList.drop e5.2.1.toNat).take (e5.2.2.toNat - e5.2.1.toNat)⟩⟩ : ByteArray)] : List ByteArray)), (IntKind.i64.wrap (e5.2.2 + (1 : Int))), (IntKind.i64.wrap (e5.2.2 + (1 : Int))))))
      )
      )
      )
      )
       ) (
      some (.inl (e5.1, e5.2.1, (IntKind.i64.wrap (e5.2.2 + (1 : Int)))))
       )
     )
      ) (
     some (.inr ((e5.1, e5.2.1)))
      )
     ) ((([] : List ByteArray), (0 : Int), (0 : Int)))
    ) fun (r1 : (List ByteArray) × Int) =>
  ogrd ((ile 0 r1.2)) (
  ogrd ((ile r1.2 (a0.size : Int))) (
  ogrd (fits 16 (r1.1.length + ([(⟨⟨a0.data.toList.drop r1.2.toNat⟩⟩ : ByteArray)] : List ByteArray).length)) (
  some (r1.1 ++ ([(⟨⟨a0.data.toList.drop r1.2.toNat⟩⟩ : ByteArray)] : List ByteArray))
  )
  )
  )
set_option maxHeartbeats 1000000 in
theorem c386 [LO]  {a0 : ByteArray} {a1 : Int} {x : (List ByteArray)} (H : f386 a0 a1 = some x) : ICalls E 386 [(.string a0), (.int .u8 a1)] AHeap.none fun v _ => v = (VS 1 (x.map eS)) := by
  refine ICalls.frz ?_;refine icalls_fn (pfnw ?_); unfold f386 at H;(conv=>whnf);refine pw_so ?_;refine po_all ?_;(conv=>whnf);refine pw_so ?_;refine po_all ?_;(conv=>whnf);refine pw_so ?_;refine po_all ?_;(conv=>whnf);obtain ⟨r1, h2, H⟩ := obnd_some H;refine pw_join (ρ := (List ByteArray) × Int) (fun e => ⟨[(0, (.string a0)), (5, (VT 1 (e.1.map eS) 0)), (6, (.int .i64 e.2))], ⟨1, [(0, .tail (e.1.map eS).length 1)], false⟩⟩) r1 ?_ ?_
  · refine pw_so ?_;refine po_all ?_;(conv=>whnf);refine pw_block ?_;refine pw_loop (τ := (List ByteArray) × Int × Int) (fun e => ⟨[(0, (.string a0)), (1, (.int .u8 a1)), (5, (VT 1 (e.1.map eS) 0)), (6, (.int .i64 e.2.1)), (7, (.int .i64 e.2.2))], ⟨1, [(0, .tail (e.1.map eS).length 1)], false⟩⟩) h2 ?_ (fun _ => Nat.le_of_ble_eq_true rfl) ?_
    · exact (Recast.nilTs 1 (Nat.le_of_ble_eq_true rfl) (.same rfl (.same rfl (.turn rfl (.same rfl (.same rfl .nil))))))
    · intro e5 x6 h7;refine pw_seq ?_;refine pw_so ?_;refine po_all ?_;(conv=>whnf);refine pw_cond ?_;(conv=>whnf);refine pbr_oite h7 (fun g8 h7 => ?_) (fun g8 h7 => ?_)
      · (conv=>whnf);refine pw_skip ?_;(conv=>whnf);refine pw_seq ?_;refine pw_block ?_;refine pw_so ?_;refine po_all ?_;(conv=>whnf);refine pbr_ogrd h7 (fun g9 h7 => ?_);(conv=>whnf);refine get_o h7 (fun x10 _ h7 => ?_);(conv=>whnf);refine pw_cond ?_;(conv=>whnf);refine pbr_oite h7 (fun g11 h7 => ?_) (fun g11 h7 => ?_)
        · (conv=>whnf);refine pw_so ?_;refine po_all ?_;(conv=>whnf);refine pbr_ogrd h7 (fun g12 h7 => ?_);(conv=>whnf);refine pbr_ogrd h7 (fun g13 h7 => ?_);(conv=>whnf);refine pbr_ogrd h7 (fun g14 h7 => ?_);(conv=>whnf);refine app_o (l := e5.1) (m := ([(⟨⟨(a0.data.toList.drop e5.2.1.toNat).take (e5.2.2.toNat - e5.2.1.toNat)⟩⟩ : ByteArray)] : List ByteArray)) (f := eS) h7 (by rfl) (by rfl) (by rfl) (fun h7 => ?_);(conv=>whnf);refine pw_ops ?_;refine po_all ?_;(conv=>whnf);refine pw_ops ?_;refine po_all ?_;(conv=>whnf);cases h7;refine ⟨_, rfl, ?_⟩;refine Recast.trunc (Nat.le_of_ble_eq_true rfl) ?_ ?_
          · repeat (first | exact .nil | refine .cons rfl (by first | exact OBnd.rwc (Nat.le_of_ble_eq_true rfl) rfl | exact OBnd.tail (Nat.le_of_ble_eq_true rfl) | trivial) ?_)
          · repeat (first | exact .nil | refine .cons rfl (by first | exact Bnd.ptr (Nat.le_of_ble_eq_true rfl) | exact Bnd.vt (Nat.le_of_ble_eq_true rfl) | exact Bnd.cl) ?_)
        · (conv=>whnf);refine pw_skip ?_;(conv=>whnf);refine pw_ops ?_;refine po_all ?_;(conv=>whnf);cases h7;refine ⟨_, rfl, ?_⟩;exact .sub' (Nat.le_of_ble_eq_true rfl) (.cons rfl (.cons rfl (.cons rfl (.cons rfl (.cons rfl .nil)))))
      · (conv=>whnf);refine pw_exit ?_;(conv=>whnf);cases h7;refine ⟨_, rfl, ?_⟩; rintro rfl;(conv=>whnf);exact ⟨(.cons rfl (.cons rfl (.cons rfl .nil))), rfl⟩
  · refine pw_so ?_;refine po_all ?_;(conv=>whnf);refine pbr_ogrd H (fun g16 H => ?_);(conv=>whnf);refine pbr_ogrd H (fun g17 H => ?_);(conv=>whnf);refine app_o (l := r1.1) (m := ([(⟨⟨a0.data.toList.drop r1.2.toNat⟩⟩ : ByteArray)] : List ByteArray)) (f := eS) H (by rfl) (by rfl) (by rfl) (fun H => ?_);(conv=>whnf);refine pw_ret ?_;(conv=>whnf);cases H; show ∃ D, Fz _ D 0 (VT 1 _ 0) _;exact ⟨fun _ => false, .vtc⟩

/-- guidevane/guidevanebase.Number -/
noncomputable def f387 [LO]  (a0 : ByteArray) (a1 : Int) : Option (Int × Bool) :=
  obnd (
   obnd (
    oite ((ilt (0 : Int) (a0.size : Int))) (
     obnd (a0.data.toList[(0 : Int).toNat]?) fun (x10 : UInt8) =>
     some (ieq (x10.toNat : Int) (45 : Int))
      ) (
     some false
      )
     ) fun (r5 : Bool) =>
   oite r5 (
    some (1 : Int)
     ) (
    some (0 : Int)
     )
    ) fun (r1 : Int) =>
  obnd (
   obnd (
    oite ((ieq (a0.size : Int) r1)) (
     some true
      ) (
     some (ilt a1 (IntKind.i64.wrap ((a0.size : Int) - r1)))
      )
     ) fun (r16 : Bool) =>
   oite r16 (
    some true
     ) (
    ogrd ((ile 0 r1)) (
    obnd (a0.data.toList[r1.toNat]?) fun (x21 : UInt8) =>
    obnd (
     oite ((ieq (x21.toNat : Int) (48 : Int))) (
      some (ilt (1 : Int) (a0.size : Int))
       ) (
      some false
       )
      ) fun (r22 : Bool) =>
    some r22
    )
     )
    ) fun (r12 : Bool) =>
  oite r12 (
   some ((0 : Int), false)
    ) (
   obndS (
    oloop (τ := Int × Int) (ρ := (Int) ⊕ (Int × Bool)) (fun e30 =>
     oite ((ilt e30.2 (a0.size : Int))) (
      obnd (
       ogrd ((ile 0 e30.2)) (
       obnd (a0.data.toList[e30.2.toNat]?) fun (x39 : UInt8) =>
       oite ((ilt (x39.toNat : Int) (48 : Int))) (
        some true
         ) (
        obnd (a0.data.toList[e30.2.toNat]?) fun (x41 : UInt8) =>
        some (ilt (57 : Int) (x41.toNat : Int))
         )
       )
        ) fun (r34 : Bool) =>
      oite r34 (
       some (.inr (.inr (((0 : Int), false))))
        ) (
       ogrd ((ile 0 e30.2)) (
       obnd (a0.data.toList[e30.2.toNat]?) fun (x45 : UInt8) =>
       some (.inl (((IntKind.i64.wrap ((IntKind.i64.wrap ((10 : Int) * e30.1)) + (IntKind.i64.wrap (IntKind.u8.wrap ((x45.toNat : Int) - (48 : Int)))))), (IntKind.i64.wrap (e30.2 + (1 : Int))))))
       )
        )
       ) (
      some (.inr (.inl e30.1))
       )
      ) ((0 : Int), r1)
     ) fun (r47 : Int) =>
   oite ((ieq r1 (1 : Int))) (
    some ((IntKind.i64.wrap (0 - r47)), true)
     ) (
    some (r47, true)
     )
    )
set_option maxHeartbeats 1000000 in
theorem c387 [LO]  {a0 : ByteArray} {a1 : Int} {x : Int × Bool} (H : f387 a0 a1 = some x) : ICalls E 387 [(.string a0), (.int .i64 a1)] AHeap.none fun v _ => v = (.tuple ⟨[(.int .i64 x.1), (.bool x.2)]⟩) := by
  refine icalls_fn (pfnw ?_); unfold f387 at H;(conv=>whnf);refine pw_so ?_;refine po_all ?_;(conv=>whnf);refine pw_so ?_;refine po_all ?_;(conv=>whnf);obtain ⟨r1, h2, H⟩ := obnd_some H;refine pw_join (ρ := Int) (fun e => ⟨[(0, (.string a0)), (1, (.int .i64 a1)), (6, (.int .i64 e))], ⟨0, [], false⟩⟩) r1 ?_ ?_
  · obtain ⟨r5, h6, h2⟩ := obnd_some h2;refine pw_join (ρ := Bool) (fun e => ⟨[(0, (.string a0)), (1, (.int .i64 a1)), (6, (.int .i64 0)), (16, (.bool e))], ⟨0, [], false⟩⟩) r5 ?_ ?_
    · refine pw_ops ?_;refine po_all ?_;(conv=>whnf);refine pbr_oite h6 (fun g9 h6 => ?_) (fun g9 h6 => ?_)
      · (conv=>whnf);refine pbr_t g9 ?_;(conv=>whnf);refine get_o h6 (fun x10 _ h6 => ?_);(conv=>whnf);refine pbr_t g9 ?_;(conv=>whnf);refine pbr_t g9 ?_;(conv=>whnf);cases h6;exact ⟨(.cons rfl (.cons rfl (.cons rfl (.cons rfl .nil)))), rfl⟩
      · (conv=>whnf);refine pbr_f g9 ?_;(conv=>whnf);refine pbr_f g9 ?_;(conv=>whnf);refine pbr_f g9 ?_;(conv=>whnf);cases h6;exact ⟨(.cons rfl (.cons rfl (.cons rfl (.cons rfl .nil)))), rfl⟩
    · refine pw_cond ?_;(conv=>whnf);refine pbr_oite h2 (fun g11 h2 => ?_) (fun g11 h2 => ?_)
      · (conv=>whnf);refine pw_ops ?_;refine po_all ?_;(conv=>whnf);cases h2;exact ⟨(.cons rfl (.cons rfl (.cons rfl .nil))), rfl⟩
      · (conv=>whnf);refine pw_skip ?_;(conv=>whnf);cases h2;exact ⟨(.cons rfl (.cons rfl (.cons rfl .nil))), rfl⟩
  · refine pw_seq ?_;obtain ⟨r12, h13, H⟩ := obnd_some H;refine pw_join (ρ := Bool) (fun e => ⟨[(0, (.string a0)), (6, (.int .i64 r1)), (39, (.bool e))], ⟨0, [], false⟩⟩) r12 ?_ ?_
    · refine pw_ops ?_;refine po_ops 5 ?_;(conv=>whnf);obtain ⟨r16, h17, h13⟩ := obnd_some h13;refine po_seg (τ := Bool) 7 (fun e => ⟨[(0, (.string a0)), (6, (.int .i64 r1)), (28, (.bool e))], ⟨0, [], false⟩⟩) r16 ?_ ?_
      · refine po_all ?_;(conv=>whnf);refine pbr_oite h17 (fun g18 h17 => ?_) (fun g18 h17 => ?_)
        · (conv=>whnf);refine pbr_t g18 ?_;(conv=>whnf);refine pbr_t g18 ?_;(conv=>whnf);refine pbr_t g18 ?_;(conv=>whnf);refine pbr_t g18 ?_;(conv=>whnf);refine pbr_t g18 ?_;(conv=>whnf);refine pbr_t g18 ?_;(conv=>whnf);cases h17;exact ⟨(.cons rfl (.cons rfl (.cons rfl .nil))), rfl⟩
        · (conv=>whnf);refine pbr_f g18 ?_;(conv=>whnf);refine pbr_f g18 ?_;(conv=>whnf);refine pbr_f g18 ?_;(conv=>whnf);refine pbr_f g18 ?_;(conv=>whnf);refine pbr_f g18 ?_;(conv=>whnf);refine pbr_f g18 ?_;(conv=>whnf);cases h17;exact ⟨(.cons rfl (.cons rfl (.cons rfl .nil))), rfl⟩
      · refine po_ops 6 ?_;(conv=>whnf);refine pbr_oite h13 (fun g19 h13 => ?_) (fun g19 h13 => ?_)
        · (conv=>whnf);refine pbr_t g19 ?_;(conv=>whnf);refine pbr_t g19 ?_;(conv=>whnf);refine pbr_t g19 ?_;(conv=>whnf);refine pbr_t g19 ?_;(conv=>whnf);refine po_ops 4 ?_;(conv=>whnf);refine pbr_t g19 ?_;(conv=>whnf);refine po_all ?_;(conv=>whnf);refine pbr_t g19 ?_;(conv=>whnf);cases h13;exact ⟨(.cons rfl (.cons rfl (.cons rfl .nil))), rfl⟩
        · (conv=>whnf);refine pbr_f g19 ?_;(conv=>whnf);refine pbr_f g19 ?_;(conv=>whnf);refine pbr_ogrd h13 (fun g20 h13 => ?_);(conv=>whnf);refine get_o h13 (fun x21 _ h13 => ?_);(conv=>whnf);refine pbr_f g19 ?_;(conv=>whnf);refine pbr_f g19 ?_;(conv=>whnf);obtain ⟨r22, h23, h13⟩ := obnd_some h13;refine po_seg (τ := Bool) 4 (fun e => ⟨[(0, (.string a0)), (6, (.int .i64 r1)), (29, (.bool r16)), (38, (.bool e))], ⟨0, [], false⟩⟩) r22 ?_ ?_
          · refine po_all ?_;(conv=>whnf);refine pbr_oite h23 (fun g24 h23 => ?_) (fun g24 h23 => ?_)
            · (conv=>whnf);refine pbr_t g24 ?_;(conv=>whnf);refine pbr_t g24 ?_;(conv=>whnf);refine pbr_f g19 ?_;(conv=>whnf);refine pbr_t g24 ?_;(conv=>whnf);cases h23;exact ⟨(.cons rfl (.cons rfl (.cons rfl (.cons rfl .nil)))), rfl⟩
            · (conv=>whnf);refine pbr_f g24 ?_;(conv=>whnf);refine pbr_f g24 ?_;(conv=>whnf);refine pbr_f g19 ?_;(conv=>whnf);refine pbr_f g24 ?_;(conv=>whnf);cases h23;exact ⟨(.cons rfl (.cons rfl (.cons rfl (.cons rfl .nil)))), rfl⟩
          · refine po_all ?_;(conv=>whnf);refine pbr_f g19 ?_;(conv=>whnf);cases h13;exact ⟨(.cons rfl (.cons rfl (.cons rfl .nil))), rfl⟩
    · refine pw_cond ?_;(conv=>whnf);refine pbr_oite H (fun g25 H => ?_) (fun g25 H => ?_)
      · (conv=>whnf);refine pw_so ?_;refine po_all ?_;(conv=>whnf);refine pw_ret ?_;(conv=>whnf);cases H; rfl
      · (conv=>whnf);refine pw_skip ?_;(conv=>whnf);refine pw_so ?_;refine po_all ?_;(conv=>whnf);obtain ⟨r26, h27, h28, h29⟩ := obndS_some H;refine pw_joinS (ρ := Int) (fun e => ⟨[(6, (.int .i64 r1)), (7, (.int .i64 e))], ⟨0, [], false⟩⟩) r26 ?_ ?_
        · refine pw_so ?_;refine po_all ?_;(conv=>whnf);refine pw_block ?_;refine pw_loop (τ := Int × Int) (fun e => ⟨[(0, (.string a0)), (6, (.int .i64 r1)), (7, (.int .i64 e.1)), (8, (.int .i64 e.2))], ⟨0, [], false⟩⟩) h27 ?_ (fun _ => Nat.le_of_ble_eq_true rfl) ?_
          · exact .sub' (Nat.le_of_ble_eq_true rfl) (.cons rfl (.cons rfl (.cons rfl (.cons rfl .nil))))
          · intro e30 x31 h32;refine pw_seq ?_;refine pw_so ?_;refine po_all ?_;(conv=>whnf);refine pw_cond ?_;(conv=>whnf);refine pbr_oite h32 (fun g33 h32 => ?_) (fun g33 h32 => ?_)
            · (conv=>whnf);refine pw_skip ?_;(conv=>whnf);refine pw_seq ?_;refine pw_block ?_;refine pw_seq ?_;obtain ⟨r34, h35, h32⟩ := obnd_some h32;refine pw_join (ρ := Bool) (fun e => ⟨[(0, (.string a0)), (6, (.int .i64 r1)), (7, (.int .i64 e30.1)), (8, (.int .i64 e30.2)), (56, (.bool e))], ⟨0, [], false⟩⟩) r34 ?_ ?_
              · refine pw_ops ?_;refine po_all ?_;(conv=>whnf);refine pbr_ogrd h35 (fun g38 h35 => ?_);(conv=>whnf);refine get_o h35 (fun x39 _ h35 => ?_);(conv=>whnf);refine pbr_oite h35 (fun g40 h35 => ?_) (fun g40 h35 => ?_)
                · (conv=>whnf);refine pbr_t g40 ?_;(conv=>whnf);refine pbr_t g40 ?_;(conv=>whnf);refine pbr_t g40 ?_;(conv=>whnf);refine pbr_t g40 ?_;(conv=>whnf);cases h35;exact ⟨(.cons rfl (.cons rfl (.cons rfl (.cons rfl (.cons rfl .nil))))), rfl⟩
                · (conv=>whnf);refine pbr_f g40 ?_;(conv=>whnf);refine pbr_f g40 ?_;(conv=>whnf);refine pbr_t g38 ?_;(conv=>whnf);refine get_o h35 (fun x41 _ h35 => ?_);(conv=>whnf);refine pbr_f g40 ?_;(conv=>whnf);refine pbr_f g40 ?_;(conv=>whnf);cases h35;exact ⟨(.cons rfl (.cons rfl (.cons rfl (.cons rfl (.cons rfl .nil))))), rfl⟩
              · refine pw_cond ?_;(conv=>whnf);refine pbr_oite h32 (fun g42 h32 => ?_) (fun g42 h32 => ?_)
                · (conv=>whnf);refine pw_so ?_;refine po_all ?_;(conv=>whnf);refine pw_ret ?_;(conv=>whnf);cases h32;refine ⟨_, rfl, ?_⟩; rintro rfl;(conv=>whnf);obtain rfl := h29 _ rfl; rfl
                · (conv=>whnf);refine pw_skip ?_;(conv=>whnf);refine pw_ops ?_;refine po_all ?_;(conv=>whnf);refine pbr_ogrd h32 (fun g44 h32 => ?_);(conv=>whnf);refine get_o h32 (fun x45 _ h32 => ?_);(conv=>whnf);refine pw_ops ?_;refine po_all ?_;(conv=>whnf);cases h32;refine ⟨_, rfl, ?_⟩;exact .sub' (Nat.le_of_ble_eq_true rfl) (.cons rfl (.cons rfl (.cons rfl (.cons rfl .nil))))
            · (conv=>whnf);refine pw_exit ?_;(conv=>whnf);cases h32;refine ⟨_, rfl, ?_⟩; rintro rfl;(conv=>whnf);exact ⟨_, rfl, ⟨(.cons rfl (.cons rfl .nil)), rfl⟩⟩
        · intro r47 hr; have H := h28 _ hr;refine pw_seq ?_;refine pw_so ?_;refine po_all ?_;(conv=>whnf);refine pw_cond ?_;(conv=>whnf);refine pbr_oite H (fun g48 H => ?_) (fun g48 H => ?_)
          · (conv=>whnf);refine pw_ops ?_;refine po_all ?_;(conv=>whnf);refine pw_so ?_;refine po_all ?_;(conv=>whnf);refine pw_ret ?_;(conv=>whnf);cases H; rfl
          · (conv=>whnf);refine pw_skip ?_;(conv=>whnf);refine pw_so ?_;refine po_all ?_;(conv=>whnf);refine pw_ret ?_;(conv=>whnf);cases H; rfl

/-- guidevane/guidevanebase.Within -/
noncomputable def f15  (a0 : Int) (a1 : Int) (a2 : Int) : Option Bool :=
  obnd (
   oite ((ile a1 a0)) (
    some (ile a0 a2)
     ) (
    some false
     )
    ) fun (r1 : Bool) =>
  some r1
set_option maxHeartbeats 1000000 in
theorem c15  {a0 : Int} {a1 : Int} {a2 : Int} {x : Bool} (H : f15 a0 a1 a2 = some x) : ICalls E 15 [(.int .i64 a0), (.int .i64 a1), (.int .i64 a2)] AHeap.none fun v _ => v = (.bool x) := by
  refine icalls_fn (pfnw ?_); unfold f15 at H;(conv=>whnf);refine pw_so ?_;refine po_all ?_;(conv=>whnf);refine pw_so ?_;refine po_ops 4 ?_;(conv=>whnf);obtain ⟨r1, h2, H⟩ := obnd_some H;refine po_seg (τ := Bool) 4 (fun e => ⟨[(14, (.bool e))], ⟨0, [], false⟩⟩) r1 ?_ ?_
  · refine po_all ?_;(conv=>whnf);refine pbr_oite h2 (fun g3 h2 => ?_) (fun g3 h2 => ?_)
    · (conv=>whnf);refine pbr_t g3 ?_;(conv=>whnf);refine pbr_t g3 ?_;(conv=>whnf);refine pbr_t g3 ?_;(conv=>whnf);cases h2;exact ⟨(.cons rfl .nil), rfl⟩
    · (conv=>whnf);refine pbr_f g3 ?_;(conv=>whnf);refine pbr_f g3 ?_;(conv=>whnf);refine pbr_f g3 ?_;(conv=>whnf);cases h2;exact ⟨(.cons rfl .nil), rfl⟩
  · refine po_all ?_;(conv=>whnf);refine pw_ret ?_;(conv=>whnf);cases H; rfl

/-- guidevane/guidevaneref09.ReadingErr -/
noncomputable def f32  (a0 : Int) (a1 : Int) (a2 : Int) : Option Int :=
  obnd (
   obnd (f15 a0 (0 : Int) (36000 : Int)) fun (y5 : Bool) =>
   obnd (
    oite (!y5) (
     some true
      ) (
     obnd (f15 a1 (-50 : Int) (50 : Int)) fun (y10 : Bool) =>
     some (!y10)
      )
     ) fun (r7 : Bool) =>
   oite r7 (
    some true
     ) (
    obnd (f15 a2 (-2000 : Int) (2000 : Int)) fun (y13 : Bool) =>
    some (!y13)
     )
    ) fun (r1 : Bool) =>
  oite r1 (
   some (2 : Int)
    ) (
   some (0 : Int)
    )
set_option maxHeartbeats 1000000 in
theorem c32  {a0 : Int} {a1 : Int} {a2 : Int} {x : Int} (H : f32 a0 a1 a2 = some x) : ICalls E 32 [(.agg ⟨[(.int .i64 a0), (.int .i64 a1), (.int .i64 a2)]⟩)] AHeap.none fun v _ => v = (.int .i64 x) := by
  refine icalls_fn (pfnw ?_); unfold f32 at H;(conv=>whnf);refine pw_so ?_;refine po_all ?_;(conv=>whnf);refine pw_seq ?_;obtain ⟨r1, h2, H⟩ := obnd_some H;refine pw_join (ρ := Bool) (fun e => ⟨[(18, (.bool e))], ⟨1, [(0, .rw [(.int .i64 a0), (.int .i64 a1), (.int .i64 a2)])], false⟩⟩) r1 ?_ ?_
  · refine pw_ops ?_;refine po_ops 5 ?_;(conv=>whnf);obtain ⟨y5, h6, h2⟩ := obnd_some h2;refine (c15 h6).go ?_;(conv=>whnf);obtain ⟨r7, h8, h2⟩ := obnd_some h2;refine po_seg (τ := Bool) 5 (fun e => ⟨[(1, (.pointer (some ⟨0, 0, none⟩))), (12, (.bool e))], ⟨1, [(0, .rw [(.int .i64 a0), (.int .i64 a1), (.int .i64 a2)])], false⟩⟩) r7 ?_ ?_
    · refine po_all ?_;(conv=>whnf);refine pbr_oite h8 (fun g9 h8 => ?_) (fun g9 h8 => ?_)
      · (conv=>whnf);refine pbr_t g9 ?_;(conv=>whnf);refine pbr_t g9 ?_;(conv=>whnf);refine pbr_t g9 ?_;(conv=>whnf);refine pbr_t g9 ?_;(conv=>whnf);cases h8;exact ⟨(.cons rfl (.cons rfl .nil)), rfl⟩
      · (conv=>whnf);refine pbr_f g9 ?_;(conv=>whnf);refine pbr_f g9 ?_;(conv=>whnf);obtain ⟨y10, h11, h8⟩ := obnd_some h8;refine (c15 h11).go ?_;(conv=>whnf);refine pbr_f g9 ?_;(conv=>whnf);refine pbr_f g9 ?_;(conv=>whnf);cases h8;exact ⟨(.cons rfl (.cons rfl .nil)), rfl⟩
    · refine po_all ?_;(conv=>whnf);refine pbr_oite h2 (fun g12 h2 => ?_) (fun g12 h2 => ?_)
      · (conv=>whnf);refine pbr_t g12 ?_;(conv=>whnf);refine pbr_t g12 ?_;(conv=>whnf);refine pbr_t g12 ?_;(conv=>whnf);refine pbr_t g12 ?_;(conv=>whnf);cases h2;exact ⟨(.cons rfl .nil), rfl⟩
      · (conv=>whnf);refine pbr_f g12 ?_;(conv=>whnf);refine pbr_f g12 ?_;(conv=>whnf);obtain ⟨y13, h14, h2⟩ := obnd_some h2;refine (c15 h14).go ?_;(conv=>whnf);refine pbr_f g12 ?_;(conv=>whnf);refine pbr_f g12 ?_;(conv=>whnf);cases h2;exact ⟨(.cons rfl .nil), rfl⟩
  · refine pw_cond ?_;(conv=>whnf);refine pbr_oite H (fun g15 H => ?_) (fun g15 H => ?_)
    · (conv=>whnf);refine pw_so ?_;refine po_all ?_;(conv=>whnf);refine pw_ret ?_;(conv=>whnf);cases H; rfl
    · (conv=>whnf);refine pw_skip ?_;(conv=>whnf);refine pw_so ?_;refine po_all ?_;(conv=>whnf);refine pw_ret ?_;(conv=>whnf);cases H; rfl

/-- guidevane/guidevaneref09.ParseReading -/
noncomputable def f375 [LO]  (a0 : ByteArray) : Option (Int × Int × Int × Int) :=
  obnd (f386 a0 (32 : Int)) fun (y1 : (List ByteArray)) =>
  oite ((!(ieq ((y1.map eS).length : Int) (3 : Int)))) (
   some ((0 : Int), (0 : Int), (0 : Int), (7 : Int))
    ) (
   obndS (
    obnd (y1[(0 : Int).toNat]?) fun (x8 : ByteArray) =>
    obnd (f387 x8 (5 : Int)) fun (y9 : Int × Bool) =>
    obnd (
     oite (!y9.2) (
      some true
       ) (
      obnd (y1[(0 : Int).toNat]?) fun (x16 : ByteArray) =>
      obnd (x16.data.toList[(0 : Int).toNat]?) fun (x17 : UInt8) =>
      some (ieq (x17.toNat : Int) (45 : Int))
       )
      ) fun (r11 : Bool) =>
    oite r11 (
     some (.inr (((0 : Int), (0 : Int), (0 : Int), (7 : Int))))
      ) (
     obnd (y1[(1 : Int).toNat]?) fun (x19 : ByteArray) =>
     obnd (f387 x19 (5 : Int)) fun (y20 : Int × Bool) =>
     obnd (
      oite (!y20.2) (
       some true
        ) (
       some false
        )
       ) fun (r22 : Bool) =>
     oite r22 (
      some (.inr (((0 : Int), (0 : Int), (0 : Int), (7 : Int))))
       ) (
      obnd (y1[(2 : Int).toNat]?) fun (x28 : ByteArray) =>
      obnd (f387 x28 (5 : Int)) fun (y29 : Int × Bool) =>
      obnd (
       oite (!y29.2) (
        some true
         ) (
        some false
         )
        ) fun (r31 : Bool) =>
      oite r31 (
       some (.inr (((0 : Int), (0 : Int), (0 : Int), (7 : Int))))
        ) (
       some (.inl (y9.1, y20.1, y29.1))
        )
       )
      )
     ) fun (r37 : Int × Int × Int) =>
   obnd (f32 r37.1 r37.2.1 r37.2.2) fun (y38 : Int) =>
   oite ((!(ieq y38 (0 : Int)))) (
    some ((0 : Int), (0 : Int), (0 : Int), y38)
     ) (
    some (r37.1, r37.2.1, r37.2.2, (0 : Int))
     )
    )
set_option maxHeartbeats 1000000 in
theorem c375 [LO]  {a0 : ByteArray} {x : Int × Int × Int × Int} (H : f375 a0 = some x) : ICalls E 375 [(.string a0)] AHeap.none fun v _ => v = (.tuple ⟨[(.agg ⟨[(.int .i64 x.1), (.int .i64 x.2.1), (.int .i64 x.2.2.1)]⟩), (.int .i64 x.2.2.2)]⟩) := by
  refine icalls_fn (pfnw ?_); unfold f375 at H;(conv=>whnf);refine pw_so ?_;refine po_all ?_;(conv=>whnf);refine pw_so ?_;refine po_all ?_;(conv=>whnf);refine pw_so ?_;refine po_all ?_;(conv=>whnf);obtain ⟨y1, h2, H⟩ := obnd_some H;refine (c386 h2).go ?_;(conv=>whnf);refine pw_seq ?_;refine pw_so ?_;refine po_all ?_;(conv=>whnf);refine pw_cond ?_;(conv=>whnf);refine pbr_oite H (fun g3 H => ?_) (fun g3 H => ?_)
  · (conv=>whnf);refine pw_so ?_;refine po_all ?_;(conv=>whnf);refine pw_ret ?_;(conv=>whnf);cases H; rfl
  · (conv=>whnf);refine pw_skip ?_;(conv=>whnf);refine pw_so ?_;refine po_all ?_;(conv=>whnf);obtain ⟨r4, h5, h6, h7⟩ := obndS_some H;refine pw_joinS (ρ := Int × Int × Int) (fun e => ⟨[(2, (.pointer (some ⟨0, 0, none⟩))), (4, (.pointer (some ⟨1, 0, none⟩))), (6, (.pointer (some ⟨2, 0, none⟩)))], ⟨3, [(2, .rw [(.int .i64 e.1), (.int .i64 e.2.1), (.int .i64 e.2.2)]), (1, .rw [(.int .i64 0), (.int .i64 0), (.int .i64 0)]), (0, .rw [(.int .i64 0), (.int .i64 0), (.int .i64 0)])], false⟩⟩) r4 ?_ ?_
    · refine pw_so ?_;refine po_all ?_;(conv=>whnf);refine pw_block ?_;refine pw_unroll 4 ?_;(conv=>whnf);refine pw_seq ?_;refine pw_so ?_;refine po_all ?_;(conv=>whnf);refine pw_cond ?_;(conv=>whnf);refine pw_skip ?_;(conv=>whnf);refine pw_seq ?_;refine pw_block ?_;refine pw_so ?_;refine po_all ?_;(conv=>whnf);refine nth_o (l := y1) h5 (fun x8 _ h5 => ?_);(conv=>whnf);obtain ⟨y9, h10, h5⟩ := obnd_some h5;refine (c387 h10).go ?_;(conv=>whnf);refine pw_seq ?_;obtain ⟨r11, h12, h5⟩ := obnd_some h5;refine pw_join (ρ := Bool) (fun e => ⟨[(2, (.pointer (some ⟨0, 0, none⟩))), (4, (.pointer (some ⟨1, 0, none⟩))), (5, (VS 1 (y1.map eS))), (6, (.pointer (some ⟨2, 0, none⟩))), (7, (.int .i64 0)), (8, (.int .i64 y9.1)), (44, (.bool e))], ⟨3, [(2, .rw [(.int .i64 0), (.int .i64 0), (.int .i64 0)]), (1, .rw [(.int .i64 0), (.int .i64 0), (.int .i64 0)]), (0, .rw [(.int .i64 0), (.int .i64 0), (.int .i64 0)])], false⟩⟩) r11 ?_ ?_
      · refine pw_ops ?_;refine po_ops 6 ?_;(conv=>whnf);refine pbr_oite h12 (fun g15 h12 => ?_) (fun g15 h12 => ?_)
        · (conv=>whnf);refine pbr_t g15 ?_;(conv=>whnf);refine pbr_t g15 ?_;(conv=>whnf);refine po_ops 7 ?_;(conv=>whnf);refine pbr_t g15 ?_;(conv=>whnf);refine po_all ?_;(conv=>whnf);refine pbr_t g15 ?_;(conv=>whnf);cases h12;exact ⟨(.cons rfl (.cons rfl (.cons rfl (.cons rfl (.cons rfl (.cons rfl (.cons rfl .nil))))))), rfl⟩
        · (conv=>whnf);refine pbr_f g15 ?_;(conv=>whnf);refine pbr_f g15 ?_;(conv=>whnf);refine po_ops 7 ?_;(conv=>whnf);refine nth_o (l := y1) h12 (fun x16 _ h12 => ?_);(conv=>whnf);refine get_o h12 (fun x17 _ h12 => ?_);(conv=>whnf);refine pbr_f g15 ?_;(conv=>whnf);refine po_all ?_;(conv=>whnf);refine pbr_f g15 ?_;(conv=>whnf);cases h12;exact ⟨(.cons rfl (.cons rfl (.cons rfl (.cons rfl (.cons rfl (.cons rfl (.cons rfl .nil))))))), rfl⟩
      · refine pw_cond ?_;(conv=>whnf);refine pbr_oite h5 (fun g18 h5 => ?_) (fun g18 h5 => ?_)
        · (conv=>whnf);refine pw_so ?_;refine po_all ?_;(conv=>whnf);refine pw_ret ?_;(conv=>whnf);cases h5;obtain rfl := h7 _ rfl; rfl
        · (conv=>whnf);refine pw_skip ?_;(conv=>whnf);refine pw_ops ?_;refine po_all ?_;(conv=>whnf);refine pw_ops ?_;refine po_all ?_;(conv=>whnf);refine ⟨_, .refl, Nat.le_of_ble_eq_true rfl, ?_⟩;(conv=>whnf);refine pw_seq ?_;refine pw_so ?_;refine po_all ?_;(conv=>whnf);refine pw_cond ?_;(conv=>whnf);refine pw_skip ?_;(conv=>whnf);refine pw_seq ?_;refine pw_block ?_;refine pw_so ?_;refine po_all ?_;(conv=>whnf);refine nth_o (l := y1) h5 (fun x19 _ h5 => ?_);(conv=>whnf);obtain ⟨y20, h21, h5⟩ := obnd_some h5;refine (c387 h21).go ?_;(conv=>whnf);refine pw_seq ?_;obtain ⟨r22, h23, h5⟩ := obnd_some h5;refine pw_join (ρ := Bool) (fun e => ⟨[(2, (.pointer (some ⟨0, 0, none⟩))), (4, (.pointer (some ⟨1, 0, none⟩))), (5, (VS 1 (y1.map eS))), (6, (.pointer (some ⟨2, 0, none⟩))), (7, (.int .i64 1)), (8, (.int .i64 y20.1)), (44, (.bool e))], ⟨3, [(2, .rw [(.int .i64 y9.1), (.int .i64 0), (.int .i64 0)]), (1, .rw [(.int .i64 0), (.int .i64 0), (.int .i64 0)]), (0, .rw [(.int .i64 0), (.int .i64 0), (.int .i64 0)])], false⟩⟩) r22 ?_ ?_
          · refine pw_ops ?_;refine po_ops 6 ?_;(conv=>whnf);refine pbr_oite h23 (fun g26 h23 => ?_) (fun g26 h23 => ?_)
            · (conv=>whnf);refine pbr_t g26 ?_;(conv=>whnf);refine pbr_t g26 ?_;(conv=>whnf);refine po_ops 7 ?_;(conv=>whnf);refine pbr_t g26 ?_;(conv=>whnf);refine po_all ?_;(conv=>whnf);refine pbr_t g26 ?_;(conv=>whnf);cases h23;exact ⟨(.cons rfl (.cons rfl (.cons rfl (.cons rfl (.cons rfl (.cons rfl (.cons rfl .nil))))))), rfl⟩
            · (conv=>whnf);refine pbr_f g26 ?_;(conv=>whnf);refine pbr_f g26 ?_;(conv=>whnf);refine po_ops 7 ?_;(conv=>whnf);refine pbr_f g26 ?_;(conv=>whnf);refine po_all ?_;(conv=>whnf);refine pbr_f g26 ?_;(conv=>whnf);cases h23;exact ⟨(.cons rfl (.cons rfl (.cons rfl (.cons rfl (.cons rfl (.cons rfl (.cons rfl .nil))))))), rfl⟩
          · refine pw_cond ?_;(conv=>whnf);refine pbr_oite h5 (fun g27 h5 => ?_) (fun g27 h5 => ?_)
            · (conv=>whnf);refine pw_so ?_;refine po_all ?_;(conv=>whnf);refine pw_ret ?_;(conv=>whnf);cases h5;obtain rfl := h7 _ rfl; rfl
            · (conv=>whnf);refine pw_skip ?_;(conv=>whnf);refine pw_ops ?_;refine po_all ?_;(conv=>whnf);refine pw_ops ?_;refine po_all ?_;(conv=>whnf);refine ⟨_, .refl, Nat.le_of_ble_eq_true rfl, ?_⟩;(conv=>whnf);refine pw_seq ?_;refine pw_so ?_;refine po_all ?_;(conv=>whnf);refine pw_cond ?_;(conv=>whnf);refine pw_skip ?_;(conv=>whnf);refine pw_seq ?_;refine pw_block ?_;refine pw_so ?_;refine po_all ?_;(conv=>whnf);refine nth_o (l := y1) h5 (fun x28 _ h5 => ?_);(conv=>whnf);obtain ⟨y29, h30, h5⟩ := obnd_some h5;refine (c387 h30).go ?_;(conv=>whnf);refine pw_seq ?_;obtain ⟨r31, h32, h5⟩ := obnd_some h5;refine pw_join (ρ := Bool) (fun e => ⟨[(2, (.pointer (some ⟨0, 0, none⟩))), (4, (.pointer (some ⟨1, 0, none⟩))), (5, (VS 1 (y1.map eS))), (6, (.pointer (some ⟨2, 0, none⟩))), (7, (.int .i64 2)), (8, (.int .i64 y29.1)), (44, (.bool e))], ⟨3, [(2, .rw [(.int .i64 y9.1), (.int .i64 y20.1), (.int .i64 0)]), (1, .rw [(.int .i64 0), (.int .i64 0), (.int .i64 0)]), (0, .rw [(.int .i64 0), (.int .i64 0), (.int .i64 0)])], false⟩⟩) r31 ?_ ?_
              · refine pw_ops ?_;refine po_ops 6 ?_;(conv=>whnf);refine pbr_oite h32 (fun g35 h32 => ?_) (fun g35 h32 => ?_)
                · (conv=>whnf);refine pbr_t g35 ?_;(conv=>whnf);refine pbr_t g35 ?_;(conv=>whnf);refine po_ops 7 ?_;(conv=>whnf);refine pbr_t g35 ?_;(conv=>whnf);refine po_all ?_;(conv=>whnf);refine pbr_t g35 ?_;(conv=>whnf);cases h32;exact ⟨(.cons rfl (.cons rfl (.cons rfl (.cons rfl (.cons rfl (.cons rfl (.cons rfl .nil))))))), rfl⟩
                · (conv=>whnf);refine pbr_f g35 ?_;(conv=>whnf);refine pbr_f g35 ?_;(conv=>whnf);refine po_ops 7 ?_;(conv=>whnf);refine pbr_f g35 ?_;(conv=>whnf);refine po_all ?_;(conv=>whnf);refine pbr_f g35 ?_;(conv=>whnf);cases h32;exact ⟨(.cons rfl (.cons rfl (.cons rfl (.cons rfl (.cons rfl (.cons rfl (.cons rfl .nil))))))), rfl⟩
              · refine pw_cond ?_;(conv=>whnf);refine pbr_oite h5 (fun g36 h5 => ?_) (fun g36 h5 => ?_)
                · (conv=>whnf);refine pw_so ?_;refine po_all ?_;(conv=>whnf);refine pw_ret ?_;(conv=>whnf);cases h5;obtain rfl := h7 _ rfl; rfl
                · (conv=>whnf);refine pw_skip ?_;(conv=>whnf);refine pw_ops ?_;refine po_all ?_;(conv=>whnf);refine pw_ops ?_;refine po_all ?_;(conv=>whnf);refine ⟨_, .refl, Nat.le_of_ble_eq_true rfl, ?_⟩;(conv=>whnf);refine pw_seq ?_;refine pw_so ?_;refine po_all ?_;(conv=>whnf);refine pw_cond ?_;(conv=>whnf);refine pw_exit ?_;(conv=>whnf);cases h5;exact ⟨_, rfl, ⟨(.cons rfl (.cons rfl (.cons rfl .nil))), rfl⟩⟩
    · intro r37 hr; have H := h6 _ hr;refine pw_so ?_;refine po_all ?_;(conv=>whnf);refine pw_seq ?_;refine pw_so ?_;refine po_all ?_;(conv=>whnf);obtain ⟨y38, h39, H⟩ := obnd_some H;refine (c32 h39).go ?_;(conv=>whnf);refine pw_so ?_;refine po_all ?_;(conv=>whnf);refine pw_cond ?_;(conv=>whnf);refine pbr_oite H (fun g40 H => ?_) (fun g40 H => ?_)
      · (conv=>whnf);refine pw_so ?_;refine po_all ?_;(conv=>whnf);refine pw_ret ?_;(conv=>whnf);cases H; rfl
      · (conv=>whnf);refine pw_skip ?_;(conv=>whnf);refine pw_so ?_;refine po_all ?_;(conv=>whnf);refine pw_ret ?_;(conv=>whnf);cases H; rfl

/-- guidevane/guidevaneref09.FormatReading -/
noncomputable def f376  (a0 : Int) (a1 : Int) (a2 : Int) : Option ByteArray :=
  obnd (f388 a0) fun (y1 : ByteArray) =>
  ogrd ((Nat.ble (y1.size + (⟨#[32]⟩ : ByteArray).size) 9223372036854775807)) (
  obnd (f388 a1) fun (y4 : ByteArray) =>
  ogrd ((Nat.ble ((y1 ++ (⟨#[32]⟩ : ByteArray)).size + y4.size) 9223372036854775807)) (
  ogrd ((Nat.ble (((y1 ++ (⟨#[32]⟩ : ByteArray)) ++ y4).size + (⟨#[32]⟩ : ByteArray).size) 9223372036854775807)) (
  obnd (f388 a2) fun (y8 : ByteArray) =>
  ogrd ((Nat.ble ((((y1 ++ (⟨#[32]⟩ : ByteArray)) ++ y4) ++ (⟨#[32]⟩ : ByteArray)).size + y8.size) 9223372036854775807)) (
  some ((((y1 ++ (⟨#[32]⟩ : ByteArray)) ++ y4) ++ (⟨#[32]⟩ : ByteArray)) ++ y8)
  )
  )
  )
  )
set_option maxHeartbeats 1000000 in
theorem c376  {a0 : Int} {a1 : Int} {a2 : Int} {x : ByteArray} (H : f376 a0 a1 a2 = some x) : ICalls E 376 [(.agg ⟨[(.int .i64 a0), (.int .i64 a1), (.int .i64 a2)]⟩)] AHeap.none fun v _ => v = (.string x) := by
  refine icalls_fn (pfnw ?_); unfold f376 at H;(conv=>whnf);refine pw_so ?_;refine po_all ?_;(conv=>whnf);refine pw_sd ?_;(conv=>whnf);refine ⟨?_, trivial⟩;(conv=>whnf);obtain ⟨y1, h2, H⟩ := obnd_some H;refine (c388 h2).go ?_;(conv=>whnf);refine ⟨by repeat (first | exact trivial | refine And.intro rfl ?_), ?_⟩;(conv=>whnf);refine pbr_ogrd H (fun g3 H => ?_);(conv=>whnf);refine ⟨?_, trivial⟩;(conv=>whnf);obtain ⟨y4, h5, H⟩ := obnd_some H;refine (c388 h5).go ?_;(conv=>whnf);refine ⟨by repeat (first | exact trivial | refine And.intro rfl ?_), ?_⟩;(conv=>whnf);refine pbr_ogrd H (fun g6 H => ?_);(conv=>whnf)
  refine pbr_ogrd H (fun g7 H => ?_);(conv=>whnf);refine ⟨?_, trivial⟩;(conv=>whnf);obtain ⟨y8, h9, H⟩ := obnd_some H;refine (c388 h9).go ?_;(conv=>whnf);refine ⟨by repeat (first | exact trivial | refine And.intro rfl ?_), ?_⟩;(conv=>whnf);refine pbr_ogrd H (fun g10 H => ?_);(conv=>whnf);refine pw_ret ?_;(conv=>whnf);cases H; rfl

/-- guidevane/guidevanelaw09.DamReadings -/
noncomputable def f371 [LO]  (a0 : Int) (a1 : Int) (a2 : Int) (a3 : ByteArray) : Option Bool :=
  obnd (f10) fun (y1 : Bool) =>
  oite (!y1) (
   some false
    ) (
   oite ((ilt (60 : Int) (a3.size : Int))) (
    some true
     ) (
    obnd (f374 a0 a1 a2) fun (y5 : ByteArray) =>
    obnd (f373 a3) fun (y7 : Int × Int × Int × Int) =>
    obnd (f375 a3) fun (y9 : Int × Int × Int × Int) =>
    obnd (
     obnd (f376 a0 a1 a2) fun (y15 : ByteArray) =>
     obnd (
      oite ((!(y5.toList == y15.toList))) (
       some true
        ) (
       some (!(ieq y7.2.2.2 y9.2.2.2))
        )
       ) fun (r17 : Bool) =>
     oite r17 (
      some true
       ) (
      some (!((ieq y7.1 y9.1) && ((ieq y7.2.1 y9.2.1) && ((ieq y7.2.2.1 y9.2.2.1) && true))))
       )
      ) fun (r11 : Bool) =>
    oite r11 (
     some false
      ) (
     obnd (f32 a0 a1 a2) fun (y22 : Int) =>
     oite ((!(ieq y22 (0 : Int)))) (
      some true
       ) (
      obnd (f373 y5) fun (y25 : Int × Int × Int × Int) =>
      obnd (
       oite ((ieq y25.2.2.2 (0 : Int))) (
        some ((ieq y25.1 a0) && ((ieq y25.2.1 a1) && ((ieq y25.2.2.1 a2) && true)))
         ) (
        some false
         )
        ) fun (r27 : Bool) =>
      some r27
       )
      )
     )
    )
set_option maxHeartbeats 1000000 in
theorem c371 [LO]  {a0 : Int} {a1 : Int} {a2 : Int} {a3 : ByteArray} {x : Bool} (H : f371 a0 a1 a2 a3 = some x) : ICalls E 371 [(.agg ⟨[(.int .i64 a0), (.int .i64 a1), (.int .i64 a2)]⟩), (.string a3)] AHeap.none fun v _ => v = (.bool x) := by
  refine icalls_fn (pfnw ?_); unfold f371 at H;(conv=>whnf);refine pw_so ?_;refine po_all ?_;(conv=>whnf);refine pw_seq ?_;refine pw_so ?_;refine po_all ?_;(conv=>whnf);obtain ⟨y1, h2, H⟩ := obnd_some H;refine (c10 h2).go ?_;(conv=>whnf);refine pw_cond ?_;(conv=>whnf);refine pbr_oite H (fun g3 H => ?_) (fun g3 H => ?_)
  · (conv=>whnf);refine pw_so ?_;refine po_all ?_;(conv=>whnf);refine pw_ret ?_;(conv=>whnf);cases H; rfl
  · (conv=>whnf);refine pw_skip ?_;(conv=>whnf);refine pw_seq ?_;refine pw_so ?_;refine po_all ?_;(conv=>whnf);refine pw_cond ?_;(conv=>whnf);refine pbr_oite H (fun g4 H => ?_) (fun g4 H => ?_)
    · (conv=>whnf);refine pw_so ?_;refine po_all ?_;(conv=>whnf);refine pw_ret ?_;(conv=>whnf);cases H; rfl
    · (conv=>whnf);refine pw_skip ?_;(conv=>whnf);refine pw_so ?_;refine po_all ?_;(conv=>whnf);obtain ⟨y5, h6, H⟩ := obnd_some H;refine (c374 h6).go ?_;(conv=>whnf);refine pw_so ?_;refine po_all ?_;(conv=>whnf);obtain ⟨y7, h8, H⟩ := obnd_some H;refine (c373 h8).go ?_;(conv=>whnf);refine pw_so ?_;refine po_all ?_;(conv=>whnf);obtain ⟨y9, h10, H⟩ := obnd_some H;refine (c375 h10).go ?_;(conv=>whnf);refine pw_seq ?_;obtain ⟨r11, h12, H⟩ := obnd_some H;refine pw_join (ρ := Bool) (fun e => ⟨[(2, (.pointer (some ⟨0, 0, none⟩))), (5, (.string y5)), (42, (.bool e))], ⟨3, [(2, .rw [(.int .i64 y9.1), (.int .i64 y9.2.1), (.int .i64 y9.2.2.1)]), (1, .rw [(.int .i64 y7.1), (.int .i64 y7.2.1), (.int .i64 y7.2.2.1)]), (0, .rw [(.int .i64 a0), (.int .i64 a1), (.int .i64 a2)])], false⟩⟩) r11 ?_ ?_
      · refine pw_ops ?_;refine po_ops 5 ?_;(conv=>whnf);obtain ⟨y15, h16, h12⟩ := obnd_some h12;refine (c376 h16).go ?_;(conv=>whnf);obtain ⟨r17, h18, h12⟩ := obnd_some h12;refine po_seg (τ := Bool) 4 (fun e => ⟨[(2, (.pointer (some ⟨0, 0, none⟩))), (5, (.string y5)), (6, (.pointer (some ⟨1, 0, none⟩))), (8, (.pointer (some ⟨2, 0, none⟩))), (37, (.bool e))], ⟨3, [(2, .rw [(.int .i64 y9.1), (.int .i64 y9.2.1), (.int .i64 y9.2.2.1)]), (1, .rw [(.int .i64 y7.1), (.int .i64 y7.2.1), (.int .i64 y7.2.2.1)]), (0, .rw [(.int .i64 a0), (.int .i64 a1), (.int .i64 a2)])], false⟩⟩) r17 ?_ ?_
        · refine po_all ?_;(conv=>whnf);refine pbr_oite h18 (fun g19 h18 => ?_) (fun g19 h18 => ?_)
          · (conv=>whnf);refine pbr_t g19 ?_;(conv=>whnf);refine pbr_t g19 ?_;(conv=>whnf);refine pbr_t g19 ?_;(conv=>whnf);cases h18;exact ⟨(.cons rfl (.cons rfl (.cons rfl (.cons rfl (.cons rfl .nil))))), rfl⟩
          · (conv=>whnf);refine pbr_f g19 ?_;(conv=>whnf);refine pbr_f g19 ?_;(conv=>whnf);refine pbr_f g19 ?_;(conv=>whnf);cases h18;exact ⟨(.cons rfl (.cons rfl (.cons rfl (.cons rfl (.cons rfl .nil))))), rfl⟩
        · refine po_all ?_;(conv=>whnf);refine pbr_oite h12 (fun g20 h12 => ?_) (fun g20 h12 => ?_)
          · (conv=>whnf);refine pbr_t g20 ?_;(conv=>whnf);refine pbr_t g20 ?_;(conv=>whnf);refine pbr_t g20 ?_;(conv=>whnf);cases h12;exact ⟨(.cons rfl (.cons rfl (.cons rfl .nil))), rfl⟩
          · (conv=>whnf);refine pbr_f g20 ?_;(conv=>whnf);refine pbr_f g20 ?_;(conv=>whnf);refine pbr_f g20 ?_;(conv=>whnf);cases h12;exact ⟨(.cons rfl (.cons rfl (.cons rfl .nil))), rfl⟩
      · refine pw_cond ?_;(conv=>whnf);refine pbr_oite H (fun g21 H => ?_) (fun g21 H => ?_)
        · (conv=>whnf);refine pw_so ?_;refine po_all ?_;(conv=>whnf);refine pw_ret ?_;(conv=>whnf);cases H; rfl
        · (conv=>whnf);refine pw_skip ?_;(conv=>whnf);refine pw_seq ?_;refine pw_so ?_;refine po_all ?_;(conv=>whnf);obtain ⟨y22, h23, H⟩ := obnd_some H;refine (c32 h23).go ?_;(conv=>whnf);refine pw_cond ?_;(conv=>whnf);refine pbr_oite H (fun g24 H => ?_) (fun g24 H => ?_)
          · (conv=>whnf);refine pw_so ?_;refine po_all ?_;(conv=>whnf);refine pw_ret ?_;(conv=>whnf);cases H; rfl
          · (conv=>whnf);refine pw_skip ?_;(conv=>whnf);refine pw_so ?_;refine po_all ?_;(conv=>whnf);obtain ⟨y25, h26, H⟩ := obnd_some H;refine (c373 h26).go ?_;(conv=>whnf);refine pw_so ?_;refine po_ops 3 ?_;(conv=>whnf);obtain ⟨r27, h28, H⟩ := obnd_some H;refine po_seg (τ := Bool) 4 (fun e => ⟨[(57, (.bool e))], ⟨4, [(3, .rw [(.int .i64 y25.1), (.int .i64 y25.2.1), (.int .i64 y25.2.2.1)]), (2, .rw [(.int .i64 y9.1), (.int .i64 y9.2.1), (.int .i64 y9.2.2.1)]), (1, .rw [(.int .i64 y7.1), (.int .i64 y7.2.1), (.int .i64 y7.2.2.1)]), (0, .rw [(.int .i64 a0), (.int .i64 a1), (.int .i64 a2)])], false⟩⟩) r27 ?_ ?_
            · refine po_all ?_;(conv=>whnf);refine pbr_oite h28 (fun g29 h28 => ?_) (fun g29 h28 => ?_)
              · (conv=>whnf);refine pbr_t g29 ?_;(conv=>whnf);refine pbr_t g29 ?_;(conv=>whnf);refine pbr_t g29 ?_;(conv=>whnf);cases h28;exact ⟨(.cons rfl .nil), rfl⟩
              · (conv=>whnf);refine pbr_f g29 ?_;(conv=>whnf);refine pbr_f g29 ?_;(conv=>whnf);refine pbr_f g29 ?_;(conv=>whnf);cases h28;exact ⟨(.cons rfl .nil), rfl⟩
            · refine po_all ?_;(conv=>whnf);refine pw_ret ?_;(conv=>whnf);cases H; rfl

/-- guidevane/guidevanelaw09.fewRules -/
noncomputable def f35 [LO]  (a0 : List Int) (a1 : List Int) (_ : Int) (a3 : List (ByteArray × Int)) : Option Bool :=
  obnd (
   obnd (
    oite ((ilt (7 : Int) ((a0.map eI).length : Int))) (
     some true
      ) (
     some (ilt (7 : Int) ((a1.map eI).length : Int))
      )
     ) fun (r5 : Bool) =>
   oite r5 (
    some true
     ) (
    some (ilt (12 : Int) ((a3.map e_SI).length : Int))
     )
    ) fun (r1 : Bool) =>
  oite r1 (
   some false
    ) (
   obndS (
    oloop (τ := Int) (ρ := (Unit) ⊕ Bool) (fun e14 =>
     oite ((ilt e14 ((a3.map e_SI).length : Int))) (
      ogrd ((ile 0 e14)) (
      obnd (a3[e14.toNat]?) fun (x19 : ByteArray × Int) =>
      oite ((ilt (30 : Int) (x19.1.size : Int))) (
       some (.inr (.inr (false)))
        ) (
       some (.inl (IntKind.i64.wrap (e14 + (1 : Int))))
        )
      )
       ) (
      some (.inr (.inl ()))
       )
      ) (0 : Int)
     ) fun (_ : Unit) =>
   some true
    )
set_option maxHeartbeats 1000000 in
theorem c35 [LO]  {a0 : List Int} {a1 : List Int} {a2 : Int} {a3 : List (ByteArray × Int)} {x : Bool} (H : f35 a0 a1 a2 a3 = some x) : ICalls E 35 [(.agg ⟨[(VS 1 (a0.map eI)), (VS 1 (a1.map eI)), (.int .i64 a2), (VS 2 (a3.map e_SI))]⟩)] AHeap.none fun v _ => v = (.bool x) := by
  refine icalls_fn (pfnw ?_); unfold f35 at H;(conv=>whnf);refine pw_so ?_;refine po_all ?_;(conv=>whnf);refine pw_seq ?_;obtain ⟨r1, h2, H⟩ := obnd_some H;refine pw_join (ρ := Bool) (fun e => ⟨[(1, (.pointer (some ⟨0, 0, none⟩))), (19, (.bool e))], ⟨1, [(0, .rw [(VS 1 (a0.map eI)), (VS 1 (a1.map eI)), (.int .i64 a2), (VS 2 (a3.map e_SI))])], false⟩⟩) r1 ?_ ?_
  · refine pw_ops ?_;refine po_ops 5 ?_;(conv=>whnf);obtain ⟨r5, h6, h2⟩ := obnd_some h2;refine po_seg (τ := Bool) 5 (fun e => ⟨[(1, (.pointer (some ⟨0, 0, none⟩))), (13, (.bool e))], ⟨1, [(0, .rw [(VS 1 (a0.map eI)), (VS 1 (a1.map eI)), (.int .i64 a2), (VS 2 (a3.map e_SI))])], false⟩⟩) r5 ?_ ?_
    · refine po_all ?_;(conv=>whnf);refine pbr_oite h6 (fun g7 h6 => ?_) (fun g7 h6 => ?_)
      · (conv=>whnf);refine pbr_t g7 ?_;(conv=>whnf);refine pbr_t g7 ?_;(conv=>whnf);refine pbr_t g7 ?_;(conv=>whnf);refine pbr_t g7 ?_;(conv=>whnf);cases h6;exact ⟨(.cons rfl (.cons rfl .nil)), rfl⟩
      · (conv=>whnf);refine pbr_f g7 ?_;(conv=>whnf);refine pbr_f g7 ?_;(conv=>whnf);refine pbr_f g7 ?_;(conv=>whnf);refine pbr_f g7 ?_;(conv=>whnf);cases h6;exact ⟨(.cons rfl (.cons rfl .nil)), rfl⟩
    · refine po_all ?_;(conv=>whnf);refine pbr_oite h2 (fun g8 h2 => ?_) (fun g8 h2 => ?_)
      · (conv=>whnf);refine pbr_t g8 ?_;(conv=>whnf);refine pbr_t g8 ?_;(conv=>whnf);refine pbr_t g8 ?_;(conv=>whnf);refine pbr_t g8 ?_;(conv=>whnf);cases h2;exact ⟨(.cons rfl (.cons rfl .nil)), rfl⟩
      · (conv=>whnf);refine pbr_f g8 ?_;(conv=>whnf);refine pbr_f g8 ?_;(conv=>whnf);refine pbr_f g8 ?_;(conv=>whnf);refine pbr_f g8 ?_;(conv=>whnf);cases h2;exact ⟨(.cons rfl (.cons rfl .nil)), rfl⟩
  · refine pw_cond ?_;(conv=>whnf);refine pbr_oite H (fun g9 H => ?_) (fun g9 H => ?_)
    · (conv=>whnf);refine pw_so ?_;refine po_all ?_;(conv=>whnf);refine pw_ret ?_;(conv=>whnf);cases H; rfl
    · (conv=>whnf);refine pw_skip ?_;(conv=>whnf);obtain ⟨r10, h11, h12, h13⟩ := obndS_some H;refine pw_joinS (ρ := Unit) (fun e => ⟨[], ⟨1, [(0, .rw [(VS 1 (a0.map eI)), (VS 1 (a1.map eI)), (.int .i64 a2), (VS 2 (a3.map e_SI))])], false⟩⟩) r10 ?_ ?_
      · refine pw_so ?_;refine po_all ?_;(conv=>whnf);refine pw_block ?_;refine pw_loop (τ := Int) (fun e => ⟨[(1, (.pointer (some ⟨0, 0, none⟩))), (3, (.int .i64 e))], ⟨1, [(0, .rw [(VS 1 (a0.map eI)), (VS 1 (a1.map eI)), (.int .i64 a2), (VS 2 (a3.map e_SI))])], false⟩⟩) h11 ?_ (fun _ => Nat.le_of_ble_eq_true rfl) ?_
        · exact .sub' (Nat.le_of_ble_eq_true rfl) (.cons rfl (.cons rfl .nil))
        · intro e14 x15 h16;refine pw_seq ?_;refine pw_so ?_;refine po_all ?_;(conv=>whnf);refine pw_cond ?_;(conv=>whnf);refine pbr_oite h16 (fun g17 h16 => ?_) (fun g17 h16 => ?_)
          · (conv=>whnf);refine pw_skip ?_;(conv=>whnf);refine pw_seq ?_;refine pw_block ?_;refine pw_so ?_;refine po_all ?_;(conv=>whnf);refine pbr_ogrd h16 (fun g18 h16 => ?_);(conv=>whnf);refine nth_o (l := a3) h16 (fun x19 _ h16 => ?_);(conv=>whnf);refine pw_cond ?_;(conv=>whnf);refine pbr_oite h16 (fun g20 h16 => ?_) (fun g20 h16 => ?_)
            · (conv=>whnf);refine pw_so ?_;refine po_all ?_;(conv=>whnf);refine pw_ret ?_;(conv=>whnf);cases h16;refine ⟨_, rfl, ?_⟩; rintro rfl;(conv=>whnf);obtain rfl := h13 _ rfl; rfl
            · (conv=>whnf);refine pw_skip ?_;(conv=>whnf);refine pw_ops ?_;refine po_all ?_;(conv=>whnf);cases h16;refine ⟨_, rfl, ?_⟩;exact .sub' (Nat.le_of_ble_eq_true rfl) (.cons rfl (.cons rfl .nil))
          · (conv=>whnf);refine pw_exit ?_;(conv=>whnf);cases h16;refine ⟨_, rfl, ?_⟩; rintro rfl;(conv=>whnf);exact ⟨_, rfl, ⟨.nil, rfl⟩⟩
      · intro r23 hr; have H := h12 _ hr;refine pw_so ?_;refine po_all ?_;(conv=>whnf);refine pw_ret ?_;(conv=>whnf);cases H; rfl

/-- guidevane/guidevanebase.CopyInts -/
noncomputable def f38  (a0 : List Int) : Option ((List Int)) :=
  ogrd (fits 8 (([] : List Int).length + a0.length)) (
  some (([] : List Int) ++ a0)
  )
set_option maxHeartbeats 1000000 in
theorem c38  {a0 : List Int} {x : (List Int)} (H : f38 a0 = some x) : ICalls E 38 [(VS 1 (a0.map eI))] AHeap.none fun v _ => v = (VS 1 (x.map eI)) := by
  refine ICalls.frz ?_;refine icalls_fn (pfnw ?_); unfold f38 at H;(conv=>whnf);refine pw_so ?_;refine po_all ?_;(conv=>whnf);refine pw_so ?_;refine po_all ?_;(conv=>whnf);refine app_o (l := ([] : List Int)) (m := a0) (f := eI) H (by rfl) (by rfl) (by rfl) (fun H => ?_);(conv=>whnf);refine pw_ret ?_;(conv=>whnf);cases H; show ∃ D, Fz _ D 0 (VT 1 _ 0) _;exact ⟨fun _ => false, .vtc⟩

/-- guidevane/guidevaneref09.CopyRules -/
noncomputable def f37  (a0 : List Int) (a1 : List Int) (a2 : Int) (a3 : List (ByteArray × Int)) : Option ((List Int) × (List Int) × Int × (List (ByteArray × Int))) :=
  obnd (f38 a0) fun (y1 : (List Int)) =>
  obnd (f38 a1) fun (y3 : (List Int)) =>
  ogrd (fits 24 (([] : List (ByteArray × Int)).length + a3.length)) (
  some (y1, y3, a2, (([] : List (ByteArray × Int)) ++ a3))
  )
set_option maxHeartbeats 1000000 in
theorem c37  {a0 : List Int} {a1 : List Int} {a2 : Int} {a3 : List (ByteArray × Int)} {x : (List Int) × (List Int) × Int × (List (ByteArray × Int))} (H : f37 a0 a1 a2 a3 = some x) : ICalls E 37 [(.agg ⟨[(VS 1 (a0.map eI)), (VS 1 (a1.map eI)), (.int .i64 a2), (VS 2 (a3.map e_SI))]⟩)] AHeap.none fun v _ => v = (.agg ⟨[(VS 1 (x.1.map eI)), (VS 1 (x.2.1.map eI)), (.int .i64 x.2.2.1), (VS 2 (x.2.2.2.map e_SI))]⟩) := by
  refine ICalls.frz ?_;refine icalls_fn (pfnw ?_); unfold f37 at H;(conv=>whnf);refine pw_so ?_;refine po_all ?_;(conv=>whnf);refine pw_sd ?_;(conv=>whnf);refine ⟨?_, ?_⟩
  · (conv=>whnf);obtain ⟨y1, h2, H⟩ := obnd_some H;refine (c38 h2).go ?_;(conv=>whnf);refine ⟨by repeat (first | exact trivial | refine And.intro rfl ?_), ?_⟩;(conv=>whnf);refine ⟨?_, ?_⟩
    · (conv=>whnf);obtain ⟨y3, h4, H⟩ := obnd_some H;refine (c38 h4).go ?_;(conv=>whnf);refine ⟨by repeat (first | exact trivial | refine And.intro rfl ?_), ?_⟩;(conv=>whnf);refine ⟨?_, trivial⟩;(conv=>whnf);refine ⟨by repeat (first | exact trivial | refine And.intro rfl ?_), ?_⟩;(conv=>whnf);refine ⟨?_, trivial⟩;(conv=>whnf);refine app_o (l := ([] : List (ByteArray × Int))) (m := a3) (f := e_SI) H (by rfl) (by rfl) (by rfl) (fun H => ?_);(conv=>whnf);refine ⟨by repeat (first | exact trivial | refine And.intro rfl ?_), ?_⟩;(conv=>whnf);refine ⟨?_, trivial⟩;(conv=>whnf);refine ⟨by repeat (first | exact trivial | refine And.intro rfl ?_), ?_⟩
      (conv=>whnf);refine pw_ret ?_;(conv=>whnf);cases H; show ∃ D, Fz _ D 0 (.agg ⟨[(VS 1 _), (VS 1 _), (.int .i64 a2), (VT 2 _ 2)]⟩) _;exact ⟨fun _ => false, .aggl (.cons .cl (.cons .cl (.cons .cl (.cons .vtc (.nil)))))⟩
    · obtain ⟨y3, h4, H⟩ := obnd_some H;(conv=>whnf);refine ⟨?_, trivial⟩;(conv=>whnf);refine ⟨by repeat (first | exact trivial | refine And.intro rfl ?_), ?_⟩;(conv=>whnf);refine ⟨?_, trivial⟩;(conv=>whnf);refine (c38 h4).go ?_;(conv=>whnf);refine ⟨by repeat (first | exact trivial | refine And.intro rfl ?_), ?_⟩;(conv=>whnf);refine ⟨?_, trivial⟩;(conv=>whnf);refine app_o (l := ([] : List (ByteArray × Int))) (m := a3) (f := e_SI) H (by rfl) (by rfl) (by rfl) (fun H => ?_);(conv=>whnf);refine ⟨by repeat (first | exact trivial | refine And.intro rfl ?_), ?_⟩;(conv=>whnf);refine ⟨?_, trivial⟩;(conv=>whnf)
      refine ⟨by repeat (first | exact trivial | refine And.intro rfl ?_), ?_⟩;(conv=>whnf);refine pw_ret ?_;(conv=>whnf);cases H; show ∃ D, Fz _ D 0 (.agg ⟨[(VS 1 _), (VS 1 _), (.int .i64 a2), (VT 2 _ 2)]⟩) _;exact ⟨fun _ => false, .aggl (.cons .cl (.cons .cl (.cons .cl (.cons .vtc (.nil)))))⟩
  · obtain ⟨y1, h2, H⟩ := obnd_some H;obtain ⟨y3, h4, H⟩ := obnd_some H;(conv=>whnf);refine ⟨?_, trivial⟩;(conv=>whnf);refine ⟨by repeat (first | exact trivial | refine And.intro rfl ?_), ?_⟩;(conv=>whnf);refine ⟨?_, trivial⟩;(conv=>whnf);refine (c38 h2).go ?_;(conv=>whnf);refine ⟨by repeat (first | exact trivial | refine And.intro rfl ?_), ?_⟩;(conv=>whnf);refine ⟨?_, trivial⟩;(conv=>whnf);refine (c38 h4).go ?_;(conv=>whnf);refine ⟨by repeat (first | exact trivial | refine And.intro rfl ?_), ?_⟩;(conv=>whnf);refine ⟨?_, trivial⟩;(conv=>whnf);refine app_o (l := ([] : List (ByteArray × Int))) (m := a3) (f := e_SI) H (by rfl) (by rfl) (by rfl) (fun H => ?_)
    (conv=>whnf);refine ⟨by repeat (first | exact trivial | refine And.intro rfl ?_), ?_⟩;(conv=>whnf);refine ⟨?_, trivial⟩;(conv=>whnf);refine ⟨by repeat (first | exact trivial | refine And.intro rfl ?_), ?_⟩;(conv=>whnf);refine pw_ret ?_;(conv=>whnf);cases H; show ∃ D, Fz _ D 0 (.agg ⟨[(VS 1 _), (VS 1 _), (.int .i64 a2), (VT 2 _ 2)]⟩) _;exact ⟨fun _ => false, .aggl (.cons .cl (.cons .cl (.cons .cl (.cons .vtc (.nil)))))⟩

/-- guidevane/dam.threshold -/
noncomputable def f389  (a0 : List Int) (a1 : Int) : Option ByteArray :=
  oite ((ilt a1 ((a0.map eI).length : Int))) (
   ogrd ((ile 0 a1)) (
   obnd (a0[a1.toNat]?) fun (x3 : Int) =>
   obnd (f385 x3) fun (y4 : ByteArray) =>
   some y4
   )
    ) (
   obnd (f385 (0 : Int)) fun (y6 : ByteArray) =>
   some y6
    )
set_option maxHeartbeats 1000000 in
theorem c389  {a0 : List Int} {a1 : Int} {x : ByteArray} (H : f389 a0 a1 = some x) : ICalls E 389 [(VS 1 (a0.map eI)), (.int .i64 a1)] AHeap.none fun v _ => v = (.string x) := by
  refine icalls_fn (pfnw ?_); unfold f389 at H;(conv=>whnf);refine pw_so ?_;refine po_all ?_;(conv=>whnf);refine pw_seq ?_;refine pw_so ?_;refine po_all ?_;(conv=>whnf);refine pw_cond ?_;(conv=>whnf);refine pbr_oite H (fun g1 H => ?_) (fun g1 H => ?_)
  · (conv=>whnf);refine pw_so ?_;refine po_all ?_;(conv=>whnf);refine pbr_ogrd H (fun g2 H => ?_);(conv=>whnf);refine nth_o (l := a0) H (fun x3 _ H => ?_);(conv=>whnf);obtain ⟨y4, h5, H⟩ := obnd_some H;refine (c385 h5).go ?_;(conv=>whnf);refine pw_ret ?_;(conv=>whnf);cases H; rfl
  · (conv=>whnf);refine pw_skip ?_;(conv=>whnf);refine pw_so ?_;refine po_all ?_;(conv=>whnf);obtain ⟨y6, h7, H⟩ := obnd_some H;refine (c385 h7).go ?_;(conv=>whnf);refine pw_ret ?_;(conv=>whnf);cases H; rfl

/-- guidevane/dam.FormatRules -/
noncomputable def f377 [LO]  (a0 : List Int) (a1 : List Int) (a2 : Int) (a3 : List (ByteArray × Int)) : Option ByteArray :=
  obnd (f385 a2) fun (y1 : ByteArray) =>
  obnd (
   oloop (τ := (List ByteArray) × Int) (ρ := (List ByteArray)) (fun e7 =>
    oite ((ilt e7.2 (imax ((a0.map eI).length : Int) ((a1.map eI).length : Int)))) (
     obnd (f389 a0 e7.2) fun (y11 : ByteArray) =>
     ogrd ((Nat.ble (y11.size + (⟨#[32]⟩ : ByteArray).size) 9223372036854775807)) (
     obnd (f389 a1 e7.2) fun (y14 : ByteArray) =>
     ogrd ((Nat.ble ((y11 ++ (⟨#[32]⟩ : ByteArray)).size + y14.size) 9223372036854775807)) (
     ogrd (fits 16 (e7.1.length + ([((y11 ++ (⟨#[32]⟩ : ByteArray)) ++ y14)] : List ByteArray).length)) (
     some (.inl (((e7.1 ++ ([((y11 ++ (⟨#[32]⟩ : ByteArray)) ++ y14)] : List ByteArray)), (IntKind.i64.wrap (e7.2 + (1 : Int))))))
     )
     )
     )
      ) (
     some (.inr (e7.1))
      )
     ) ((([y1] : List ByteArray), (0 : Int)))
    ) fun (r3 : (List ByteArray)) =>
  obnd (
   oloop (τ := (List ByteArray) × Int) (ρ := (List ByteArray)) (fun e22 =>
    oite ((ilt e22.2 ((a3.map e_SI).length : Int))) (
     ogrd ((ile 0 e22.2)) (
     obnd (a3[e22.2.toNat]?) fun (x27 : ByteArray × Int) =>
     ogrd ((Nat.ble (x27.1.size + (⟨#[32]⟩ : ByteArray).size) 9223372036854775807)) (
     obnd (f385 x27.2) fun (y29 : ByteArray) =>
     ogrd ((Nat.ble ((x27.1 ++ (⟨#[32]⟩ : ByteArray)).size + y29.size) 9223372036854775807)) (
     ogrd (fits 16 (e22.1.length + ([((x27.1 ++ (⟨#[32]⟩ : ByteArray)) ++ y29)] : List ByteArray).length)) (
     some (.inl (((e22.1 ++ ([((x27.1 ++ (⟨#[32]⟩ : ByteArray)) ++ y29)] : List ByteArray)), (IntKind.i64.wrap (e22.2 + (1 : Int))))))
     )
     )
     )
     )
      ) (
     some (.inr (e22.1))
      )
     ) (r3, (0 : Int))
    ) fun (r18 : (List ByteArray)) =>
  obnd (f384 r18 (⟨#[59]⟩ : ByteArray)) fun (y33 : ByteArray) =>
  some y33
set_option maxHeartbeats 1000000 in
theorem c377 [LO]  {a0 : List Int} {a1 : List Int} {a2 : Int} {a3 : List (ByteArray × Int)} {x : ByteArray} (H : f377 a0 a1 a2 a3 = some x) : ICalls E 377 [(.agg ⟨[(VS 1 (a0.map eI)), (VS 1 (a1.map eI)), (.int .i64 a2), (VS 2 (a3.map e_SI))]⟩)] AHeap.none fun v _ => v = (.string x) := by
  refine icalls_fn (pfnw ?_); unfold f377 at H;(conv=>whnf);refine pw_so ?_;refine po_all ?_;(conv=>whnf);refine pw_so ?_;refine po_all ?_;(conv=>whnf);obtain ⟨y1, h2, H⟩ := obnd_some H;refine (c385 h2).go ?_;(conv=>whnf);obtain ⟨r3, h4, H⟩ := obnd_some H;refine pw_join (ρ := (List ByteArray)) (fun e => ⟨[(1, (.pointer (some ⟨0, 0, none⟩))), (3, (VT 1 (e.map eS) 1))], ⟨2, [(1, .tail (e.map eS).length 1), (0, .rw [(VS 1 (a0.map eI)), (VS 1 (a1.map eI)), (.int .i64 a2), (VS 2 (a3.map e_SI))])], false⟩⟩) r3 ?_ ?_
  · refine pw_so ?_;refine po_all ?_;(conv=>whnf);refine pw_block ?_;refine pw_loop (τ := (List ByteArray) × Int) (fun e => ⟨[(1, (.pointer (some ⟨0, 0, none⟩))), (3, (VT 1 (e.1.map eS) 1)), (17, (.int .i64 (imax ((a0.map eI).length : Int) ((a1.map eI).length : Int)))), (18, (.int .i64 e.2))], ⟨2, [(1, .tail (e.1.map eS).length 1), (0, .rw [(VS 1 (a0.map eI)), (VS 1 (a1.map eI)), (.int .i64 a2), (VS 2 (a3.map e_SI))])], false⟩⟩) h4 ?_ (fun _ => Nat.le_of_ble_eq_true rfl) ?_
    · exact .sub' (Nat.le_of_ble_eq_true rfl) (.cons rfl (.cons rfl (.cons rfl (.cons rfl .nil))))
    · intro e7 x8 h9;refine pw_so ?_;refine po_all ?_;(conv=>whnf);refine pw_seq ?_;refine pw_cond ?_;(conv=>whnf);refine pbr_oite h9 (fun g10 h9 => ?_) (fun g10 h9 => ?_)
      · (conv=>whnf);refine pw_skip ?_;(conv=>whnf);refine pw_seq ?_;refine pw_block ?_;refine pw_so ?_;refine po_all ?_;(conv=>whnf);refine pw_draw ?_;(conv=>whnf);refine ⟨?_, trivial⟩;(conv=>whnf);obtain ⟨y11, h12, h9⟩ := obnd_some h9;refine (c389 h12).go ?_;(conv=>whnf);refine ⟨by repeat (first | exact trivial | refine And.intro rfl ?_), ?_⟩;(conv=>whnf);refine pbr_ogrd h9 (fun g13 h9 => ?_);(conv=>whnf);refine ⟨?_, trivial⟩;(conv=>whnf);obtain ⟨y14, h15, h9⟩ := obnd_some h9;refine (c389 h15).go ?_;(conv=>whnf);refine ⟨by repeat (first | exact trivial | refine And.intro rfl ?_), ?_⟩;(conv=>whnf);refine pbr_ogrd h9 (fun g16 h9 => ?_)
        (conv=>whnf);refine ⟨?_, trivial⟩;(conv=>whnf);refine ⟨by repeat (first | exact trivial | refine And.intro rfl ?_), ?_⟩;(conv=>whnf);refine ⟨?_, trivial⟩;(conv=>whnf);refine app_o (l := e7.1) (m := ([((y11 ++ (⟨#[32]⟩ : ByteArray)) ++ y14)] : List ByteArray)) (f := eS) h9 (by rfl) (by rfl) (by rfl) (fun h9 => ?_);(conv=>whnf);refine ⟨by repeat (first | exact trivial | refine And.intro rfl ?_), ?_⟩;(conv=>whnf);refine ⟨?_, trivial⟩;(conv=>whnf);refine ⟨by repeat (first | exact trivial | refine And.intro rfl ?_), ?_⟩;(conv=>whnf);refine pw_ops ?_;refine po_all ?_;(conv=>whnf);cases h9;refine ⟨_, rfl, ?_⟩
        refine Recast.trunc (Nat.le_of_ble_eq_true rfl) ?_ ?_
        · repeat (first | exact .nil | refine .cons rfl (by first | exact OBnd.rwc (Nat.le_of_ble_eq_true rfl) rfl | exact OBnd.tail (Nat.le_of_ble_eq_true rfl) | trivial) ?_)
        · repeat (first | exact .nil | refine .cons rfl (by first | exact Bnd.ptr (Nat.le_of_ble_eq_true rfl) | exact Bnd.vt (Nat.le_of_ble_eq_true rfl) | exact Bnd.cl) ?_)
      · (conv=>whnf);refine pw_exit ?_;(conv=>whnf);cases h9;refine ⟨_, rfl, ?_⟩; rintro rfl;(conv=>whnf);exact ⟨(.cons rfl (.cons rfl .nil)), rfl⟩
  · obtain ⟨r18, h19, H⟩ := obnd_some H;refine pw_join (ρ := (List ByteArray)) (fun e => ⟨[(3, (VT 1 (e.map eS) 1))], ⟨2, [(1, .tail (e.map eS).length 1), (0, .rw [(VS 1 (a0.map eI)), (VS 1 (a1.map eI)), (.int .i64 a2), (VS 2 (a3.map e_SI))])], false⟩⟩) r18 ?_ ?_
    · refine pw_so ?_;refine po_all ?_;(conv=>whnf);refine pw_block ?_;refine pw_loop (τ := (List ByteArray) × Int) (fun e => ⟨[(3, (VT 1 (e.1.map eS) 1)), (36, (VS 2 (a3.map e_SI))), (37, (.int .i64 ((a3.map e_SI).length : Int))), (38, (.int .i64 e.2))], ⟨2, [(1, .tail (e.1.map eS).length 1), (0, .rw [(VS 1 (a0.map eI)), (VS 1 (a1.map eI)), (.int .i64 a2), (VS 2 (a3.map e_SI))])], false⟩⟩) h19 ?_ (fun _ => Nat.le_of_ble_eq_true rfl) ?_
      · exact .sub' (Nat.le_of_ble_eq_true rfl) (.cons rfl (.cons rfl (.cons rfl (.cons rfl .nil))))
      · intro e22 x23 h24;refine pw_so ?_;refine po_all ?_;(conv=>whnf);refine pw_seq ?_;refine pw_cond ?_;(conv=>whnf);refine pbr_oite h24 (fun g25 h24 => ?_) (fun g25 h24 => ?_)
        · (conv=>whnf);refine pw_skip ?_;(conv=>whnf);refine pw_seq ?_;refine pw_block ?_;refine pw_so ?_;refine po_all ?_;(conv=>whnf);refine pbr_ogrd h24 (fun g26 h24 => ?_);(conv=>whnf);refine nth_o (l := a3) h24 (fun x27 _ h24 => ?_);(conv=>whnf);refine pw_draw ?_;(conv=>whnf);refine pbr_ogrd h24 (fun g28 h24 => ?_);(conv=>whnf);refine ⟨?_, trivial⟩;(conv=>whnf);obtain ⟨y29, h30, h24⟩ := obnd_some h24;refine (c385 h30).go ?_;(conv=>whnf);refine ⟨by repeat (first | exact trivial | refine And.intro rfl ?_), ?_⟩;(conv=>whnf);refine pbr_ogrd h24 (fun g31 h24 => ?_);(conv=>whnf);refine ⟨?_, trivial⟩;(conv=>whnf)
          refine ⟨by repeat (first | exact trivial | refine And.intro rfl ?_), ?_⟩;(conv=>whnf);refine ⟨?_, trivial⟩;(conv=>whnf);refine app_o (l := e22.1) (m := ([((x27.1 ++ (⟨#[32]⟩ : ByteArray)) ++ y29)] : List ByteArray)) (f := eS) h24 (by rfl) (by rfl) (by rfl) (fun h24 => ?_);(conv=>whnf);refine ⟨by repeat (first | exact trivial | refine And.intro rfl ?_), ?_⟩;(conv=>whnf);refine ⟨?_, trivial⟩;(conv=>whnf);refine ⟨by repeat (first | exact trivial | refine And.intro rfl ?_), ?_⟩;(conv=>whnf);refine pw_ops ?_;refine po_all ?_;(conv=>whnf);cases h24;refine ⟨_, rfl, ?_⟩;refine Recast.trunc (Nat.le_of_ble_eq_true rfl) ?_ ?_
          · repeat (first | exact .nil | refine .cons rfl (by first | exact OBnd.rwc (Nat.le_of_ble_eq_true rfl) rfl | exact OBnd.tail (Nat.le_of_ble_eq_true rfl) | trivial) ?_)
          · repeat (first | exact .nil | refine .cons rfl (by first | exact Bnd.ptr (Nat.le_of_ble_eq_true rfl) | exact Bnd.vt (Nat.le_of_ble_eq_true rfl) | exact Bnd.cl) ?_)
        · (conv=>whnf);refine pw_exit ?_;(conv=>whnf);cases h24;refine ⟨_, rfl, ?_⟩; rintro rfl;(conv=>whnf);exact ⟨(.cons rfl .nil), rfl⟩
    · refine pw_so ?_;refine po_all ?_;(conv=>whnf);obtain ⟨y33, h34, H⟩ := obnd_some H;refine ICalls.goW (c384 h34) (.cons (.vt _ _ _) (.cons (.refl _) .nil)) ?_;(conv=>whnf);refine pw_ret ?_;(conv=>whnf);cases H; rfl

/-- guidevane/dam.isLetter -/
noncomputable def f111  (a0 : Int) : Option Bool :=
  obnd (f65 (IntKind.i64.wrap a0) (97 : Int) (122 : Int)) fun (y1 : Bool) =>
  obnd (
   oite y1 (
    some true
     ) (
    obnd (f65 (IntKind.i64.wrap a0) (65 : Int) (90 : Int)) fun (y6 : Bool) =>
    some y6
     )
    ) fun (r3 : Bool) =>
  some r3
set_option maxHeartbeats 1000000 in
theorem c111  {a0 : Int} {x : Bool} (H : f111 a0 = some x) : ICalls E 111 [(.int .u8 a0)] AHeap.none fun v _ => v = (.bool x) := by
  refine icalls_fn (pfnw ?_); unfold f111 at H;(conv=>whnf);refine pw_so ?_;refine po_all ?_;(conv=>whnf);refine pw_so ?_;refine po_ops 4 ?_;(conv=>whnf);obtain ⟨y1, h2, H⟩ := obnd_some H;refine (c65 h2).go ?_;(conv=>whnf);obtain ⟨r3, h4, H⟩ := obnd_some H;refine po_seg (τ := Bool) 4 (fun e => ⟨[(10, (.bool e))], ⟨0, [], false⟩⟩) r3 ?_ ?_
  · refine po_all ?_;(conv=>whnf);refine pbr_oite h4 (fun g5 h4 => ?_) (fun g5 h4 => ?_)
    · (conv=>whnf);refine pbr_t g5 ?_;(conv=>whnf);refine pbr_t g5 ?_;(conv=>whnf);refine pbr_t g5 ?_;(conv=>whnf);cases h4;exact ⟨(.cons rfl .nil), rfl⟩
    · (conv=>whnf);refine pbr_f g5 ?_;(conv=>whnf);refine pbr_f g5 ?_;(conv=>whnf);obtain ⟨y6, h7, h4⟩ := obnd_some h4;refine (c65 h7).go ?_;(conv=>whnf);refine pbr_f g5 ?_;(conv=>whnf);cases h4;exact ⟨(.cons rfl .nil), rfl⟩
  · refine po_all ?_;(conv=>whnf);refine pw_ret ?_;(conv=>whnf);cases H; rfl

/-- guidevane/dam.first -/
noncomputable def f63 [LO]  (a0 : List Int) : Option Int :=
  obndS (
   oloop (τ := Int) (ρ := (Unit) ⊕ Int) (fun e5 =>
    oite ((ilt e5 ((a0.map eI).length : Int))) (
     ogrd ((ile 0 e5)) (
     obnd (a0[e5.toNat]?) fun (x10 : Int) =>
     oite ((!(ieq x10 (0 : Int)))) (
      some (.inr (.inr (x10)))
       ) (
      some (.inl (IntKind.i64.wrap (e5 + (1 : Int))))
       )
     )
      ) (
     some (.inr (.inl ()))
      )
     ) (0 : Int)
    ) fun (_ : Unit) =>
  some (0 : Int)
set_option maxHeartbeats 1000000 in
theorem c63 [LO]  {a0 : List Int} {x : Int} (H : f63 a0 = some x) : ICalls E 63 [(VS 1 (a0.map eI))] AHeap.none fun v _ => v = (.int .i64 x) := by
  refine icalls_fn (pfnw ?_); unfold f63 at H;(conv=>whnf);refine pw_so ?_;refine po_all ?_;(conv=>whnf);obtain ⟨r1, h2, h3, h4⟩ := obndS_some H;refine pw_joinS (ρ := Unit) (fun e => ⟨[], ⟨0, [], false⟩⟩) r1 ?_ ?_
  · refine pw_so ?_;refine po_all ?_;(conv=>whnf);refine pw_block ?_;refine pw_loop (τ := Int) (fun e => ⟨[(5, (VS 1 (a0.map eI))), (6, (.int .i64 ((a0.map eI).length : Int))), (7, (.int .i64 e))], ⟨0, [], false⟩⟩) h2 ?_ (fun _ => Nat.le_of_ble_eq_true rfl) ?_
    · exact .sub' (Nat.le_of_ble_eq_true rfl) (.cons rfl (.cons rfl (.cons rfl .nil)))
    · intro e5 x6 h7;refine pw_so ?_;refine po_all ?_;(conv=>whnf);refine pw_seq ?_;refine pw_cond ?_;(conv=>whnf);refine pbr_oite h7 (fun g8 h7 => ?_) (fun g8 h7 => ?_)
      · (conv=>whnf);refine pw_skip ?_;(conv=>whnf);refine pw_seq ?_;refine pw_block ?_;refine pw_so ?_;refine po_all ?_;(conv=>whnf);refine pbr_ogrd h7 (fun g9 h7 => ?_);(conv=>whnf);refine nth_o (l := a0) h7 (fun x10 _ h7 => ?_);(conv=>whnf);refine pw_so ?_;refine po_all ?_;(conv=>whnf);refine pw_cond ?_;(conv=>whnf);refine pbr_oite h7 (fun g11 h7 => ?_) (fun g11 h7 => ?_)
        · (conv=>whnf);refine pw_so ?_;refine po_all ?_;(conv=>whnf);refine pw_ret ?_;(conv=>whnf);cases h7;refine ⟨_, rfl, ?_⟩; rintro rfl;(conv=>whnf);obtain rfl := h4 _ rfl; rfl
        · (conv=>whnf);refine pw_skip ?_;(conv=>whnf);refine pw_ops ?_;refine po_all ?_;(conv=>whnf);cases h7;refine ⟨_, rfl, ?_⟩;exact .sub' (Nat.le_of_ble_eq_true rfl) (.cons rfl (.cons rfl (.cons rfl .nil)))
      · (conv=>whnf);refine pw_exit ?_;(conv=>whnf);cases h7;refine ⟨_, rfl, ?_⟩; rintro rfl;(conv=>whnf);exact ⟨_, rfl, ⟨.nil, rfl⟩⟩
  · intro r14 hr; have H := h3 _ hr;refine pw_so ?_;refine po_all ?_;(conv=>whnf);refine pw_ret ?_;(conv=>whnf);cases H; rfl

/-- guidevane/dam.CheckRules$1 -/
noncomputable def f85  (a0 : Int) : Option Bool :=
  obnd (f65 a0 (1 : Int) (1000000 : Int)) fun (y1 : Bool) =>
  some y1
set_option maxHeartbeats 1000000 in
theorem c85  {a0 : Int} {x : Bool} (H : f85 a0 = some x) : ICalls E 85 [(.int .i64 a0)] AHeap.none fun v _ => v = (.bool x) := by
  refine icalls_fn (pfnw ?_); unfold f85 at H;(conv=>whnf);refine pw_so ?_;refine po_all ?_;(conv=>whnf);refine pw_so ?_;refine po_all ?_;(conv=>whnf);obtain ⟨y1, h2, H⟩ := obnd_some H;refine (c65 h2).go ?_;(conv=>whnf);refine pw_ret ?_;(conv=>whnf);cases H; rfl

/-- slices.IndexFunc[[]guidevane/api.DamPerson,guidevane/api.DamPerson] -/
noncomputable def f110 [LO] (p0 : ByteArray → Int → Option Bool) (a0 : List (ByteArray × Int)) : Option Int :=
  obndS (
   oloop (τ := Int) (ρ := (Unit) ⊕ Int) (fun e5 =>
    oite ((ilt e5 ((a0.map e_SI).length : Int))) (
     ogrd ((ile 0 e5)) (
     obnd (a0[e5.toNat]?) fun (x10 : ByteArray × Int) =>
     obnd (p0 x10.1 x10.2) fun (y11 : Bool) =>
     oite y11 (
      some (.inr (.inr (e5)))
       ) (
      some (.inl (IntKind.i64.wrap (e5 + (1 : Int))))
       )
     )
      ) (
     some (.inr (.inl ()))
      )
     ) (0 : Int)
    ) fun (_ : Unit) =>
  some (-1 : Int)
set_option maxHeartbeats 1000000 in
theorem c110 [LO] {p0 : ByteArray → Int → Option Bool} {a0 : List (ByteArray × Int)} {g0 : Value} [Cl g0] (hp0 : ∀ y0 y1 y, p0 y0 y1 = some y → ICallV E g0 [(.agg ⟨[(.string y0), (.int .i64 y1)]⟩)] AHeap.none fun v _ => v = (.bool y)) {x : Int} (H : f110 p0 a0 = some x) : ICalls E 110 [(VS 2 (a0.map e_SI)), g0] AHeap.none fun v _ => v = (.int .i64 x) := by
  refine icalls_fn (pfnw ?_); unfold f110 at H;(conv=>whnf);refine pw_so ?_;refine po_all ?_;(conv=>whnf);obtain ⟨r1, h2, h3, h4⟩ := obndS_some H;refine pw_joinS (ρ := Unit) (fun e => ⟨[], ⟨0, [], false⟩⟩) r1 ?_ ?_
  · refine pw_so ?_;refine po_all ?_;(conv=>whnf);refine pw_block ?_;refine pw_loop (τ := Int) (fun e => ⟨[(0, (VS 2 (a0.map e_SI))), (1, g0), (7, (.int .i64 ((a0.map e_SI).length : Int))), (8, (.int .i64 e))], ⟨0, [], false⟩⟩) h2 ?_ (fun _ => Nat.le_of_ble_eq_true rfl) ?_
    · exact .sub' (Nat.le_of_ble_eq_true rfl) (.cons rfl (.cons rfl (.cons rfl (.cons rfl .nil))))
    · intro e5 x6 h7;refine pw_so ?_;refine po_all ?_;(conv=>whnf);refine pw_seq ?_;refine pw_cond ?_;(conv=>whnf);refine pbr_oite h7 (fun g8 h7 => ?_) (fun g8 h7 => ?_)
      · (conv=>whnf);refine pw_skip ?_;(conv=>whnf);refine pw_seq ?_;refine pw_block ?_;refine pw_so ?_;refine po_all ?_;(conv=>whnf);refine pw_so ?_;refine po_all ?_;(conv=>whnf);refine pbr_ogrd h7 (fun g9 h7 => ?_);(conv=>whnf);refine nth_o (l := a0) h7 (fun x10 _ h7 => ?_);(conv=>whnf);obtain ⟨y11, h12, h7⟩ := obnd_some h7;refine ICallV.go (hp0 _ _ _ h12) ?_;(conv=>whnf);refine pw_cond ?_;(conv=>whnf);refine pbr_oite h7 (fun g13 h7 => ?_) (fun g13 h7 => ?_)
        · (conv=>whnf);refine pw_so ?_;refine po_all ?_;(conv=>whnf);refine pw_ret ?_;(conv=>whnf);cases h7;refine ⟨_, rfl, ?_⟩; rintro rfl;(conv=>whnf);obtain rfl := h4 _ rfl; rfl
        · (conv=>whnf);refine pw_skip ?_;(conv=>whnf);refine pw_ops ?_;refine po_all ?_;(conv=>whnf);cases h7;refine ⟨_, rfl, ?_⟩;exact .sub' (Nat.le_of_ble_eq_true rfl) (.cons rfl (.cons rfl (.cons rfl (.cons rfl .nil))))
      · (conv=>whnf);refine pw_exit ?_;(conv=>whnf);cases h7;refine ⟨_, rfl, ?_⟩; rintro rfl;(conv=>whnf);exact ⟨_, rfl, ⟨.nil, rfl⟩⟩
  · intro r16 hr; have H := h3 _ hr;refine pw_so ?_;refine po_all ?_;(conv=>whnf);refine pw_ret ?_;(conv=>whnf);cases H; rfl

/-- slices.ContainsFunc[[]guidevane/api.DamPerson,guidevane/api.DamPerson] -/
noncomputable def f86 [LO] (p0 : ByteArray → Int → Option Bool) (a0 : List (ByteArray × Int)) : Option Bool :=
  obnd (f110 p0 a0) fun (y1 : Int) =>
  some (ile (0 : Int) y1)
set_option maxHeartbeats 1000000 in
theorem c86 [LO] {p0 : ByteArray → Int → Option Bool} {a0 : List (ByteArray × Int)} {g0 : Value} [Cl g0] (hp0 : ∀ y0 y1 y, p0 y0 y1 = some y → ICallV E g0 [(.agg ⟨[(.string y0), (.int .i64 y1)]⟩)] AHeap.none fun v _ => v = (.bool y)) {x : Bool} (H : f86 p0 a0 = some x) : ICalls E 86 [(VS 2 (a0.map e_SI)), g0] AHeap.none fun v _ => v = (.bool x) := by
  refine icalls_fn (pfnw ?_); unfold f86 at H;(conv=>whnf);refine pw_so ?_;refine po_all ?_;(conv=>whnf);refine pw_so ?_;refine po_all ?_;(conv=>whnf);obtain ⟨y1, h2, H⟩ := obnd_some H;refine (c110 hp0 h2).go ?_;(conv=>whnf);refine pw_ret ?_;(conv=>whnf);cases H; rfl

/-- guidevane/dam.CheckRules$2 -/
noncomputable def f87  (a0 : ByteArray) (_ : Int) (a2 : ByteArray) (_ : Int) : Option Bool :=
  some (a0.toList == a2.toList)
set_option maxHeartbeats 1000000 in
theorem c87  {a0 : ByteArray} {a1 : Int} {a2 : ByteArray} {a3 : Int} {x : Bool} (H : f87 a0 a1 a2 a3 = some x) : ICallV E (.func (.func (E.id 87)) ⟨[]⟩ ⟨[(VP (.agg ⟨[(.string a2), (.int .i64 a3)]⟩) 0)]⟩) [(.agg ⟨[(.string a0), (.int .i64 a1)]⟩)] AHeap.none fun v _ => v = (.bool x) := by
  refine icallv_fn (pfnw ?_); unfold f87 at H;(conv=>whnf);refine pw_so ?_;refine po_all ?_;(conv=>whnf);refine pw_so ?_;refine po_all ?_;(conv=>whnf);refine pw_ret ?_;(conv=>whnf);cases H; rfl

/-- guidevane/dam.isName -/
noncomputable def f88 [LO]  (a0 : ByteArray) : Option Bool :=
  obndS (
   oloop (τ := Int) (ρ := (Unit) ⊕ Bool) (fun e5 =>
    oite ((ilt e5 ((a0.data.toList.map eY).length : Int))) (
     ogrd ((ile 0 e5)) (
     obnd (a0.data.toList[e5.toNat]?) fun (x10 : UInt8) =>
     obnd (
      obnd (f111 (x10.toNat : Int)) fun (y15 : Bool) =>
      oite (!y15) (
       obnd (
        oite ((ieq e5 (0 : Int))) (
         some true
          ) (
         oite ((!(ieq (x10.toNat : Int) (45 : Int)))) (
          obnd (f65 (IntKind.i64.wrap (x10.toNat : Int)) (48 : Int) (57 : Int)) fun (y22 : Bool) =>
          some (!y22)
           ) (
          some false
           )
          )
         ) fun (r18 : Bool) =>
       some r18
        ) (
       some false
        )
       ) fun (r11 : Bool) =>
     oite r11 (
      some (.inr (.inr (false)))
       ) (
      some (.inl (IntKind.i64.wrap (e5 + (1 : Int))))
       )
     )
      ) (
     some (.inr (.inl ()))
      )
     ) (0 : Int)
    ) fun (_ : Unit) =>
  obnd (f65 (a0.size : Int) (1 : Int) (12 : Int)) fun (y28 : Bool) =>
  some y28
set_option maxHeartbeats 1000000 in
theorem c88 [LO]  {a0 : ByteArray} {x : Bool} (H : f88 a0 = some x) : ICalls E 88 [(.string a0)] AHeap.none fun v _ => v = (.bool x) := by
  refine icalls_fn (pfnw ?_); unfold f88 at H;(conv=>whnf);refine pw_so ?_;refine po_all ?_;(conv=>whnf);obtain ⟨r1, h2, h3, h4⟩ := obndS_some H;refine pw_joinS (ρ := Unit) (fun e => ⟨[(0, (.string a0))], ⟨0, [], false⟩⟩) r1 ?_ ?_
  · refine pw_so ?_;refine po_all ?_;(conv=>whnf);refine pw_block ?_;refine pw_loop (τ := Int) (fun e => ⟨[(0, (.string a0)), (6, (VS 1 (a0.data.toList.map eY))), (7, (.int .i64 ((a0.data.toList.map eY).length : Int))), (8, (.int .i64 e))], ⟨0, [], false⟩⟩) h2 ?_ (fun _ => Nat.le_of_ble_eq_true rfl) ?_
    · exact .sub' (Nat.le_of_ble_eq_true rfl) (.cons rfl (.cons rfl (.cons rfl (.cons rfl .nil))))
    · intro e5 x6 h7;refine pw_so ?_;refine po_all ?_;(conv=>whnf);refine pw_seq ?_;refine pw_cond ?_;(conv=>whnf);refine pbr_oite h7 (fun g8 h7 => ?_) (fun g8 h7 => ?_)
      · (conv=>whnf);refine pw_skip ?_;(conv=>whnf);refine pw_seq ?_;refine pw_block ?_;refine pw_so ?_;refine po_all ?_;(conv=>whnf);refine pbr_ogrd h7 (fun g9 h7 => ?_);(conv=>whnf);refine nth_o (l := a0.data.toList) h7 (fun x10 _ h7 => ?_);(conv=>whnf);obtain ⟨r11, h12, h7⟩ := obnd_some h7;refine pw_join (ρ := Bool) (fun e => ⟨[(0, (.string a0)), (6, (VS 1 (a0.data.toList.map eY))), (7, (.int .i64 ((a0.data.toList.map eY).length : Int))), (8, (.int .i64 e5)), (29, (.bool e))], ⟨0, [], false⟩⟩) r11 ?_ ?_
        · refine pw_ops ?_;refine po_ops 7 ?_;(conv=>whnf);obtain ⟨y15, h16, h12⟩ := obnd_some h12;refine (c111 h16).go ?_;(conv=>whnf);refine pbr_oite h12 (fun g17 h12 => ?_) (fun g17 h12 => ?_)
          · (conv=>whnf);refine pbr_t g17 ?_;(conv=>whnf);refine pbr_t g17 ?_;(conv=>whnf);obtain ⟨r18, h19, h12⟩ := obnd_some h12;refine po_seg (τ := Bool) 9 (fun e => ⟨[(0, (.string a0)), (6, (VS 1 (a0.data.toList.map eY))), (7, (.int .i64 ((a0.data.toList.map eY).length : Int))), (8, (.int .i64 e5)), (16, (.bool (!y15))), (17, (.int .i64 e5)), (18, (.bool (ieq e5 (0 : Int)))), (19, (.bool (ieq e5 (0 : Int)))), (28, (.bool e))], ⟨0, [], false⟩⟩) r18 ?_ ?_
            · refine po_all ?_;(conv=>whnf);refine pbr_oite h19 (fun g20 h19 => ?_) (fun g20 h19 => ?_)
              · (conv=>whnf);refine pbr_t g20 ?_;(conv=>whnf);refine pbr_t g20 ?_;(conv=>whnf);refine pbr_t g20 ?_;(conv=>whnf);refine pbr_t g17 ?_;(conv=>whnf);refine pbr_t g20 ?_;(conv=>whnf);cases h19;exact ⟨(.cons rfl (.cons rfl (.cons rfl (.cons rfl (.cons rfl (.cons rfl (.cons rfl (.cons rfl (.cons rfl .nil))))))))), rfl⟩
              · (conv=>whnf);refine pbr_f g20 ?_;(conv=>whnf);refine pbr_f g20 ?_;(conv=>whnf);refine pbr_oite h19 (fun g21 h19 => ?_) (fun g21 h19 => ?_)
                · (conv=>whnf);refine pbr_t g21 ?_;(conv=>whnf);refine pbr_t g21 ?_;(conv=>whnf);obtain ⟨y22, h23, h19⟩ := obnd_some h19;refine (c65 h23).go ?_;(conv=>whnf);refine pbr_t g21 ?_;(conv=>whnf);refine pbr_f g20 ?_;(conv=>whnf);refine pbr_t g21 ?_;(conv=>whnf);refine pbr_t g17 ?_;(conv=>whnf);refine pbr_f g20 ?_;(conv=>whnf);cases h19;exact ⟨(.cons rfl (.cons rfl (.cons rfl (.cons rfl (.cons rfl (.cons rfl (.cons rfl (.cons rfl (.cons rfl .nil))))))))), rfl⟩
                · (conv=>whnf);refine pbr_f g21 ?_;(conv=>whnf);refine pbr_f g21 ?_;(conv=>whnf);refine pbr_f g21 ?_;(conv=>whnf);refine pbr_f g20 ?_;(conv=>whnf);refine pbr_f g21 ?_;(conv=>whnf);refine pbr_t g17 ?_;(conv=>whnf);refine pbr_f g20 ?_;(conv=>whnf);cases h19;exact ⟨(.cons rfl (.cons rfl (.cons rfl (.cons rfl (.cons rfl (.cons rfl (.cons rfl (.cons rfl (.cons rfl .nil))))))))), rfl⟩
            · refine po_all ?_;(conv=>whnf);refine pbr_t g17 ?_;(conv=>whnf);cases h12;exact ⟨(.cons rfl (.cons rfl (.cons rfl (.cons rfl (.cons rfl .nil))))), rfl⟩
          · (conv=>whnf);refine pbr_f g17 ?_;(conv=>whnf);refine pbr_f g17 ?_;(conv=>whnf);refine po_ops 9 ?_;(conv=>whnf);refine pbr_f g17 ?_;(conv=>whnf);refine po_all ?_;(conv=>whnf);refine pbr_f g17 ?_;(conv=>whnf);cases h12;exact ⟨(.cons rfl (.cons rfl (.cons rfl (.cons rfl (.cons rfl .nil))))), rfl⟩
        · refine pw_cond ?_;(conv=>whnf);refine pbr_oite h7 (fun g24 h7 => ?_) (fun g24 h7 => ?_)
          · (conv=>whnf);refine pw_so ?_;refine po_all ?_;(conv=>whnf);refine pw_ret ?_;(conv=>whnf);cases h7;refine ⟨_, rfl, ?_⟩; rintro rfl;(conv=>whnf);obtain rfl := h4 _ rfl; rfl
          · (conv=>whnf);refine pw_skip ?_;(conv=>whnf);refine pw_ops ?_;refine po_all ?_;(conv=>whnf);cases h7;refine ⟨_, rfl, ?_⟩;exact .sub' (Nat.le_of_ble_eq_true rfl) (.cons rfl (.cons rfl (.cons rfl (.cons rfl .nil))))
      · (conv=>whnf);refine pw_exit ?_;(conv=>whnf);cases h7;refine ⟨_, rfl, ?_⟩; rintro rfl;(conv=>whnf);exact ⟨_, rfl, ⟨(.cons rfl .nil), rfl⟩⟩
  · intro r27 hr; have H := h3 _ hr;refine pw_so ?_;refine po_all ?_;(conv=>whnf);obtain ⟨y28, h29, H⟩ := obnd_some H;refine (c65 h29).go ?_;(conv=>whnf);refine pw_ret ?_;(conv=>whnf);cases H; rfl

/-- guidevane/dam.CheckRules -/
noncomputable def f43 [LO]  (a0 : List Int) (a1 : List Int) (a2 : Int) (a3 : List (ByteArray × Int)) : Option (Int × Int) :=
  obnd (
   oite ((ilt (0 : Int) ((a0.map eI).length : Int))) (
    some (ieq ((a1.map eI).length : Int) ((a0.map eI).length : Int))
     ) (
    some false
     )
    ) fun (r1 : Bool) =>
  obnd (f64 r1 (10 : Int)) fun (y4 : Int) =>
  obnd (f64 ((ile ((a0.map eI).length : Int) (5 : Int))) (8 : Int)) fun (y6 : Int) =>
  obnd (f63 ([y4, y6] : List Int)) fun (y8 : Int) =>
  oite ((!(ieq y8 (0 : Int)))) (
   some ((0 : Int), y8)
    ) (
   obndS (
    oloop (τ := Int) (ρ := (Unit) ⊕ (Int × Int)) (fun e15 =>
     oite ((ilt e15 ((a0.map eI).length : Int))) (
      ogrd ((ile 0 e15)) (
      obnd (a0[e15.toNat]?) fun (x20 : Int) =>
      obnd (a1[e15.toNat]?) fun (x21 : Int) =>
      obnd (f85 x20) fun (y22 : Bool) =>
      obnd (
       oite y22 (
        obnd (f85 x21) fun (y27 : Bool) =>
        some y27
         ) (
        some false
         )
        ) fun (r24 : Bool) =>
      obnd (f64 r24 (2 : Int)) fun (y29 : Int) =>
      obnd (f64 (ile x21 x20) (3 : Int)) fun (y31 : Int) =>
      obnd (
       oite ((ieq e15 (0 : Int))) (
        some true
         ) (
        ogrd ((ile 0 (imax (0 : Int) (IntKind.i64.wrap (e15 - (1 : Int)))))) (
        obnd (a0[(imax (0 : Int) (IntKind.i64.wrap (e15 - (1 : Int)))).toNat]?) fun (x37 : Int) =>
        oite ((ilt x37 x20)) (
         obnd (a1[(imax (0 : Int) (IntKind.i64.wrap (e15 - (1 : Int)))).toNat]?) fun (x39 : Int) =>
         some (ile x39 x21)
          ) (
         some false
          )
        )
         )
        ) fun (r33 : Bool) =>
      obnd (f64 r33 (9 : Int)) fun (y40 : Int) =>
      obnd (f63 ([y29, y31, y40] : List Int)) fun (y42 : Int) =>
      oite ((!(ieq y42 (0 : Int)))) (
       some (.inr (.inr ((e15, y42))))
        ) (
       some (.inl (IntKind.i64.wrap (e15 + (1 : Int))))
        )
      )
       ) (
      some (.inr (.inl ()))
       )
      ) (0 : Int)
     ) fun (_ : Unit) =>
   obnd (f65 a2 (0 : Int) (1000000 : Int)) fun (y48 : Bool) =>
   obnd (f64 y48 (2 : Int)) fun (y50 : Int) =>
   obnd (f64 ((ile ((a3.map e_SI).length : Int) (10 : Int))) (8 : Int)) fun (y52 : Int) =>
   obnd (f63 ([y50, y52] : List Int)) fun (y54 : Int) =>
   oite ((!(ieq y54 (0 : Int)))) (
    some ((0 : Int), y54)
     ) (
    obndS (
     oloop (τ := Int) (ρ := (Unit) ⊕ (Int × Int)) (fun e61 =>
      oite ((ilt e61 ((a3.map e_SI).length : Int))) (
       ogrd ((ile 0 e61)) (
       obnd (a3[e61.toNat]?) fun (x66 : ByteArray × Int) =>
       obnd (oslH a3 e61) fun (m67 : List (ByteArray × Int)) =>
       obnd (f86 (fun (z0 : ByteArray) (z1 : Int) => f87 z0 z1 x66.1 x66.2) m67) fun (y70 : Bool) =>
       obnd (f88 x66.1) fun (y72 : Bool) =>
       obnd (f64 y72 (4 : Int)) fun (y74 : Int) =>
       obnd (f64 (!y70) (5 : Int)) fun (y76 : Int) =>
       obnd (f65 x66.2 (1 : Int) ((a0.map eI).length : Int)) fun (y78 : Bool) =>
       obnd (f64 y78 (2 : Int)) fun (y80 : Int) =>
       obnd (f63 ([y74, y76, y80] : List Int)) fun (y82 : Int) =>
       oite ((!(ieq y82 (0 : Int)))) (
        some (.inr (.inr ((e61, y82))))
         ) (
        some (.inl (IntKind.i64.wrap (e61 + (1 : Int))))
         )
       )
        ) (
       some (.inr (.inl ()))
        )
       ) (0 : Int)
      ) fun (_ : Unit) =>
    some ((0 : Int), (0 : Int))
     )
    )
set_option maxHeartbeats 1000000 in
theorem c43 [LO]  {a0 : List Int} {a1 : List Int} {a2 : Int} {a3 : List (ByteArray × Int)} {x : Int × Int} (H : f43 a0 a1 a2 a3 = some x) : ICalls E 43 [(.agg ⟨[(VS 1 (a0.map eI)), (VS 1 (a1.map eI)), (.int .i64 a2), (VS 2 (a3.map e_SI))]⟩)] AHeap.none fun v _ => v = (.tuple ⟨[(.int .i64 x.1), (.int .i64 x.2)]⟩) := by
  refine icalls_fn (pfnw ?_); unfold f43 at H;(conv=>whnf);refine pw_so ?_;refine po_all ?_;(conv=>whnf);refine pw_so ?_;refine po_all ?_;(conv=>whnf);refine pw_seq ?_;refine pw_so ?_;refine po_ops 3 ?_;(conv=>whnf);obtain ⟨r1, h2, H⟩ := obnd_some H;refine po_seg (τ := Bool) 6 (fun e => ⟨[(1, (.pointer (some ⟨0, 0, none⟩))), (4, (.int .i64 ((a0.map eI).length : Int))), (28, (.bool e))], ⟨1, [(0, .rw [(VS 1 (a0.map eI)), (VS 1 (a1.map eI)), (.int .i64 a2), (VS 2 (a3.map e_SI))])], false⟩⟩) r1 ?_ ?_
  · refine po_all ?_;(conv=>whnf);refine pbr_oite h2 (fun g3 h2 => ?_) (fun g3 h2 => ?_)
    · (conv=>whnf);refine pbr_t g3 ?_;(conv=>whnf);refine pbr_t g3 ?_;(conv=>whnf);refine pbr_t g3 ?_;(conv=>whnf);refine pbr_t g3 ?_;(conv=>whnf);refine pbr_t g3 ?_;(conv=>whnf);cases h2;exact ⟨(.cons rfl (.cons rfl (.cons rfl .nil))), rfl⟩
    · (conv=>whnf);refine pbr_f g3 ?_;(conv=>whnf);refine pbr_f g3 ?_;(conv=>whnf);refine pbr_f g3 ?_;(conv=>whnf);refine pbr_f g3 ?_;(conv=>whnf);refine pbr_f g3 ?_;(conv=>whnf);cases h2;exact ⟨(.cons rfl (.cons rfl (.cons rfl .nil))), rfl⟩
  · refine po_all ?_;(conv=>whnf);obtain ⟨y4, h5, H⟩ := obnd_some H;refine (c64 h5).go ?_;(conv=>whnf);obtain ⟨y6, h7, H⟩ := obnd_some H;refine (c64 h7).go ?_;(conv=>whnf);obtain ⟨y8, h9, H⟩ := obnd_some H;refine ICalls.goW (c63 h9) (.cons (.vt _ _ _) .nil) ?_;(conv=>whnf);refine pw_so ?_;refine po_all ?_;(conv=>whnf);refine pw_cond ?_;(conv=>whnf);refine pbr_oite H (fun g10 H => ?_) (fun g10 H => ?_)
    · (conv=>whnf);refine pw_so ?_;refine po_all ?_;(conv=>whnf);refine pw_ret ?_;(conv=>whnf);cases H; rfl
    · (conv=>whnf);refine pw_skip ?_;(conv=>whnf);refine pw_so ?_;refine po_all ?_;(conv=>whnf);obtain ⟨r11, h12, h13, h14⟩ := obndS_some H;refine pw_joinS (ρ := Unit) (fun e => ⟨[(1, (.pointer (some ⟨0, 0, none⟩))), (4, (.int .i64 ((a0.map eI).length : Int)))], ⟨2, [(1, .tail 2 1), (0, .rw [(VS 1 (a0.map eI)), (VS 1 (a1.map eI)), (.int .i64 a2), (VS 2 (a3.map e_SI))])], false⟩⟩) r11 ?_ ?_
      · refine pw_so ?_;refine po_all ?_;(conv=>whnf);refine pw_block ?_;refine pw_loop (τ := Int) (fun e => ⟨[(1, (.pointer (some ⟨0, 0, none⟩))), (4, (.int .i64 ((a0.map eI).length : Int))), (6, (.func (.func (E.id 85)) ⟨[]⟩ ⟨[]⟩)), (39, (VS 1 (a0.map eI))), (40, (.int .i64 ((a0.map eI).length : Int))), (41, (.int .i64 e))], ⟨2, [(1, .tail 2 1), (0, .rw [(VS 1 (a0.map eI)), (VS 1 (a1.map eI)), (.int .i64 a2), (VS 2 (a3.map e_SI))])], false⟩⟩) h12 ?_ (fun _ => Nat.le_of_ble_eq_true rfl) ?_
        · exact .sub' (Nat.le_of_ble_eq_true rfl) (.cons rfl (.cons rfl (.cons rfl (.cons rfl (.cons rfl (.cons rfl .nil))))))
        · intro e15 x16 h17;refine pw_so ?_;refine po_all ?_;(conv=>whnf);refine pw_seq ?_;refine pw_cond ?_;(conv=>whnf);refine pbr_oite h17 (fun g18 h17 => ?_) (fun g18 h17 => ?_)
          · (conv=>whnf);refine pw_skip ?_;(conv=>whnf);refine pw_seq ?_;refine pw_block ?_;refine pw_so ?_;refine po_all ?_;(conv=>whnf);refine pbr_ogrd h17 (fun g19 h17 => ?_);(conv=>whnf);refine nth_o (l := a0) h17 (fun x20 _ h17 => ?_);(conv=>whnf);refine pw_so ?_;refine po_all ?_;(conv=>whnf);refine pbr_t g19 ?_;(conv=>whnf);refine nth_o (l := a1) h17 (fun x21 _ h17 => ?_);(conv=>whnf);refine pw_so ?_;refine po_ops 4 ?_;(conv=>whnf);obtain ⟨y22, h23, h17⟩ := obnd_some h17;refine ICallV.go (c85 h23).asV ?_;(conv=>whnf);obtain ⟨r24, h25, h17⟩ := obnd_some h17;refine po_seg (τ := Bool) 4 (fun e => ⟨[(1, (.pointer (some ⟨0, 0, none⟩))), (4, (.int .i64 ((a0.map eI).length : Int))), (6, (.func (.func (E.id 85)) ⟨[]⟩ ⟨[]⟩)), (7, (.int .i64 e15)), (8, (.int .i64 x20)), (9, (.int .i64 x21)), (10, (.int .i64 (imax (0 : Int) (IntKind.i64.wrap (e15 - (1 : Int)))))), (39, (VS 1 (a0.map eI))), (40, (.int .i64 ((a0.map eI).length : Int))), (41, (.int .i64 e15)), (61, (.bool e))], ⟨2, [(1, .tail 2 1), (0, .rw [(VS 1 (a0.map eI)), (VS 1 (a1.map eI)), (.int .i64 a2), (VS 2 (a3.map e_SI))])], false⟩⟩) r24 ?_ ?_
            · refine po_all ?_;(conv=>whnf);refine pbr_oite h25 (fun g26 h25 => ?_) (fun g26 h25 => ?_)
              · (conv=>whnf);refine pbr_t g26 ?_;(conv=>whnf);refine pbr_t g26 ?_;(conv=>whnf);obtain ⟨y27, h28, h25⟩ := obnd_some h25;refine ICallV.go (c85 h28).asV ?_;(conv=>whnf);refine pbr_t g26 ?_;(conv=>whnf);cases h25;exact ⟨(.cons rfl (.cons rfl (.cons rfl (.cons rfl (.cons rfl (.cons rfl (.cons rfl (.cons rfl (.cons rfl (.cons rfl (.cons rfl .nil))))))))))), rfl⟩
              · (conv=>whnf);refine pbr_f g26 ?_;(conv=>whnf);refine pbr_f g26 ?_;(conv=>whnf);refine pbr_f g26 ?_;(conv=>whnf);cases h25;exact ⟨(.cons rfl (.cons rfl (.cons rfl (.cons rfl (.cons rfl (.cons rfl (.cons rfl (.cons rfl (.cons rfl (.cons rfl (.cons rfl .nil))))))))))), rfl⟩
            · refine po_ops 8 ?_;(conv=>whnf);obtain ⟨y29, h30, h17⟩ := obnd_some h17;refine (c64 h30).go ?_;(conv=>whnf);obtain ⟨y31, h32, h17⟩ := obnd_some h17;refine (c64 h32).go ?_;(conv=>whnf);obtain ⟨r33, h34, h17⟩ := obnd_some h17;refine po_seg (τ := Bool) 17 (fun e => ⟨[(1, (.pointer (some ⟨0, 0, none⟩))), (4, (.int .i64 ((a0.map eI).length : Int))), (6, (.func (.func (E.id 85)) ⟨[]⟩ ⟨[]⟩)), (7, (.int .i64 e15)), (39, (VS 1 (a0.map eI))), (40, (.int .i64 ((a0.map eI).length : Int))), (41, (.int .i64 e15)), (62, (.int .i64 y29)), (66, (.int .i64 y31)), (86, (.bool e))], ⟨2, [(1, .tail 2 1), (0, .rw [(VS 1 (a0.map eI)), (VS 1 (a1.map eI)), (.int .i64 a2), (VS 2 (a3.map e_SI))])], false⟩⟩) r33 ?_ ?_
              · refine po_all ?_;(conv=>whnf);refine pbr_oite h34 (fun g35 h34 => ?_) (fun g35 h34 => ?_)
                · (conv=>whnf);refine pbr_t g35 ?_;(conv=>whnf);refine pbr_t g35 ?_;(conv=>whnf);refine pbr_t g35 ?_;(conv=>whnf);refine pbr_t g35 ?_;(conv=>whnf);refine pbr_t g35 ?_;(conv=>whnf);refine pbr_t g35 ?_;(conv=>whnf);refine pbr_t g35 ?_;(conv=>whnf);refine pbr_t g35 ?_;(conv=>whnf);refine pbr_t g35 ?_;(conv=>whnf);cases h34;exact ⟨(.cons rfl (.cons rfl (.cons rfl (.cons rfl (.cons rfl (.cons rfl (.cons rfl (.cons rfl (.cons rfl (.cons rfl .nil)))))))))), rfl⟩
                · (conv=>whnf);refine pbr_f g35 ?_;(conv=>whnf);refine pbr_f g35 ?_;(conv=>whnf);refine pbr_f g35 ?_;(conv=>whnf);refine pbr_f g35 ?_;(conv=>whnf);refine pbr_ogrd h34 (fun g36 h34 => ?_);(conv=>whnf);refine nth_o (l := a0) h34 (fun x37 _ h34 => ?_);(conv=>whnf);refine pbr_f g35 ?_;(conv=>whnf);refine pbr_f g35 ?_;(conv=>whnf);refine pbr_f g35 ?_;(conv=>whnf);refine pbr_oite h34 (fun g38 h34 => ?_) (fun g38 h34 => ?_)
                  · (conv=>whnf);refine pbr_t g38 ?_;(conv=>whnf);refine pbr_t g38 ?_;(conv=>whnf);refine pbr_t g38 ?_;(conv=>whnf);refine pbr_t g38 ?_;(conv=>whnf);refine pbr_t g36 ?_;(conv=>whnf);refine nth_o (l := a1) h34 (fun x39 _ h34 => ?_);(conv=>whnf);refine pbr_t g38 ?_;(conv=>whnf);refine pbr_t g38 ?_;(conv=>whnf);refine pbr_f g35 ?_;(conv=>whnf);refine pbr_t g38 ?_;(conv=>whnf);refine pbr_f g35 ?_;(conv=>whnf);cases h34;exact ⟨(.cons rfl (.cons rfl (.cons rfl (.cons rfl (.cons rfl (.cons rfl (.cons rfl (.cons rfl (.cons rfl (.cons rfl .nil)))))))))), rfl⟩
                  · (conv=>whnf);refine pbr_f g38 ?_;(conv=>whnf);refine pbr_f g38 ?_;(conv=>whnf);refine pbr_f g38 ?_;(conv=>whnf);refine pbr_f g38 ?_;(conv=>whnf);refine pbr_f g38 ?_;(conv=>whnf);refine pbr_f g38 ?_;(conv=>whnf);refine pbr_f g35 ?_;(conv=>whnf);refine pbr_f g38 ?_;(conv=>whnf);refine pbr_f g35 ?_;(conv=>whnf);cases h34;exact ⟨(.cons rfl (.cons rfl (.cons rfl (.cons rfl (.cons rfl (.cons rfl (.cons rfl (.cons rfl (.cons rfl (.cons rfl .nil)))))))))), rfl⟩
              · refine po_all ?_;(conv=>whnf);obtain ⟨y40, h41, h17⟩ := obnd_some h17;refine (c64 h41).go ?_;(conv=>whnf);obtain ⟨y42, h43, h17⟩ := obnd_some h17;refine ICalls.goW (c63 h43) (.cons (.vt _ _ _) .nil) ?_;(conv=>whnf);refine pw_so ?_;refine po_all ?_;(conv=>whnf);refine pw_cond ?_;(conv=>whnf);refine pbr_oite h17 (fun g44 h17 => ?_) (fun g44 h17 => ?_)
                · (conv=>whnf);refine pw_so ?_;refine po_all ?_;(conv=>whnf);refine pw_ret ?_;(conv=>whnf);cases h17;refine ⟨_, rfl, ?_⟩; rintro rfl;(conv=>whnf);obtain rfl := h14 _ rfl; rfl
                · (conv=>whnf);refine pw_skip ?_;(conv=>whnf);refine pw_ops ?_;refine po_all ?_;(conv=>whnf);cases h17;refine ⟨_, rfl, ?_⟩;refine Recast.trunc (Nat.le_of_ble_eq_true rfl) ?_ ?_
                  · repeat (first | exact .nil | refine .cons rfl (by first | exact OBnd.rwc (Nat.le_of_ble_eq_true rfl) rfl | exact OBnd.tail (Nat.le_of_ble_eq_true rfl) | trivial) ?_)
                  · repeat (first | exact .nil | refine .cons rfl (by first | exact Bnd.ptr (Nat.le_of_ble_eq_true rfl) | exact Bnd.vt (Nat.le_of_ble_eq_true rfl) | exact Bnd.cl) ?_)
          · (conv=>whnf);refine pw_exit ?_;(conv=>whnf);cases h17;refine ⟨_, rfl, ?_⟩; rintro rfl;(conv=>whnf);exact ⟨_, rfl, ⟨(.cons rfl (.cons rfl .nil)), rfl⟩⟩
      · intro r47 hr; have H := h13 _ hr;refine pw_seq ?_;refine pw_sd ?_;(conv=>whnf);refine ⟨?_, trivial⟩;(conv=>whnf);obtain ⟨y48, h49, H⟩ := obnd_some H;refine (c65 h49).go ?_;(conv=>whnf);refine ⟨by repeat (first | exact trivial | refine And.intro rfl ?_), ?_⟩;(conv=>whnf);refine ⟨?_, trivial⟩;(conv=>whnf);obtain ⟨y50, h51, H⟩ := obnd_some H;refine (c64 h51).go ?_;(conv=>whnf);refine ⟨by repeat (first | exact trivial | refine And.intro rfl ?_), ?_⟩;(conv=>whnf);refine ⟨?_, trivial⟩;(conv=>whnf);obtain ⟨y52, h53, H⟩ := obnd_some H;refine (c64 h53).go ?_;(conv=>whnf);refine ⟨by repeat (first | exact trivial | refine And.intro rfl ?_), ?_⟩
        (conv=>whnf);refine ⟨?_, trivial⟩;(conv=>whnf);refine ⟨by repeat (first | exact trivial | refine And.intro rfl ?_), ?_⟩;(conv=>whnf);refine ⟨?_, trivial⟩;(conv=>whnf);obtain ⟨y54, h55, H⟩ := obnd_some H;refine ICalls.goW (c63 h55) (.cons (.vt _ _ _) .nil) ?_;(conv=>whnf);refine ⟨by repeat (first | exact trivial | refine And.intro rfl ?_), ?_⟩;(conv=>whnf);refine pw_so ?_;refine po_all ?_;(conv=>whnf);refine pw_cond ?_;(conv=>whnf);refine pbr_oite H (fun g56 H => ?_) (fun g56 H => ?_)
        · (conv=>whnf);refine pw_so ?_;refine po_all ?_;(conv=>whnf);refine pw_ret ?_;(conv=>whnf);cases H; rfl
        · (conv=>whnf);refine pw_skip ?_;(conv=>whnf);obtain ⟨r57, h58, h59, h60⟩ := obndS_some H;refine pw_joinS (ρ := Unit) (fun e => ⟨[], ⟨3, [(2, .tail 2 1), (1, .tail 2 1), (0, .rw [(VS 1 (a0.map eI)), (VS 1 (a1.map eI)), (.int .i64 a2), (VS 2 (a3.map e_SI))])], false⟩⟩) r57 ?_ ?_
          · refine pw_so ?_;refine po_all ?_;(conv=>whnf);refine pw_block ?_;refine pw_loop (τ := Int) (fun e => ⟨[(1, (.pointer (some ⟨0, 0, none⟩))), (4, (.int .i64 ((a0.map eI).length : Int))), (110, (VS 2 (a3.map e_SI))), (111, (.int .i64 ((a3.map e_SI).length : Int))), (112, (.int .i64 e))], ⟨3, [(2, .tail 2 1), (1, .tail 2 1), (0, .rw [(VS 1 (a0.map eI)), (VS 1 (a1.map eI)), (.int .i64 a2), (VS 2 (a3.map e_SI))])], false⟩⟩) h58 ?_ (fun _ => Nat.le_of_ble_eq_true rfl) ?_
            · exact .sub' (Nat.le_of_ble_eq_true rfl) (.cons rfl (.cons rfl (.cons rfl (.cons rfl (.cons rfl .nil)))))
            · intro e61 x62 h63;refine pw_so ?_;refine po_all ?_;(conv=>whnf);refine pw_seq ?_;refine pw_cond ?_;(conv=>whnf);refine pbr_oite h63 (fun g64 h63 => ?_) (fun g64 h63 => ?_)
              · (conv=>whnf);refine pw_skip ?_;(conv=>whnf);refine pw_seq ?_;refine pw_block ?_;refine pw_so ?_;refine po_all ?_;(conv=>whnf);refine pbr_ogrd h63 (fun g65 h63 => ?_);(conv=>whnf);refine nth_o (l := a3) h63 (fun x66 _ h63 => ?_);(conv=>whnf);refine pw_so ?_;refine po_all ?_;(conv=>whnf);refine oslH_o (f := e_SI) h63 (fun m67 _ h63 h68 h69 => ?_);refine pbr_t (ile_t h68.1) ?_;(conv=>whnf);refine pbr_t (ile_t (by simpa only [List.length_map] using h68.2)) ?_; rw [h69];(conv=>whnf);obtain ⟨y70, h71, h63⟩ := obnd_some h63;refine ICalls.goD (c86 (fun _ _ _ h => (c87 h)) h71) (.cons .cl (.cons (.func .nil (.cons (.ptr rfl (by intro v hv; simp only [List.mem_cons, List.not_mem_nil, or_false] at hv; rcases hv with rfl | rfl <;> rfl)) .nil)) .nil)) rfl ?_
                (conv=>whnf);refine pw_sd ?_;(conv=>whnf);refine ⟨?_, trivial⟩;(conv=>whnf);obtain ⟨y72, h73, h63⟩ := obnd_some h63;refine (c88 h73).go ?_;(conv=>whnf);refine ⟨by repeat (first | exact trivial | refine And.intro rfl ?_), ?_⟩;(conv=>whnf);refine ⟨?_, trivial⟩;(conv=>whnf);obtain ⟨y74, h75, h63⟩ := obnd_some h63;refine (c64 h75).go ?_;(conv=>whnf);refine ⟨by repeat (first | exact trivial | refine And.intro rfl ?_), ?_⟩;(conv=>whnf);refine ⟨?_, trivial⟩;(conv=>whnf);obtain ⟨y76, h77, h63⟩ := obnd_some h63;refine (c64 h77).go ?_;(conv=>whnf);refine ⟨by repeat (first | exact trivial | refine And.intro rfl ?_), ?_⟩
                (conv=>whnf);refine ⟨?_, trivial⟩;(conv=>whnf);obtain ⟨y78, h79, h63⟩ := obnd_some h63;refine (c65 h79).go ?_;(conv=>whnf);refine ⟨by repeat (first | exact trivial | refine And.intro rfl ?_), ?_⟩;(conv=>whnf);refine ⟨?_, trivial⟩;(conv=>whnf);obtain ⟨y80, h81, h63⟩ := obnd_some h63;refine (c64 h81).go ?_;(conv=>whnf);refine ⟨by repeat (first | exact trivial | refine And.intro rfl ?_), ?_⟩;(conv=>whnf);refine ⟨?_, trivial⟩;(conv=>whnf);refine ⟨by repeat (first | exact trivial | refine And.intro rfl ?_), ?_⟩;(conv=>whnf);refine ⟨?_, trivial⟩;(conv=>whnf);obtain ⟨y82, h83, h63⟩ := obnd_some h63;refine ICalls.goW (c63 h83) (.cons (.vt _ _ _) .nil) ?_
                (conv=>whnf);refine ⟨by repeat (first | exact trivial | refine And.intro rfl ?_), ?_⟩;(conv=>whnf);refine pw_so ?_;refine po_all ?_;(conv=>whnf);refine pw_cond ?_;(conv=>whnf);refine pbr_oite h63 (fun g84 h63 => ?_) (fun g84 h63 => ?_)
                · (conv=>whnf);refine pw_so ?_;refine po_all ?_;(conv=>whnf);refine pw_ret ?_;(conv=>whnf);cases h63;refine ⟨_, rfl, ?_⟩; rintro rfl;(conv=>whnf);obtain rfl := h60 _ rfl; rfl
                · (conv=>whnf);refine pw_skip ?_;(conv=>whnf);refine pw_ops ?_;refine po_all ?_;(conv=>whnf);cases h63;refine ⟨_, rfl, ?_⟩;refine Recast.trunc (Nat.le_of_ble_eq_true rfl) ?_ ?_
                  · repeat (first | exact .nil | refine .cons rfl (by first | exact OBnd.rwc (Nat.le_of_ble_eq_true rfl) rfl | exact OBnd.tail (Nat.le_of_ble_eq_true rfl) | trivial) ?_)
                  · repeat (first | exact .nil | refine .cons rfl (by first | exact Bnd.ptr (Nat.le_of_ble_eq_true rfl) | exact Bnd.vt (Nat.le_of_ble_eq_true rfl) | exact Bnd.cl) ?_)
              · (conv=>whnf);refine pw_exit ?_;(conv=>whnf);cases h63;refine ⟨_, rfl, ?_⟩; rintro rfl;(conv=>whnf);exact ⟨_, rfl, ⟨.nil, rfl⟩⟩
          · intro r87 hr; have H := h59 _ hr;refine pw_so ?_;refine po_all ?_;(conv=>whnf);refine pw_ret ?_;(conv=>whnf);cases H; rfl

/-- guidevane/dam.ParseRules -/
noncomputable def f378 [LO]  (a0 : ByteArray) : Option ((List Int) × (List Int) × Int × (List (ByteArray × Int)) × Int) :=
  oite ((ilt (60000 : Int) (a0.size : Int))) (
   some (([] : List Int), ([] : List Int), (0 : Int), ([] : List (ByteArray × Int)), (8 : Int))
    ) (
   obnd (f382 a0 (⟨#[59]⟩ : ByteArray)) fun (y2 : (List ByteArray)) =>
   obnd (y2[(0 : Int).toNat]?) fun (x4 : ByteArray) =>
   obnd (f383 x4 (7 : Int) false) fun (y5 : Int × Bool) =>
   obnd (
    oite y5.2 (
     some (ilt (1 : Int) ((y2.map eS).length : Int))
      ) (
     some false
      )
     ) fun (r7 : Bool) =>
   obnd (
    obnd (oslL y2 (1 : Int)) fun (m14 : List ByteArray) =>
    oloop (τ := Bool × Int × (List Int) × (List Int) × (List (ByteArray × Int))) (ρ := Bool × (List Int) × (List Int) × (List (ByteArray × Int))) (fun e17 =>
     oite ((ilt e17.2.1 ((m14.map eS).length : Int))) (
      ogrd ((ile 0 e17.2.1)) (
      obnd (m14[e17.2.1.toNat]?) fun (x22 : ByteArray) =>
      obnd (f390 x22 (⟨#[32]⟩ : ByteArray)) fun (y23 : ByteArray × ByteArray × Bool) =>
      obnd (f383 y23.2.1 (7 : Int) false) fun (y25 : Int × Bool) =>
      obnd (
       oite e17.1 (
        some y23.2.2
         ) (
        some false
         )
        ) fun (r27 : Bool) =>
      obnd (
       oite r27 (
        some y25.2
         ) (
        some false
         )
        ) fun (r30 : Bool) =>
      obnd (
       oite ((!(y23.1.toList == (⟨#[]⟩ : ByteArray).toList))) (
        obnd (y23.1.data.toList[(0 : Int).toNat]?) fun (x38 : UInt8) =>
        obnd (f111 (x38.toNat : Int)) fun (y39 : Bool) =>
        some y39
         ) (
        some false
         )
        ) fun (r33 : Bool) =>
      oite r33 (
       ogrd (fits 24 (e17.2.2.2.2.length + ([(y23.1, y25.1)] : List (ByteArray × Int)).length)) (
       some (.inl ((r30, (IntKind.i64.wrap (e17.2.1 + (1 : Int))), e17.2.2.1, e17.2.2.2.1, (e17.2.2.2.2 ++ ([(y23.1, y25.1)] : List (ByteArray × Int))))))
       )
        ) (
       obnd (f383 y23.1 (7 : Int) false) fun (y42 : Int × Bool) =>
       obnd (
        ogrd (fits 8 (e17.2.2.1.length + ([y42.1] : List Int).length)) (
        ogrd (fits 8 (e17.2.2.2.1.length + ([y25.1] : List Int).length)) (
        some ()
        )
        )
         ) fun (_ : Unit) =>
       obnd (
        oite r30 (
         some y42.2
          ) (
         some false
          )
         ) fun (r48 : Bool) =>
       obnd (
        oite r48 (
         some (ieq ((e17.2.2.2.2.map e_SI).length : Int) (0 : Int))
          ) (
         some false
          )
         ) fun (r51 : Bool) =>
       some (.inl ((r51, (IntKind.i64.wrap (e17.2.1 + (1 : Int))), (e17.2.2.1 ++ ([y42.1] : List Int)), (e17.2.2.2.1 ++ ([y25.1] : List Int)), e17.2.2.2.2)))
        )
      )
       ) (
      some (.inr ((e17.1, e17.2.2.1, e17.2.2.2.1, e17.2.2.2.2)))
       )
      ) ((r7, (0 : Int), ([] : List Int), ([] : List Int), ([] : List (ByteArray × Int))))
     ) fun (r10 : Bool × (List Int) × (List Int) × (List (ByteArray × Int))) =>
   oite (!r10.1) (
    some (([] : List Int), ([] : List Int), (0 : Int), ([] : List (ByteArray × Int)), (7 : Int))
     ) (
    obnd (f43 r10.2.1 r10.2.2.1 y5.1 r10.2.2.2) fun (y56 : Int × Int) =>
    oite ((!(ieq y56.2 (0 : Int)))) (
     some (([] : List Int), ([] : List Int), (0 : Int), ([] : List (ByteArray × Int)), y56.2)
      ) (
     some (r10.2.1, r10.2.2.1, y5.1, r10.2.2.2, (0 : Int))
      )
     )
    )
set_option maxHeartbeats 1000000 in
theorem c378 [LO]  {a0 : ByteArray} {x : (List Int) × (List Int) × Int × (List (ByteArray × Int)) × Int} (H : f378 a0 = some x) : ICalls E 378 [(.string a0)] AHeap.none fun v _ => v = (.tuple ⟨[(.agg ⟨[(VS 1 (x.1.map eI)), (VS 1 (x.2.1.map eI)), (.int .i64 x.2.2.1), (VS 2 (x.2.2.2.1.map e_SI))]⟩), (.int .i64 x.2.2.2.2)]⟩) := by
  refine ICalls.frz ?_;refine icalls_fn (pfnw ?_); unfold f378 at H;(conv=>whnf);refine pw_so ?_;refine po_all ?_;(conv=>whnf);refine pw_seq ?_;refine pw_so ?_;refine po_all ?_;(conv=>whnf);refine pw_cond ?_;(conv=>whnf);refine pbr_oite H (fun g1 H => ?_) (fun g1 H => ?_)
  · (conv=>whnf);refine pw_so ?_;refine po_all ?_;(conv=>whnf);refine pw_ret ?_;(conv=>whnf);cases H; show ∃ D, Fz _ D 0 (.tuple ⟨[(.agg ⟨[(.slice none 0 0), (.slice none 0 0), (.int .i64 0), (.slice none 0 0)]⟩), (.int .i64 8)]⟩) _;exact ⟨fun _ => false, .tuplel (.cons (.aggl (.cons (.nil _) (.cons (.nil _) (.cons .cl (.cons (.nil _) (.nil)))))) (.cons .cl (.nil)))⟩
  · (conv=>whnf);refine pw_skip ?_;(conv=>whnf);refine pw_so ?_;refine po_all ?_;(conv=>whnf);obtain ⟨y2, h3, H⟩ := obnd_some H;refine (c382 h3).go ?_;(conv=>whnf);refine pw_so ?_;refine po_all ?_;(conv=>whnf);refine pw_so ?_;refine po_all ?_;(conv=>whnf);refine nth_o (l := y2) H (fun x4 _ H => ?_);(conv=>whnf);obtain ⟨y5, h6, H⟩ := obnd_some H;refine (c383 h6).go ?_;(conv=>whnf);refine pw_so ?_;refine po_ops 3 ?_;(conv=>whnf);obtain ⟨r7, h8, H⟩ := obnd_some H;refine po_seg (τ := Bool) 4 (fun e => ⟨[(2, (.pointer (some ⟨0, 0, none⟩))), (4, (VS 1 (y2.map eS))), (5, (.pointer (some ⟨1, 0, none⟩))), (32, (.int .i64 y5.1)), (38, (.bool e))], ⟨2, [(1, .rw [(.slice none 0 0), (.slice none 0 0), (.int .i64 0), (.slice none 0 0)]), (0, .rw [(.slice none 0 0), (.slice none 0 0), (.int .i64 0), (.slice none 0 0)])], false⟩⟩) r7 ?_ ?_
    · refine po_all ?_;(conv=>whnf);refine pbr_oite h8 (fun g9 h8 => ?_) (fun g9 h8 => ?_)
      · (conv=>whnf);refine pbr_t g9 ?_;(conv=>whnf);refine pbr_t g9 ?_;(conv=>whnf);refine pbr_t g9 ?_;(conv=>whnf);cases h8;exact ⟨(.cons rfl (.cons rfl (.cons rfl (.cons rfl (.cons rfl .nil))))), rfl⟩
      · (conv=>whnf);refine pbr_f g9 ?_;(conv=>whnf);refine pbr_f g9 ?_;(conv=>whnf);refine pbr_f g9 ?_;(conv=>whnf);cases h8;exact ⟨(.cons rfl (.cons rfl (.cons rfl (.cons rfl (.cons rfl .nil))))), rfl⟩
    · refine po_all ?_;(conv=>whnf);obtain ⟨r10, h11, H⟩ := obnd_some H;refine pw_join (ρ := Bool × (List Int) × (List Int) × (List (ByteArray × Int))) (fun e => ⟨[(2, (.pointer (some ⟨0, 0, none⟩))), (5, (.pointer (some ⟨1, 0, none⟩))), (7, (.bool e.1))], ⟨5, [(4, .tail (e.2.2.2.map e_SI).length 2), (3, .tail (e.2.2.1.map eI).length 1), (2, .tail (e.2.1.map eI).length 1), (1, .rw [(VT 1 (e.2.1.map eI) 2), (VT 1 (e.2.2.1.map eI) 3), (.int .i64 y5.1), (VT 2 (e.2.2.2.map e_SI) 4)]), (0, .rw [(.slice none 0 0), (.slice none 0 0), (.int .i64 0), (.slice none 0 0)])], false⟩⟩) r10 ?_ ?_
      · refine pw_so ?_;refine po_all ?_;(conv=>whnf);refine oslL_o (f := eS) h11 (fun m14 _ h11 h15 h16 => ?_);refine pbr_t (ile_t (by simpa only [List.length_map] using h15.2)) ?_; rw [h16];(conv=>whnf);refine pw_block ?_;refine pw_loop (τ := Bool × Int × (List Int) × (List Int) × (List (ByteArray × Int))) (fun e => ⟨[(2, (.pointer (some ⟨0, 0, none⟩))), (5, (.pointer (some ⟨1, 0, none⟩))), (7, (.bool e.1)), (41, (VS 1 (m14.map eS))), (42, (.int .i64 ((m14.map eS).length : Int))), (43, (.int .i64 e.2.1))], ⟨5, [(4, .tail (e.2.2.2.2.map e_SI).length 2), (3, .tail (e.2.2.2.1.map eI).length 1), (2, .tail (e.2.2.1.map eI).length 1), (1, .rw [(VT 1 (e.2.2.1.map eI) 2), (VT 1 (e.2.2.2.1.map eI) 3), (.int .i64 y5.1), (VT 2 (e.2.2.2.2.map e_SI) 4)]), (0, .rw [(.slice none 0 0), (.slice none 0 0), (.int .i64 0), (.slice none 0 0)])], false⟩⟩) h11 ?_ (fun _ => Nat.le_of_ble_eq_true rfl) ?_
        · refine Recast.trans (s' := ⟨[(2, (.pointer (some ⟨0, 0, none⟩))), (5, (.pointer (some ⟨1, 0, none⟩))), (7, (.bool r7)), (41, (VS 1 (m14.map eS))), (42, (.int .i64 ((m14.map eS).length : Int))), (43, (.int .i64 0))], ⟨3, [(2, .tail 0 1), (1, .rw [(VT 1 (([] : List Int).map eI) 2), (.slice none 0 0), (.int .i64 y5.1), (.slice none 0 0)]), (0, .rw [(.slice none 0 0), (.slice none 0 0), (.int .i64 0), (.slice none 0 0)])], false⟩⟩) ((Recast.sub' (Nat.le_of_ble_eq_true rfl) (.cons rfl (.cons rfl (.cons rfl (.cons rfl (.cons rfl (.cons rfl .nil)))))) : Recast _ _ ⟨[(2, (.pointer (some ⟨0, 0, none⟩))), (5, (.pointer (some ⟨1, 0, none⟩))), (7, (.bool r7)), (41, (VS 1 (m14.map eS))), (42, (.int .i64 ((m14.map eS).length : Int))), (43, (.int .i64 0))], ⟨2, [(1, .rw [(.slice none 0 0), (.slice none 0 0), (.int .i64 y5.1), (.slice none 0 0)]), (0, .rw [(.slice none 0 0), (.slice none 0 0), (.int .i64 0), (.slice none 0 0)])], false⟩⟩).trans (Recast.nilM 1 1 (Nat.le_of_ble_eq_true rfl) rfl (Nat.le_of_ble_eq_true rfl) rfl (.turn (.same (.same (.same .nil)))) rfl)) ?_
          refine Recast.trans (s' := ⟨[(2, (.pointer (some ⟨0, 0, none⟩))), (5, (.pointer (some ⟨1, 0, none⟩))), (7, (.bool r7)), (41, (VS 1 (m14.map eS))), (42, (.int .i64 ((m14.map eS).length : Int))), (43, (.int .i64 0))], ⟨4, [(3, .tail 0 1), (2, .tail 0 1), (1, .rw [(VT 1 (([] : List Int).map eI) 2), (VT 1 (([] : List Int).map eI) 3), (.int .i64 y5.1), (.slice none 0 0)]), (0, .rw [(.slice none 0 0), (.slice none 0 0), (.int .i64 0), (.slice none 0 0)])], false⟩⟩) (Recast.nilM 1 1 (Nat.le_of_ble_eq_true rfl) rfl (Nat.le_of_ble_eq_true rfl) rfl (.same (.turn (.same (.same .nil)))) rfl) ?_;exact (Recast.nilM 2 1 (Nat.le_of_ble_eq_true rfl) rfl (Nat.le_of_ble_eq_true rfl) rfl (.same (.same (.same (.turn .nil)))) rfl)
        · intro e17 x18 h19;refine pw_so ?_;refine po_all ?_;(conv=>whnf);refine pw_seq ?_;refine pw_cond ?_;(conv=>whnf);refine pbr_oite h19 (fun g20 h19 => ?_) (fun g20 h19 => ?_)
          · (conv=>whnf);refine pw_skip ?_;(conv=>whnf);refine pw_seq ?_;refine pw_block ?_;refine pw_so ?_;refine po_all ?_;(conv=>whnf);refine pbr_ogrd h19 (fun g21 h19 => ?_);(conv=>whnf);refine nth_o (l := m14) h19 (fun x22 _ h19 => ?_);(conv=>whnf);refine pw_so ?_;refine po_all ?_;(conv=>whnf);obtain ⟨y23, h24, h19⟩ := obnd_some h19;refine (c390 h24).go ?_;(conv=>whnf);refine pw_so ?_;refine po_all ?_;(conv=>whnf);obtain ⟨y25, h26, h19⟩ := obnd_some h19;refine (c383 h26).go ?_;(conv=>whnf);refine pw_so ?_;refine po_ops 2 ?_;(conv=>whnf);obtain ⟨r27, h28, h19⟩ := obnd_some h19;refine po_seg (τ := Bool) 2 (fun e => ⟨[(2, (.pointer (some ⟨0, 0, none⟩))), (5, (.pointer (some ⟨1, 0, none⟩))), (10, (.string y23.1)), (13, (.int .i64 y25.1)), (14, (.bool y25.2)), (41, (VS 1 (m14.map eS))), (42, (.int .i64 ((m14.map eS).length : Int))), (43, (.int .i64 e17.2.1)), (61, (.bool e))], ⟨5, [(4, .tail (e17.2.2.2.2.map e_SI).length 2), (3, .tail (e17.2.2.2.1.map eI).length 1), (2, .tail (e17.2.2.1.map eI).length 1), (1, .rw [(VT 1 (e17.2.2.1.map eI) 2), (VT 1 (e17.2.2.2.1.map eI) 3), (.int .i64 y5.1), (VT 2 (e17.2.2.2.2.map e_SI) 4)]), (0, .rw [(.slice none 0 0), (.slice none 0 0), (.int .i64 0), (.slice none 0 0)])], false⟩⟩) r27 ?_ ?_
            · refine po_all ?_;(conv=>whnf);refine pbr_oite h28 (fun g29 h28 => ?_) (fun g29 h28 => ?_)
              · (conv=>whnf);refine pbr_t g29 ?_;(conv=>whnf);cases h28;exact ⟨(.cons rfl (.cons rfl (.cons rfl (.cons rfl (.cons rfl (.cons rfl (.cons rfl (.cons rfl (.cons rfl .nil))))))))), rfl⟩
              · (conv=>whnf);refine pbr_f g29 ?_;(conv=>whnf);cases h28;exact ⟨(.cons rfl (.cons rfl (.cons rfl (.cons rfl (.cons rfl (.cons rfl (.cons rfl (.cons rfl (.cons rfl .nil))))))))), rfl⟩
            · refine po_ops 1 ?_;(conv=>whnf);obtain ⟨r30, h31, h19⟩ := obnd_some h19;refine po_seg (τ := Bool) 2 (fun e => ⟨[(2, (.pointer (some ⟨0, 0, none⟩))), (5, (.pointer (some ⟨1, 0, none⟩))), (10, (.string y23.1)), (13, (.int .i64 y25.1)), (41, (VS 1 (m14.map eS))), (42, (.int .i64 ((m14.map eS).length : Int))), (43, (.int .i64 e17.2.1)), (64, (.bool e))], ⟨5, [(4, .tail (e17.2.2.2.2.map e_SI).length 2), (3, .tail (e17.2.2.2.1.map eI).length 1), (2, .tail (e17.2.2.1.map eI).length 1), (1, .rw [(VT 1 (e17.2.2.1.map eI) 2), (VT 1 (e17.2.2.2.1.map eI) 3), (.int .i64 y5.1), (VT 2 (e17.2.2.2.2.map e_SI) 4)]), (0, .rw [(.slice none 0 0), (.slice none 0 0), (.int .i64 0), (.slice none 0 0)])], false⟩⟩) r30 ?_ ?_
              · refine po_all ?_;(conv=>whnf);refine pbr_oite h31 (fun g32 h31 => ?_) (fun g32 h31 => ?_)
                · (conv=>whnf);refine pbr_t g32 ?_;(conv=>whnf);cases h31;exact ⟨(.cons rfl (.cons rfl (.cons rfl (.cons rfl (.cons rfl (.cons rfl (.cons rfl (.cons rfl .nil)))))))), rfl⟩
                · (conv=>whnf);refine pbr_f g32 ?_;(conv=>whnf);cases h31;exact ⟨(.cons rfl (.cons rfl (.cons rfl (.cons rfl (.cons rfl (.cons rfl (.cons rfl (.cons rfl .nil)))))))), rfl⟩
              · refine po_all ?_;(conv=>whnf);refine pw_seq ?_;obtain ⟨r33, h34, h19⟩ := obnd_some h19;refine pw_join (ρ := Bool) (fun e => ⟨[(2, (.pointer (some ⟨0, 0, none⟩))), (5, (.pointer (some ⟨1, 0, none⟩))), (7, (.bool r30)), (10, (.string y23.1)), (13, (.int .i64 y25.1)), (41, (VS 1 (m14.map eS))), (42, (.int .i64 ((m14.map eS).length : Int))), (43, (.int .i64 e17.2.1)), (71, (.bool e))], ⟨5, [(4, .tail (e17.2.2.2.2.map e_SI).length 2), (3, .tail (e17.2.2.2.1.map eI).length 1), (2, .tail (e17.2.2.1.map eI).length 1), (1, .rw [(VT 1 (e17.2.2.1.map eI) 2), (VT 1 (e17.2.2.2.1.map eI) 3), (.int .i64 y5.1), (VT 2 (e17.2.2.2.2.map e_SI) 4)]), (0, .rw [(.slice none 0 0), (.slice none 0 0), (.int .i64 0), (.slice none 0 0)])], false⟩⟩) r33 ?_ ?_
                · refine pw_ops ?_;refine po_all ?_;(conv=>whnf);refine pbr_oite h34 (fun g37 h34 => ?_) (fun g37 h34 => ?_)
                  · (conv=>whnf);refine pbr_t g37 ?_;(conv=>whnf);refine get_o h34 (fun x38 _ h34 => ?_);(conv=>whnf);refine pbr_t g37 ?_;(conv=>whnf);obtain ⟨y39, h40, h34⟩ := obnd_some h34;refine (c111 h40).go ?_;(conv=>whnf);refine pbr_t g37 ?_;(conv=>whnf);cases h34;exact ⟨(.cons rfl (.cons rfl (.cons rfl (.cons rfl (.cons rfl (.cons rfl (.cons rfl (.cons rfl (.cons rfl .nil))))))))), rfl⟩
                  · (conv=>whnf);refine pbr_f g37 ?_;(conv=>whnf);refine pbr_f g37 ?_;(conv=>whnf);refine pbr_f g37 ?_;(conv=>whnf);cases h34;exact ⟨(.cons rfl (.cons rfl (.cons rfl (.cons rfl (.cons rfl (.cons rfl (.cons rfl (.cons rfl (.cons rfl .nil))))))))), rfl⟩
                · refine pw_cond ?_;(conv=>whnf);refine pbr_oite h19 (fun g41 h19 => ?_) (fun g41 h19 => ?_)
                  · (conv=>whnf);refine pw_so ?_;refine po_all ?_;(conv=>whnf);refine app_o (l := e17.2.2.2.2) (m := ([(y23.1, y25.1)] : List (ByteArray × Int))) (f := e_SI) h19 (by rfl) (by rfl) (by rfl) (fun h19 => ?_);(conv=>whnf);refine pw_exit ?_;(conv=>whnf);refine pw_ops ?_;refine po_all ?_;(conv=>whnf);cases h19;refine ⟨_, rfl, ?_⟩;exact Recast.fz (fun _ => false) (Nat.le_of_ble_eq_true rfl) (.cons (.same rfl rfl (OBnd.tail (Nat.le_of_ble_eq_true rfl))) (.cons (.same rfl rfl (OBnd.tail (Nat.le_of_ble_eq_true rfl))) (.cons (.same rfl rfl (OBnd.tail (Nat.le_of_ble_eq_true rfl))) (.cons (.same rfl rfl (OBnd.rwl (Nat.le_of_ble_eq_true rfl) rfl (.cons (.vt (Nat.le_of_ble_eq_true rfl)) (.cons (.vt (Nat.le_of_ble_eq_true rfl)) (.cons .cl (.cons (.vt (Nat.le_of_ble_eq_true rfl)) .nil)))))) (.cons (.same rfl rfl (OBnd.rwl (Nat.le_of_ble_eq_true rfl) rfl (.cons .cl (.cons .cl (.cons .cl (.cons .cl .nil)))))) .nil))))) (.cons rfl (.same _ (.ptr (Nat.le_of_ble_eq_true rfl))) (.cons rfl (.same _ (.ptr (Nat.le_of_ble_eq_true rfl))) (.cons rfl (.same _ .cl) (.cons rfl (.same _ .cl) (.cons rfl (.same _ .cl) (.cons rfl (.same _ .cl) .nil))))))
                  · (conv=>whnf);refine pw_skip ?_;(conv=>whnf);refine pw_so ?_;refine po_all ?_;(conv=>whnf);obtain ⟨y42, h43, h19⟩ := obnd_some h19;refine (c383 h43).go ?_;(conv=>whnf);obtain ⟨r44, h45, h19⟩ := obnd_some h19;refine pw_join (ρ := Unit) (fun e => ⟨[(2, (.pointer (some ⟨0, 0, none⟩))), (5, (.pointer (some ⟨1, 0, none⟩))), (7, (.bool r30)), (16, (.bool y42.2)), (41, (VS 1 (m14.map eS))), (42, (.int .i64 ((m14.map eS).length : Int))), (43, (.int .i64 e17.2.1))], ⟨7, [(6, .tail 1 1), (5, .tail 1 1), (4, .tail (e17.2.2.2.2.map e_SI).length 2), (3, .tail ((e17.2.2.2.1 ++ ([y25.1] : List Int)).map eI).length 1), (2, .tail ((e17.2.2.1 ++ ([y42.1] : List Int)).map eI).length 1), (1, .rw [(VT 1 ((e17.2.2.1 ++ ([y42.1] : List Int)).map eI) 2), (VT 1 ((e17.2.2.2.1 ++ ([y25.1] : List Int)).map eI) 3), (.int .i64 y5.1), (VT 2 (e17.2.2.2.2.map e_SI) 4)]), (0, .rw [(.slice none 0 0), (.slice none 0 0), (.int .i64 0), (.slice none 0 0)])], false⟩⟩) r44 ?_ ?_
                    · refine pw_draw ?_;(conv=>whnf);refine ⟨?_, ?_⟩
                      · (conv=>whnf);refine ⟨by repeat (first | exact trivial | refine And.intro rfl ?_), ?_⟩;(conv=>whnf);refine ⟨?_, ?_⟩
                        · (conv=>whnf);refine app_o (l := e17.2.2.1) (m := ([y42.1] : List Int)) (f := eI) h45 (by rfl) (by rfl) (by rfl) (fun h45 => ?_);(conv=>whnf);refine ⟨by repeat (first | exact trivial | refine And.intro rfl ?_), ?_⟩;(conv=>whnf);refine ⟨?_, trivial⟩;(conv=>whnf);refine ⟨by repeat (first | exact trivial | refine And.intro rfl ?_), ?_⟩;(conv=>whnf);refine ⟨?_, trivial⟩;(conv=>whnf);refine app_o (l := e17.2.2.2.1) (m := ([y25.1] : List Int)) (f := eI) h45 (by rfl) (by rfl) (by rfl) (fun h45 => ?_);(conv=>whnf);refine ⟨by repeat (first | exact trivial | refine And.intro rfl ?_), ?_⟩;(conv=>whnf);refine ⟨?_, trivial⟩
                          (conv=>whnf);refine ⟨by repeat (first | exact trivial | refine And.intro rfl ?_), ?_⟩;(conv=>whnf);refine ⟨?_, trivial⟩;(conv=>whnf);refine ⟨by repeat (first | exact trivial | refine And.intro rfl ?_), ?_⟩;(conv=>whnf);cases h45;exact ⟨(.cons rfl (.cons rfl (.cons rfl (.cons rfl (.cons rfl (.cons rfl (.cons rfl .nil))))))), rfl⟩
                        · (conv=>whnf);refine ⟨?_, trivial⟩;(conv=>whnf);refine ⟨by repeat (first | exact trivial | refine And.intro rfl ?_), ?_⟩;(conv=>whnf);refine ⟨?_, trivial⟩;(conv=>whnf);refine app_o (l := e17.2.2.1) (m := ([y42.1] : List Int)) (f := eI) h45 (by rfl) (by rfl) (by rfl) (fun h45 => ?_);(conv=>whnf);refine ⟨by repeat (first | exact trivial | refine And.intro rfl ?_), ?_⟩;(conv=>whnf);refine ⟨?_, trivial⟩;(conv=>whnf);refine app_o (l := e17.2.2.2.1) (m := ([y25.1] : List Int)) (f := eI) h45 (by rfl) (by rfl) (by rfl) (fun h45 => ?_);(conv=>whnf);refine ⟨by repeat (first | exact trivial | refine And.intro rfl ?_), ?_⟩
                          (conv=>whnf);refine ⟨?_, trivial⟩;(conv=>whnf);refine ⟨by repeat (first | exact trivial | refine And.intro rfl ?_), ?_⟩;(conv=>whnf);refine ⟨?_, trivial⟩;(conv=>whnf);refine ⟨by repeat (first | exact trivial | refine And.intro rfl ?_), ?_⟩;(conv=>whnf);cases h45;exact ⟨(.cons rfl (.cons rfl (.cons rfl (.cons rfl (.cons rfl (.cons rfl (.cons rfl .nil))))))), rfl⟩
                      · (conv=>whnf);refine ⟨?_, trivial⟩;(conv=>whnf);refine ⟨by repeat (first | exact trivial | refine And.intro rfl ?_), ?_⟩;(conv=>whnf);refine ⟨?_, trivial⟩;(conv=>whnf);refine ⟨by repeat (first | exact trivial | refine And.intro rfl ?_), ?_⟩;(conv=>whnf);refine ⟨?_, trivial⟩;(conv=>whnf);refine app_o (l := e17.2.2.1) (m := ([y42.1] : List Int)) (f := eI) h45 (by rfl) (by rfl) (by rfl) (fun h45 => ?_);(conv=>whnf);refine ⟨by repeat (first | exact trivial | refine And.intro rfl ?_), ?_⟩;(conv=>whnf);refine ⟨?_, trivial⟩;(conv=>whnf);refine app_o (l := e17.2.2.2.1) (m := ([y25.1] : List Int)) (f := eI) h45 (by rfl) (by rfl) (by rfl) (fun h45 => ?_)
                        (conv=>whnf);refine ⟨by repeat (first | exact trivial | refine And.intro rfl ?_), ?_⟩;(conv=>whnf);refine ⟨?_, trivial⟩;(conv=>whnf);refine ⟨by repeat (first | exact trivial | refine And.intro rfl ?_), ?_⟩;(conv=>whnf);refine ⟨?_, trivial⟩;(conv=>whnf);refine ⟨by repeat (first | exact trivial | refine And.intro rfl ?_), ?_⟩;(conv=>whnf);cases h45;exact ⟨(.cons rfl (.cons rfl (.cons rfl (.cons rfl (.cons rfl (.cons rfl (.cons rfl .nil))))))), rfl⟩
                    · refine pw_ops ?_;refine po_ops 2 ?_;(conv=>whnf);obtain ⟨r48, h49, h19⟩ := obnd_some h19;refine po_seg (τ := Bool) 2 (fun e => ⟨[(2, (.pointer (some ⟨0, 0, none⟩))), (5, (.pointer (some ⟨1, 0, none⟩))), (41, (VS 1 (m14.map eS))), (42, (.int .i64 ((m14.map eS).length : Int))), (43, (.int .i64 e17.2.1)), (100, (.bool e))], ⟨7, [(6, .tail 1 1), (5, .tail 1 1), (4, .tail (e17.2.2.2.2.map e_SI).length 2), (3, .tail ((e17.2.2.2.1 ++ ([y25.1] : List Int)).map eI).length 1), (2, .tail ((e17.2.2.1 ++ ([y42.1] : List Int)).map eI).length 1), (1, .rw [(VT 1 ((e17.2.2.1 ++ ([y42.1] : List Int)).map eI) 2), (VT 1 ((e17.2.2.2.1 ++ ([y25.1] : List Int)).map eI) 3), (.int .i64 y5.1), (VT 2 (e17.2.2.2.2.map e_SI) 4)]), (0, .rw [(.slice none 0 0), (.slice none 0 0), (.int .i64 0), (.slice none 0 0)])], false⟩⟩) r48 ?_ ?_
                      · refine po_all ?_;(conv=>whnf);refine pbr_oite h49 (fun g50 h49 => ?_) (fun g50 h49 => ?_)
                        · (conv=>whnf);refine pbr_t g50 ?_;(conv=>whnf);cases h49;exact ⟨(.cons rfl (.cons rfl (.cons rfl (.cons rfl (.cons rfl (.cons rfl .nil)))))), rfl⟩
                        · (conv=>whnf);refine pbr_f g50 ?_;(conv=>whnf);cases h49;exact ⟨(.cons rfl (.cons rfl (.cons rfl (.cons rfl (.cons rfl (.cons rfl .nil)))))), rfl⟩
                      · refine po_ops 1 ?_;(conv=>whnf);obtain ⟨r51, h52, h19⟩ := obnd_some h19;refine po_seg (τ := Bool) 5 (fun e => ⟨[(2, (.pointer (some ⟨0, 0, none⟩))), (5, (.pointer (some ⟨1, 0, none⟩))), (41, (VS 1 (m14.map eS))), (42, (.int .i64 ((m14.map eS).length : Int))), (43, (.int .i64 e17.2.1)), (106, (.bool e))], ⟨7, [(6, .tail 1 1), (5, .tail 1 1), (4, .tail (e17.2.2.2.2.map e_SI).length 2), (3, .tail ((e17.2.2.2.1 ++ ([y25.1] : List Int)).map eI).length 1), (2, .tail ((e17.2.2.1 ++ ([y42.1] : List Int)).map eI).length 1), (1, .rw [(VT 1 ((e17.2.2.1 ++ ([y42.1] : List Int)).map eI) 2), (VT 1 ((e17.2.2.2.1 ++ ([y25.1] : List Int)).map eI) 3), (.int .i64 y5.1), (VT 2 (e17.2.2.2.2.map e_SI) 4)]), (0, .rw [(.slice none 0 0), (.slice none 0 0), (.int .i64 0), (.slice none 0 0)])], false⟩⟩) r51 ?_ ?_
                        · refine po_all ?_;(conv=>whnf);refine pbr_oite h52 (fun g53 h52 => ?_) (fun g53 h52 => ?_)
                          · (conv=>whnf);refine pbr_t g53 ?_;(conv=>whnf);refine pbr_t g53 ?_;(conv=>whnf);refine pbr_t g53 ?_;(conv=>whnf);refine pbr_t g53 ?_;(conv=>whnf);cases h52;exact ⟨(.cons rfl (.cons rfl (.cons rfl (.cons rfl (.cons rfl (.cons rfl .nil)))))), rfl⟩
                          · (conv=>whnf);refine pbr_f g53 ?_;(conv=>whnf);refine pbr_f g53 ?_;(conv=>whnf);refine pbr_f g53 ?_;(conv=>whnf);refine pbr_f g53 ?_;(conv=>whnf);cases h52;exact ⟨(.cons rfl (.cons rfl (.cons rfl (.cons rfl (.cons rfl (.cons rfl .nil)))))), rfl⟩
                        · refine po_all ?_;(conv=>whnf);refine pw_ops ?_;refine po_all ?_;(conv=>whnf);cases h19;refine ⟨_, rfl, ?_⟩;exact Recast.fz (fun _ => false) (Nat.le_of_ble_eq_true rfl) (.cons (.same rfl rfl (OBnd.tail (Nat.le_of_ble_eq_true rfl))) (.cons (.same rfl rfl (OBnd.tail (Nat.le_of_ble_eq_true rfl))) (.cons (.same rfl rfl (OBnd.tail (Nat.le_of_ble_eq_true rfl))) (.cons (.same rfl rfl (OBnd.rwl (Nat.le_of_ble_eq_true rfl) rfl (.cons (.vt (Nat.le_of_ble_eq_true rfl)) (.cons (.vt (Nat.le_of_ble_eq_true rfl)) (.cons .cl (.cons (.vt (Nat.le_of_ble_eq_true rfl)) .nil)))))) (.cons (.same rfl rfl (OBnd.rwl (Nat.le_of_ble_eq_true rfl) rfl (.cons .cl (.cons .cl (.cons .cl (.cons .cl .nil)))))) .nil))))) (.cons rfl (.same _ (.ptr (Nat.le_of_ble_eq_true rfl))) (.cons rfl (.same _ (.ptr (Nat.le_of_ble_eq_true rfl))) (.cons rfl (.same _ .cl) (.cons rfl (.same _ .cl) (.cons rfl (.same _ .cl) (.cons rfl (.same _ .cl) .nil))))))
          · (conv=>whnf);refine pw_exit ?_;(conv=>whnf);cases h19;refine ⟨_, rfl, ?_⟩; rintro rfl;(conv=>whnf);exact ⟨(.cons rfl (.cons rfl (.cons rfl .nil))), rfl⟩
      · refine pw_seq ?_;refine pw_so ?_;refine po_all ?_;(conv=>whnf);refine pw_cond ?_;(conv=>whnf);refine pbr_oite H (fun g55 H => ?_) (fun g55 H => ?_)
        · (conv=>whnf);refine pw_so ?_;refine po_all ?_;(conv=>whnf);refine pw_ret ?_;(conv=>whnf);cases H; show ∃ D, Fz _ D 0 (.tuple ⟨[(.agg ⟨[(.slice none 0 0), (.slice none 0 0), (.int .i64 0), (.slice none 0 0)]⟩), (.int .i64 7)]⟩) _;exact ⟨fun _ => false, .tuplel (.cons (.aggl (.cons (.nil _) (.cons (.nil _) (.cons .cl (.cons (.nil _) (.nil)))))) (.cons .cl (.nil)))⟩
        · (conv=>whnf);refine pw_skip ?_;(conv=>whnf);refine pw_seq ?_;refine pw_so ?_;refine po_all ?_;(conv=>whnf);obtain ⟨y56, h57, H⟩ := obnd_some H;refine ICalls.goW (c43 h57) (.cons (.aggl (.cons (.vt _ _ _) (.cons (.vt _ _ _) (.cons (.refl _) (.cons (.vt _ _ _) .nil))))) .nil) ?_;(conv=>whnf);refine pw_so ?_;refine po_all ?_;(conv=>whnf);refine pw_cond ?_;(conv=>whnf);refine pbr_oite H (fun g58 H => ?_) (fun g58 H => ?_)
          · (conv=>whnf);refine pw_so ?_;refine po_all ?_;(conv=>whnf);refine pw_ret ?_;(conv=>whnf);cases H; show ∃ D, Fz _ D 0 (.tuple ⟨[(.agg ⟨[(.slice none 0 0), (.slice none 0 0), (.int .i64 0), (.slice none 0 0)]⟩), (.int .i64 y56.2)]⟩) _;exact ⟨fun _ => false, .tuplel (.cons (.aggl (.cons (.nil _) (.cons (.nil _) (.cons .cl (.cons (.nil _) (.nil)))))) (.cons .cl (.nil)))⟩
          · (conv=>whnf);refine pw_skip ?_;(conv=>whnf);refine pw_so ?_;refine po_all ?_;(conv=>whnf);refine pw_ret ?_;(conv=>whnf);cases H; show ∃ D, Fz _ D 0 (.tuple ⟨[(.agg ⟨[(VT 1 _ 2), (VT 1 _ 3), (.int .i64 y5.1), (VT 2 _ 4)]⟩), (.int .i64 0)]⟩) _;exact ⟨fun _ => false, .tuplel (.cons (.aggl (.cons .vtc (.cons .vtc (.cons .cl (.cons .vtc (.nil)))))) (.cons .cl (.nil)))⟩

/-- guidevane/guidevaneref09.natural -/
noncomputable def f391 [LO]  (a0 : ByteArray) : Option (Int × Bool) :=
  obnd (f387 a0 (7 : Int)) fun (y1 : Int × Bool) =>
  oite y1.2 (
   obnd (a0.data.toList[(0 : Int).toNat]?) fun (x4 : UInt8) =>
   some (y1.1, (!(ieq (x4.toNat : Int) (45 : Int))))
    ) (
   some (y1.1, false)
    )
set_option maxHeartbeats 1000000 in
theorem c391 [LO]  {a0 : ByteArray} {x : Int × Bool} (H : f391 a0 = some x) : ICalls E 391 [(.string a0)] AHeap.none fun v _ => v = (.tuple ⟨[(.int .i64 x.1), (.bool x.2)]⟩) := by
  refine icalls_fn (pfnw ?_); unfold f391 at H;(conv=>whnf);refine pw_so ?_;refine po_all ?_;(conv=>whnf);refine pw_so ?_;refine po_all ?_;(conv=>whnf);obtain ⟨y1, h2, H⟩ := obnd_some H;refine (c387 h2).go ?_;(conv=>whnf);refine pw_sd ?_;(conv=>whnf);refine pbr_oite H (fun g3 H => ?_) (fun g3 H => ?_)
  · (conv=>whnf);refine pbr_t g3 ?_;(conv=>whnf);refine get_o H (fun x4 _ H => ?_);(conv=>whnf);refine pbr_t g3 ?_;(conv=>whnf);refine pbr_t g3 ?_;(conv=>whnf);refine pw_ret ?_;(conv=>whnf);cases H; rfl
  · (conv=>whnf);refine pbr_f g3 ?_;(conv=>whnf);refine pbr_f g3 ?_;(conv=>whnf);refine pbr_f g3 ?_;(conv=>whnf);refine pw_ret ?_;(conv=>whnf);cases H; rfl

/-- guidevane/guidevaneref09.isLetter -/
noncomputable def f392  (a0 : ByteArray) : Option Bool :=
  obnd (
   oite ((!(a0.toList == (⟨#[]⟩ : ByteArray).toList))) (
    obnd (a0.data.toList[(0 : Int).toNat]?) fun (x4 : UInt8) =>
    oite ((ile (97 : Int) (x4.toNat : Int))) (
     obnd (a0.data.toList[(0 : Int).toNat]?) fun (x6 : UInt8) =>
     oite ((ile (x6.toNat : Int) (122 : Int))) (
      some true
       ) (
      obnd (a0.data.toList[(0 : Int).toNat]?) fun (x8 : UInt8) =>
      oite ((ile (65 : Int) (x8.toNat : Int))) (
       obnd (a0.data.toList[(0 : Int).toNat]?) fun (x10 : UInt8) =>
       some (ile (x10.toNat : Int) (90 : Int))
        ) (
       some false
        )
       )
      ) (
     obnd (a0.data.toList[(0 : Int).toNat]?) fun (x11 : UInt8) =>
     oite ((ile (65 : Int) (x11.toNat : Int))) (
      obnd (a0.data.toList[(0 : Int).toNat]?) fun (x13 : UInt8) =>
      some (ile (x13.toNat : Int) (90 : Int))
       ) (
      some false
       )
      )
     ) (
    some false
     )
    ) fun (r1 : Bool) =>
  some r1
set_option maxHeartbeats 1000000 in
theorem c392  {a0 : ByteArray} {x : Bool} (H : f392 a0 = some x) : ICalls E 392 [(.string a0)] AHeap.none fun v _ => v = (.bool x) := by
  refine icalls_fn (pfnw ?_); unfold f392 at H;(conv=>whnf);refine pw_so ?_;refine po_all ?_;(conv=>whnf);refine pw_so ?_;refine po_ops 3 ?_;(conv=>whnf);obtain ⟨r1, h2, H⟩ := obnd_some H;refine po_seg (τ := Bool) 19 (fun e => ⟨[(24, (.bool e))], ⟨0, [], false⟩⟩) r1 ?_ ?_
  · refine po_all ?_;(conv=>whnf);refine pbr_oite h2 (fun g3 h2 => ?_) (fun g3 h2 => ?_)
    · (conv=>whnf);refine pbr_t g3 ?_;(conv=>whnf);refine get_o h2 (fun x4 _ h2 => ?_);(conv=>whnf);refine pbr_t g3 ?_;(conv=>whnf);refine pbr_t g3 ?_;(conv=>whnf);refine pbr_oite h2 (fun g5 h2 => ?_) (fun g5 h2 => ?_)
      · (conv=>whnf);refine pbr_t g5 ?_;(conv=>whnf);refine get_o h2 (fun x6 _ h2 => ?_);(conv=>whnf);refine pbr_t g5 ?_;(conv=>whnf);refine pbr_t g3 ?_;(conv=>whnf);refine pbr_t g5 ?_;(conv=>whnf);refine pbr_t g3 ?_;(conv=>whnf);refine pbr_oite h2 (fun g7 h2 => ?_) (fun g7 h2 => ?_)
        · (conv=>whnf);refine pbr_t g7 ?_;(conv=>whnf);refine pbr_t g7 ?_;(conv=>whnf);refine pbr_t g7 ?_;(conv=>whnf);refine pbr_t g7 ?_;(conv=>whnf);refine pbr_t g3 ?_;(conv=>whnf);refine pbr_t g7 ?_;(conv=>whnf);refine pbr_t g3 ?_;(conv=>whnf);cases h2;exact ⟨(.cons rfl .nil), rfl⟩
        · (conv=>whnf);refine pbr_f g7 ?_;(conv=>whnf);refine get_o h2 (fun x8 _ h2 => ?_);(conv=>whnf);refine pbr_f g7 ?_;(conv=>whnf);refine pbr_f g7 ?_;(conv=>whnf);refine pbr_oite h2 (fun g9 h2 => ?_) (fun g9 h2 => ?_)
          · (conv=>whnf);refine pbr_t g9 ?_;(conv=>whnf);refine get_o h2 (fun x10 _ h2 => ?_);(conv=>whnf);refine pbr_t g9 ?_;(conv=>whnf);refine pbr_f g7 ?_;(conv=>whnf);refine pbr_t g9 ?_;(conv=>whnf);refine pbr_t g3 ?_;(conv=>whnf);refine pbr_f g7 ?_;(conv=>whnf);refine pbr_t g3 ?_;(conv=>whnf);cases h2;exact ⟨(.cons rfl .nil), rfl⟩
          · (conv=>whnf);refine pbr_f g9 ?_;(conv=>whnf);refine pbr_f g9 ?_;(conv=>whnf);refine pbr_f g7 ?_;(conv=>whnf);refine pbr_f g9 ?_;(conv=>whnf);refine pbr_t g3 ?_;(conv=>whnf);refine pbr_f g7 ?_;(conv=>whnf);refine pbr_t g3 ?_;(conv=>whnf);cases h2;exact ⟨(.cons rfl .nil), rfl⟩
      · (conv=>whnf);refine pbr_f g5 ?_;(conv=>whnf);refine pbr_f g5 ?_;(conv=>whnf);refine pbr_t g3 ?_;(conv=>whnf);refine pbr_f g5 ?_;(conv=>whnf);refine pbr_t g3 ?_;(conv=>whnf);refine get_o h2 (fun x11 _ h2 => ?_);(conv=>whnf);refine pbr_oite h2 (fun g12 h2 => ?_) (fun g12 h2 => ?_)
        · (conv=>whnf);refine pbr_t g12 ?_;(conv=>whnf);refine get_o h2 (fun x13 _ h2 => ?_);(conv=>whnf);refine pbr_t g12 ?_;(conv=>whnf);refine pbr_t g12 ?_;(conv=>whnf);refine pbr_t g3 ?_;(conv=>whnf);refine pbr_t g3 ?_;(conv=>whnf);cases h2;exact ⟨(.cons rfl .nil), rfl⟩
        · (conv=>whnf);refine pbr_f g12 ?_;(conv=>whnf);refine pbr_f g12 ?_;(conv=>whnf);refine pbr_f g12 ?_;(conv=>whnf);refine pbr_t g3 ?_;(conv=>whnf);refine pbr_t g3 ?_;(conv=>whnf);cases h2;exact ⟨(.cons rfl .nil), rfl⟩
    · (conv=>whnf);refine pbr_f g3 ?_;(conv=>whnf);refine pbr_f g3 ?_;(conv=>whnf);refine pbr_f g3 ?_;(conv=>whnf);refine pbr_f g3 ?_;(conv=>whnf);refine pbr_f g3 ?_;(conv=>whnf);refine pbr_f g3 ?_;(conv=>whnf);refine pbr_f g3 ?_;(conv=>whnf);cases h2;exact ⟨(.cons rfl .nil), rfl⟩
  · refine po_all ?_;(conv=>whnf);refine pw_ret ?_;(conv=>whnf);cases H; rfl

/-- guidevane/guidevanebase.IsName -/
noncomputable def f91 [LO]  (a0 : ByteArray) : Option Bool :=
  obnd (
   oite ((ilt (a0.size : Int) (1 : Int))) (
    some true
     ) (
    some (ilt (12 : Int) (a0.size : Int))
     )
    ) fun (r1 : Bool) =>
  oite r1 (
   some false
    ) (
   obndS (
    oloop (τ := Int) (ρ := (Unit) ⊕ Bool) (fun e11 =>
     oite ((ilt e11 (a0.size : Int))) (
      ogrd ((ile 0 e11)) (
      obnd (a0.data.toList[e11.toNat]?) fun (x16 : UInt8) =>
      obnd (
       oite ((ile (97 : Int) (x16.toNat : Int))) (
        some (ile (x16.toNat : Int) (122 : Int))
         ) (
        some false
         )
        ) fun (r17 : Bool) =>
      obnd (
       oite r17 (
        some true
         ) (
        oite ((ile (65 : Int) (x16.toNat : Int))) (
         some (ile (x16.toNat : Int) (90 : Int))
          ) (
         some false
          )
         )
        ) fun (r20 : Bool) =>
      obnd (
       oite (!r20) (
        obnd (
         oite ((ieq e11 (0 : Int))) (
          some true
           ) (
          oite ((!(ieq (x16.toNat : Int) (45 : Int)))) (
           oite ((ilt (x16.toNat : Int) (48 : Int))) (
            some true
             ) (
            some (ilt (57 : Int) (x16.toNat : Int))
             )
            ) (
           some false
            )
           )
          ) fun (r29 : Bool) =>
        some r29
         ) (
        some false
         )
        ) fun (r24 : Bool) =>
      oite r24 (
       some (.inr (.inr (false)))
        ) (
       some (.inl (IntKind.i64.wrap (e11 + (1 : Int))))
        )
      )
       ) (
      some (.inr (.inl ()))
       )
      ) (0 : Int)
     ) fun (_ : Unit) =>
   some true
    )
set_option maxHeartbeats 1000000 in
theorem c91 [LO]  {a0 : ByteArray} {x : Bool} (H : f91 a0 = some x) : ICalls E 91 [(.string a0)] AHeap.none fun v _ => v = (.bool x) := by
  refine icalls_fn (pfnw ?_); unfold f91 at H;(conv=>whnf);refine pw_so ?_;refine po_all ?_;(conv=>whnf);refine pw_seq ?_;obtain ⟨r1, h2, H⟩ := obnd_some H;refine pw_join (ρ := Bool) (fun e => ⟨[(0, (.string a0)), (13, (.bool e))], ⟨0, [], false⟩⟩) r1 ?_ ?_
  · refine pw_ops ?_;refine po_all ?_;(conv=>whnf);refine pbr_oite h2 (fun g5 h2 => ?_) (fun g5 h2 => ?_)
    · (conv=>whnf);refine pbr_t g5 ?_;(conv=>whnf);refine pbr_t g5 ?_;(conv=>whnf);refine pbr_t g5 ?_;(conv=>whnf);cases h2;exact ⟨(.cons rfl (.cons rfl .nil)), rfl⟩
    · (conv=>whnf);refine pbr_f g5 ?_;(conv=>whnf);refine pbr_f g5 ?_;(conv=>whnf);refine pbr_f g5 ?_;(conv=>whnf);cases h2;exact ⟨(.cons rfl (.cons rfl .nil)), rfl⟩
  · refine pw_cond ?_;(conv=>whnf);refine pbr_oite H (fun g6 H => ?_) (fun g6 H => ?_)
    · (conv=>whnf);refine pw_so ?_;refine po_all ?_;(conv=>whnf);refine pw_ret ?_;(conv=>whnf);cases H; rfl
    · (conv=>whnf);refine pw_skip ?_;(conv=>whnf);obtain ⟨r7, h8, h9, h10⟩ := obndS_some H;refine pw_joinS (ρ := Unit) (fun e => ⟨[], ⟨0, [], false⟩⟩) r7 ?_ ?_
      · refine pw_so ?_;refine po_all ?_;(conv=>whnf);refine pw_block ?_;refine pw_loop (τ := Int) (fun e => ⟨[(0, (.string a0)), (3, (.int .i64 e))], ⟨0, [], false⟩⟩) h8 ?_ (fun _ => Nat.le_of_ble_eq_true rfl) ?_
        · exact .sub' (Nat.le_of_ble_eq_true rfl) (.cons rfl (.cons rfl .nil))
        · intro e11 x12 h13;refine pw_seq ?_;refine pw_so ?_;refine po_all ?_;(conv=>whnf);refine pw_cond ?_;(conv=>whnf);refine pbr_oite h13 (fun g14 h13 => ?_) (fun g14 h13 => ?_)
          · (conv=>whnf);refine pw_skip ?_;(conv=>whnf);refine pw_seq ?_;refine pw_block ?_;refine pw_so ?_;refine po_all ?_;(conv=>whnf);refine pbr_ogrd h13 (fun g15 h13 => ?_);(conv=>whnf);refine get_o h13 (fun x16 _ h13 => ?_);(conv=>whnf);refine pw_so ?_;refine po_ops 3 ?_;(conv=>whnf);obtain ⟨r17, h18, h13⟩ := obnd_some h13;refine po_seg (τ := Bool) 3 (fun e => ⟨[(0, (.string a0)), (3, (.int .i64 e11)), (4, (.int .u8 (x16.toNat : Int))), (28, (.bool e))], ⟨0, [], false⟩⟩) r17 ?_ ?_
            · refine po_all ?_;(conv=>whnf);refine pbr_oite h18 (fun g19 h18 => ?_) (fun g19 h18 => ?_)
              · (conv=>whnf);refine pbr_t g19 ?_;(conv=>whnf);refine pbr_t g19 ?_;(conv=>whnf);cases h18;exact ⟨(.cons rfl (.cons rfl (.cons rfl (.cons rfl .nil)))), rfl⟩
              · (conv=>whnf);refine pbr_f g19 ?_;(conv=>whnf);refine pbr_f g19 ?_;(conv=>whnf);cases h18;exact ⟨(.cons rfl (.cons rfl (.cons rfl (.cons rfl .nil)))), rfl⟩
            · refine po_ops 1 ?_;(conv=>whnf);obtain ⟨r20, h21, h13⟩ := obnd_some h13;refine po_seg (τ := Bool) 7 (fun e => ⟨[(0, (.string a0)), (3, (.int .i64 e11)), (4, (.int .u8 (x16.toNat : Int))), (36, (.bool e))], ⟨0, [], false⟩⟩) r20 ?_ ?_
              · refine po_all ?_;(conv=>whnf);refine pbr_oite h21 (fun g22 h21 => ?_) (fun g22 h21 => ?_)
                · (conv=>whnf);refine pbr_t g22 ?_;(conv=>whnf);refine pbr_t g22 ?_;(conv=>whnf);refine pbr_t g22 ?_;(conv=>whnf);refine pbr_t g22 ?_;(conv=>whnf);cases h21;exact ⟨(.cons rfl (.cons rfl (.cons rfl (.cons rfl .nil)))), rfl⟩
                · (conv=>whnf);refine pbr_f g22 ?_;(conv=>whnf);refine pbr_f g22 ?_;(conv=>whnf);refine pbr_oite h21 (fun g23 h21 => ?_) (fun g23 h21 => ?_)
                  · (conv=>whnf);refine pbr_t g23 ?_;(conv=>whnf);refine pbr_f g22 ?_;(conv=>whnf);refine pbr_t g23 ?_;(conv=>whnf);refine pbr_f g22 ?_;(conv=>whnf);cases h21;exact ⟨(.cons rfl (.cons rfl (.cons rfl (.cons rfl .nil)))), rfl⟩
                  · (conv=>whnf);refine pbr_f g23 ?_;(conv=>whnf);refine pbr_f g22 ?_;(conv=>whnf);refine pbr_f g23 ?_;(conv=>whnf);refine pbr_f g22 ?_;(conv=>whnf);cases h21;exact ⟨(.cons rfl (.cons rfl (.cons rfl (.cons rfl .nil)))), rfl⟩
              · refine po_all ?_;(conv=>whnf);obtain ⟨r24, h25, h13⟩ := obnd_some h13;refine pw_join (ρ := Bool) (fun e => ⟨[(0, (.string a0)), (3, (.int .i64 e11)), (54, (.bool e))], ⟨0, [], false⟩⟩) r24 ?_ ?_
                · refine pw_ops ?_;refine po_ops 6 ?_;(conv=>whnf);refine pbr_oite h25 (fun g28 h25 => ?_) (fun g28 h25 => ?_)
                  · (conv=>whnf);refine pbr_t g28 ?_;(conv=>whnf);refine pbr_t g28 ?_;(conv=>whnf);obtain ⟨r29, h30, h25⟩ := obnd_some h25;refine po_seg (τ := Bool) 11 (fun e => ⟨[(0, (.string a0)), (3, (.int .i64 e11)), (39, (.bool (!r20))), (40, (.int .i64 e11)), (41, (.bool (ieq e11 (0 : Int)))), (42, (.bool (ieq e11 (0 : Int)))), (53, (.bool e))], ⟨0, [], false⟩⟩) r29 ?_ ?_
                    · refine po_all ?_;(conv=>whnf);refine pbr_oite h30 (fun g31 h30 => ?_) (fun g31 h30 => ?_)
                      · (conv=>whnf);refine pbr_t g31 ?_;(conv=>whnf);refine pbr_t g31 ?_;(conv=>whnf);refine pbr_t g31 ?_;(conv=>whnf);refine pbr_t g28 ?_;(conv=>whnf);refine pbr_t g31 ?_;(conv=>whnf);cases h30;exact ⟨(.cons rfl (.cons rfl (.cons rfl (.cons rfl (.cons rfl (.cons rfl (.cons rfl .nil))))))), rfl⟩
                      · (conv=>whnf);refine pbr_f g31 ?_;(conv=>whnf);refine pbr_f g31 ?_;(conv=>whnf);refine pbr_oite h30 (fun g32 h30 => ?_) (fun g32 h30 => ?_)
                        · (conv=>whnf);refine pbr_t g32 ?_;(conv=>whnf);refine pbr_t g32 ?_;(conv=>whnf);refine pbr_oite h30 (fun g33 h30 => ?_) (fun g33 h30 => ?_)
                          · (conv=>whnf);refine pbr_t g33 ?_;(conv=>whnf);refine pbr_t g32 ?_;(conv=>whnf);refine pbr_t g33 ?_;(conv=>whnf);refine pbr_f g31 ?_;(conv=>whnf);refine pbr_t g32 ?_;(conv=>whnf);refine pbr_t g28 ?_;(conv=>whnf);refine pbr_f g31 ?_;(conv=>whnf);cases h30;exact ⟨(.cons rfl (.cons rfl (.cons rfl (.cons rfl (.cons rfl (.cons rfl (.cons rfl .nil))))))), rfl⟩
                          · (conv=>whnf);refine pbr_f g33 ?_;(conv=>whnf);refine pbr_t g32 ?_;(conv=>whnf);refine pbr_f g33 ?_;(conv=>whnf);refine pbr_f g31 ?_;(conv=>whnf);refine pbr_t g32 ?_;(conv=>whnf);refine pbr_t g28 ?_;(conv=>whnf);refine pbr_f g31 ?_;(conv=>whnf);cases h30;exact ⟨(.cons rfl (.cons rfl (.cons rfl (.cons rfl (.cons rfl (.cons rfl (.cons rfl .nil))))))), rfl⟩
                        · (conv=>whnf);refine pbr_f g32 ?_;(conv=>whnf);refine pbr_f g32 ?_;(conv=>whnf);refine pbr_f g32 ?_;(conv=>whnf);refine pbr_f g31 ?_;(conv=>whnf);refine pbr_f g32 ?_;(conv=>whnf);refine pbr_t g28 ?_;(conv=>whnf);refine pbr_f g31 ?_;(conv=>whnf);cases h30;exact ⟨(.cons rfl (.cons rfl (.cons rfl (.cons rfl (.cons rfl (.cons rfl (.cons rfl .nil))))))), rfl⟩
                    · refine po_all ?_;(conv=>whnf);refine pbr_t g28 ?_;(conv=>whnf);cases h25;exact ⟨(.cons rfl (.cons rfl (.cons rfl .nil))), rfl⟩
                  · (conv=>whnf);refine pbr_f g28 ?_;(conv=>whnf);refine pbr_f g28 ?_;(conv=>whnf);refine po_ops 11 ?_;(conv=>whnf);refine pbr_f g28 ?_;(conv=>whnf);refine po_all ?_;(conv=>whnf);refine pbr_f g28 ?_;(conv=>whnf);cases h25;exact ⟨(.cons rfl (.cons rfl (.cons rfl .nil))), rfl⟩
                · refine pw_cond ?_;(conv=>whnf);refine pbr_oite h13 (fun g34 h13 => ?_) (fun g34 h13 => ?_)
                  · (conv=>whnf);refine pw_so ?_;refine po_all ?_;(conv=>whnf);refine pw_ret ?_;(conv=>whnf);cases h13;refine ⟨_, rfl, ?_⟩; rintro rfl;(conv=>whnf);obtain rfl := h10 _ rfl; rfl
                  · (conv=>whnf);refine pw_skip ?_;(conv=>whnf);refine pw_ops ?_;refine po_all ?_;(conv=>whnf);cases h13;refine ⟨_, rfl, ?_⟩;exact .sub' (Nat.le_of_ble_eq_true rfl) (.cons rfl (.cons rfl .nil))
          · (conv=>whnf);refine pw_exit ?_;(conv=>whnf);cases h13;refine ⟨_, rfl, ?_⟩; rintro rfl;(conv=>whnf);exact ⟨_, rfl, ⟨.nil, rfl⟩⟩
      · intro r37 hr; have H := h9 _ hr;refine pw_so ?_;refine po_all ?_;(conv=>whnf);refine pw_ret ?_;(conv=>whnf);cases H; rfl

/-- guidevane/guidevaneref09.find -/
noncomputable def f92 [LO]  (a0 : List (ByteArray × Int)) (a1 : ByteArray) : Option Int :=
  obndS (
   oloop (τ := Int) (ρ := (Unit) ⊕ Int) (fun e5 =>
    oite ((ilt e5 ((a0.map e_SI).length : Int))) (
     ogrd ((ile 0 e5)) (
     obnd (a0[e5.toNat]?) fun (x10 : ByteArray × Int) =>
     oite ((x10.1.toList == a1.toList)) (
      some (.inr (.inr (e5)))
       ) (
      some (.inl (IntKind.i64.wrap (e5 + (1 : Int))))
       )
     )
      ) (
     some (.inr (.inl ()))
      )
     ) (0 : Int)
    ) fun (_ : Unit) =>
  some (-1 : Int)
set_option maxHeartbeats 1000000 in
theorem c92 [LO]  {a0 : List (ByteArray × Int)} {a1 : ByteArray} {x : Int} (H : f92 a0 a1 = some x) : ICalls E 92 [(VS 2 (a0.map e_SI)), (.string a1)] AHeap.none fun v _ => v = (.int .i64 x) := by
  refine icalls_fn (pfnw ?_); unfold f92 at H;(conv=>whnf);refine pw_so ?_;refine po_all ?_;(conv=>whnf);obtain ⟨r1, h2, h3, h4⟩ := obndS_some H;refine pw_joinS (ρ := Unit) (fun e => ⟨[], ⟨0, [], false⟩⟩) r1 ?_ ?_
  · refine pw_so ?_;refine po_all ?_;(conv=>whnf);refine pw_block ?_;refine pw_loop (τ := Int) (fun e => ⟨[(0, (VS 2 (a0.map e_SI))), (1, (.string a1)), (5, (.int .i64 e))], ⟨0, [], false⟩⟩) h2 ?_ (fun _ => Nat.le_of_ble_eq_true rfl) ?_
    · exact .sub' (Nat.le_of_ble_eq_true rfl) (.cons rfl (.cons rfl (.cons rfl .nil)))
    · intro e5 x6 h7;refine pw_seq ?_;refine pw_so ?_;refine po_all ?_;(conv=>whnf);refine pw_cond ?_;(conv=>whnf);refine pbr_oite h7 (fun g8 h7 => ?_) (fun g8 h7 => ?_)
      · (conv=>whnf);refine pw_skip ?_;(conv=>whnf);refine pw_seq ?_;refine pw_block ?_;refine pw_so ?_;refine po_all ?_;(conv=>whnf);refine pbr_ogrd h7 (fun g9 h7 => ?_);(conv=>whnf);refine nth_o (l := a0) h7 (fun x10 _ h7 => ?_);(conv=>whnf);refine pw_cond ?_;(conv=>whnf);refine pbr_oite h7 (fun g11 h7 => ?_) (fun g11 h7 => ?_)
        · (conv=>whnf);refine pw_so ?_;refine po_all ?_;(conv=>whnf);refine pw_ret ?_;(conv=>whnf);cases h7;refine ⟨_, rfl, ?_⟩; rintro rfl;(conv=>whnf);obtain rfl := h4 _ rfl; rfl
        · (conv=>whnf);refine pw_skip ?_;(conv=>whnf);refine pw_ops ?_;refine po_all ?_;(conv=>whnf);cases h7;refine ⟨_, rfl, ?_⟩;exact .sub' (Nat.le_of_ble_eq_true rfl) (.cons rfl (.cons rfl (.cons rfl .nil)))
      · (conv=>whnf);refine pw_exit ?_;(conv=>whnf);cases h7;refine ⟨_, rfl, ?_⟩; rintro rfl;(conv=>whnf);exact ⟨_, rfl, ⟨.nil, rfl⟩⟩
  · intro r14 hr; have H := h3 _ hr;refine pw_so ?_;refine po_all ?_;(conv=>whnf);refine pw_ret ?_;(conv=>whnf);cases H; rfl

/-- guidevane/guidevaneref09.CheckRules -/
noncomputable def f46 [LO]  (a0 : List Int) (a1 : List Int) (a2 : Int) (a3 : List (ByteArray × Int)) : Option (Int × Int) :=
  obnd (
   oite ((ieq ((a0.map eI).length : Int) (0 : Int))) (
    some true
     ) (
    some (!(ieq ((a1.map eI).length : Int) ((a0.map eI).length : Int)))
     )
    ) fun (r1 : Bool) =>
  oite r1 (
   some ((0 : Int), (10 : Int))
    ) (
   oite ((ilt (5 : Int) ((a0.map eI).length : Int))) (
    some ((0 : Int), (8 : Int))
     ) (
    obndS (
     oloop (τ := Int) (ρ := (Unit) ⊕ (Int × Int)) (fun e12 =>
      oite ((ilt e12 ((a0.map eI).length : Int))) (
       obnd (
        ogrd ((ile 0 e12)) (
        obnd (a0[e12.toNat]?) fun (x21 : Int) =>
        obnd (f15 x21 (1 : Int) (1000000 : Int)) fun (y22 : Bool) =>
        oite (!y22) (
         some true
          ) (
         obnd (a1[e12.toNat]?) fun (x25 : Int) =>
         obnd (f15 x25 (1 : Int) (1000000 : Int)) fun (y26 : Bool) =>
         some (!y26)
          )
        )
         ) fun (r16 : Bool) =>
       oite r16 (
        some (.inr (.inr ((e12, (2 : Int)))))
         ) (
        ogrd ((ile 0 e12)) (
        obnd (a1[e12.toNat]?) fun (x31 : Int) =>
        obnd (a0[e12.toNat]?) fun (x32 : Int) =>
        oite ((ilt x32 x31)) (
         some (.inr (.inr ((e12, (3 : Int)))))
          ) (
         obnd (
          oite ((ilt (0 : Int) e12)) (
           obnd (a0[e12.toNat]?) fun (x40 : Int) =>
           ogrd ((ile 0 (IntKind.i64.wrap (e12 - (1 : Int))))) (
           obnd (a0[(IntKind.i64.wrap (e12 - (1 : Int))).toNat]?) fun (x42 : Int) =>
           oite ((ile x40 x42)) (
            some true
             ) (
            obnd (a1[e12.toNat]?) fun (x44 : Int) =>
            obnd (a1[(IntKind.i64.wrap (e12 - (1 : Int))).toNat]?) fun (x45 : Int) =>
            some (ilt x44 x45)
             )
           )
            ) (
           some false
            )
           ) fun (r35 : Bool) =>
         oite r35 (
          some (.inr (.inr ((e12, (9 : Int)))))
           ) (
          some (.inl (IntKind.i64.wrap (e12 + (1 : Int))))
           )
          )
        )
         )
        ) (
       some (.inr (.inl ()))
        )
       ) (0 : Int)
      ) fun (_ : Unit) =>
    obnd (f15 a2 (0 : Int) (1000000 : Int)) fun (y50 : Bool) =>
    oite (!y50) (
     some ((0 : Int), (2 : Int))
      ) (
     oite ((ilt (10 : Int) ((a3.map e_SI).length : Int))) (
      some ((0 : Int), (8 : Int))
       ) (
      obndS (
       oloop (τ := Int) (ρ := (Unit) ⊕ (Int × Int)) (fun e58 =>
        oite ((ilt e58 ((a3.map e_SI).length : Int))) (
         ogrd ((ile 0 e58)) (
         obnd (a3[e58.toNat]?) fun (x63 : ByteArray × Int) =>
         obnd (f91 x63.1) fun (y64 : Bool) =>
         oite (!y64) (
          some (.inr (.inr ((e58, (4 : Int)))))
           ) (
          obnd (oslH a3 e58) fun (m68 : List (ByteArray × Int)) =>
          obnd (a3[e58.toNat]?) fun (x71 : ByteArray × Int) =>
          obnd (f92 m68 x71.1) fun (y72 : Int) =>
          oite ((ile (0 : Int) y72)) (
           some (.inr (.inr ((e58, (5 : Int)))))
            ) (
           obnd (a3[e58.toNat]?) fun (x76 : ByteArray × Int) =>
           obnd (f15 x76.2 (1 : Int) ((a0.map eI).length : Int)) fun (y77 : Bool) =>
           oite (!y77) (
            some (.inr (.inr ((e58, (2 : Int)))))
             ) (
            some (.inl (IntKind.i64.wrap (e58 + (1 : Int))))
             )
            )
           )
         )
          ) (
         some (.inr (.inl ()))
          )
         ) (0 : Int)
        ) fun (_ : Unit) =>
      some ((0 : Int), (0 : Int))
       )
      )
     )
    )
set_option maxHeartbeats 1000000 in
theorem c46 [LO]  {a0 : List Int} {a1 : List Int} {a2 : Int} {a3 : List (ByteArray × Int)} {x : Int × Int} (H : f46 a0 a1 a2 a3 = some x) : ICalls E 46 [(.agg ⟨[(VS 1 (a0.map eI)), (VS 1 (a1.map eI)), (.int .i64 a2), (VS 2 (a3.map e_SI))]⟩)] AHeap.none fun v _ => v = (.tuple ⟨[(.int .i64 x.1), (.int .i64 x.2)]⟩) := by
  refine icalls_fn (pfnw ?_); unfold f46 at H;(conv=>whnf);refine pw_so ?_;refine po_all ?_;(conv=>whnf);refine pw_seq ?_;obtain ⟨r1, h2, H⟩ := obnd_some H;refine pw_join (ρ := Bool) (fun e => ⟨[(1, (.pointer (some ⟨0, 0, none⟩))), (18, (.bool e))], ⟨1, [(0, .rw [(VS 1 (a0.map eI)), (VS 1 (a1.map eI)), (.int .i64 a2), (VS 2 (a3.map e_SI))])], false⟩⟩) r1 ?_ ?_
  · refine pw_ops ?_;refine po_all ?_;(conv=>whnf);refine pbr_oite h2 (fun g5 h2 => ?_) (fun g5 h2 => ?_)
    · (conv=>whnf);refine pbr_t g5 ?_;(conv=>whnf);refine pbr_t g5 ?_;(conv=>whnf);refine pbr_t g5 ?_;(conv=>whnf);refine pbr_t g5 ?_;(conv=>whnf);refine pbr_t g5 ?_;(conv=>whnf);refine pbr_t g5 ?_;(conv=>whnf);refine pbr_t g5 ?_;(conv=>whnf);cases h2;exact ⟨(.cons rfl (.cons rfl .nil)), rfl⟩
    · (conv=>whnf);refine pbr_f g5 ?_;(conv=>whnf);refine pbr_f g5 ?_;(conv=>whnf);refine pbr_f g5 ?_;(conv=>whnf);refine pbr_f g5 ?_;(conv=>whnf);refine pbr_f g5 ?_;(conv=>whnf);refine pbr_f g5 ?_;(conv=>whnf);refine pbr_f g5 ?_;(conv=>whnf);cases h2;exact ⟨(.cons rfl (.cons rfl .nil)), rfl⟩
  · refine pw_cond ?_;(conv=>whnf);refine pbr_oite H (fun g6 H => ?_) (fun g6 H => ?_)
    · (conv=>whnf);refine pw_so ?_;refine po_all ?_;(conv=>whnf);refine pw_ret ?_;(conv=>whnf);cases H; rfl
    · (conv=>whnf);refine pw_skip ?_;(conv=>whnf);refine pw_seq ?_;refine pw_so ?_;refine po_all ?_;(conv=>whnf);refine pw_cond ?_;(conv=>whnf);refine pbr_oite H (fun g7 H => ?_) (fun g7 H => ?_)
      · (conv=>whnf);refine pw_so ?_;refine po_all ?_;(conv=>whnf);refine pw_ret ?_;(conv=>whnf);cases H; rfl
      · (conv=>whnf);refine pw_skip ?_;(conv=>whnf);obtain ⟨r8, h9, h10, h11⟩ := obndS_some H;refine pw_joinS (ρ := Unit) (fun e => ⟨[(1, (.pointer (some ⟨0, 0, none⟩)))], ⟨1, [(0, .rw [(VS 1 (a0.map eI)), (VS 1 (a1.map eI)), (.int .i64 a2), (VS 2 (a3.map e_SI))])], false⟩⟩) r8 ?_ ?_
        · refine pw_so ?_;refine po_all ?_;(conv=>whnf);refine pw_block ?_;refine pw_loop (τ := Int) (fun e => ⟨[(1, (.pointer (some ⟨0, 0, none⟩))), (4, (.int .i64 e))], ⟨1, [(0, .rw [(VS 1 (a0.map eI)), (VS 1 (a1.map eI)), (.int .i64 a2), (VS 2 (a3.map e_SI))])], false⟩⟩) h9 ?_ (fun _ => Nat.le_of_ble_eq_true rfl) ?_
          · exact .sub' (Nat.le_of_ble_eq_true rfl) (.cons rfl (.cons rfl .nil))
          · intro e12 x13 h14;refine pw_seq ?_;refine pw_so ?_;refine po_all ?_;(conv=>whnf);refine pw_cond ?_;(conv=>whnf);refine pbr_oite h14 (fun g15 h14 => ?_) (fun g15 h14 => ?_)
            · (conv=>whnf);refine pw_skip ?_;(conv=>whnf);refine pw_seq ?_;refine pw_block ?_;refine pw_seq ?_;obtain ⟨r16, h17, h14⟩ := obnd_some h14;refine pw_join (ρ := Bool) (fun e => ⟨[(1, (.pointer (some ⟨0, 0, none⟩))), (4, (.int .i64 e12)), (45, (.bool e))], ⟨1, [(0, .rw [(VS 1 (a0.map eI)), (VS 1 (a1.map eI)), (.int .i64 a2), (VS 2 (a3.map e_SI))])], false⟩⟩) r16 ?_ ?_
              · refine pw_ops ?_;refine po_all ?_;(conv=>whnf);refine pbr_ogrd h17 (fun g20 h17 => ?_);(conv=>whnf);refine nth_o (l := a0) h17 (fun x21 _ h17 => ?_);(conv=>whnf);obtain ⟨y22, h23, h17⟩ := obnd_some h17;refine (c15 h23).go ?_;(conv=>whnf);refine pbr_oite h17 (fun g24 h17 => ?_) (fun g24 h17 => ?_)
                · (conv=>whnf);refine pbr_t g24 ?_;(conv=>whnf);refine pbr_t g24 ?_;(conv=>whnf);refine pbr_t g24 ?_;(conv=>whnf);refine pbr_t g24 ?_;(conv=>whnf);refine pbr_t g24 ?_;(conv=>whnf);refine pbr_t g24 ?_;(conv=>whnf);refine pbr_t g24 ?_;(conv=>whnf);cases h17;exact ⟨(.cons rfl (.cons rfl (.cons rfl .nil))), rfl⟩
                · (conv=>whnf);refine pbr_f g24 ?_;(conv=>whnf);refine pbr_f g24 ?_;(conv=>whnf);refine pbr_f g24 ?_;(conv=>whnf);refine pbr_t g20 ?_;(conv=>whnf);refine nth_o (l := a1) h17 (fun x25 _ h17 => ?_);(conv=>whnf);refine pbr_f g24 ?_;(conv=>whnf);refine pbr_f g24 ?_;(conv=>whnf);obtain ⟨y26, h27, h17⟩ := obnd_some h17;refine (c15 h27).go ?_;(conv=>whnf);refine pbr_f g24 ?_;(conv=>whnf);refine pbr_f g24 ?_;(conv=>whnf);cases h17;exact ⟨(.cons rfl (.cons rfl (.cons rfl .nil))), rfl⟩
              · refine pw_cond ?_;(conv=>whnf);refine pbr_oite h14 (fun g28 h14 => ?_) (fun g28 h14 => ?_)
                · (conv=>whnf);refine pw_so ?_;refine po_all ?_;(conv=>whnf);refine pw_ret ?_;(conv=>whnf);cases h14;refine ⟨_, rfl, ?_⟩; rintro rfl;(conv=>whnf);obtain rfl := h11 _ rfl; rfl
                · (conv=>whnf);refine pw_skip ?_;(conv=>whnf);refine pw_seq ?_;refine pw_sd ?_;(conv=>whnf);refine pbr_ogrd h14 (fun g30 h14 => ?_);(conv=>whnf);refine nth_o (l := a1) h14 (fun x31 _ h14 => ?_);(conv=>whnf);refine pbr_t g30 ?_;(conv=>whnf);refine nth_o (l := a0) h14 (fun x32 _ h14 => ?_);(conv=>whnf);refine pw_cond ?_;(conv=>whnf);refine pbr_oite h14 (fun g33 h14 => ?_) (fun g33 h14 => ?_)
                  · (conv=>whnf);refine pw_so ?_;refine po_all ?_;(conv=>whnf);refine pw_ret ?_;(conv=>whnf);cases h14;refine ⟨_, rfl, ?_⟩; rintro rfl;(conv=>whnf);obtain rfl := h11 _ rfl; rfl
                  · (conv=>whnf);refine pw_skip ?_;(conv=>whnf);obtain ⟨r35, h36, h14⟩ := obnd_some h14;refine pw_join (ρ := Bool) (fun e => ⟨[(1, (.pointer (some ⟨0, 0, none⟩))), (4, (.int .i64 e12)), (88, (.bool e))], ⟨1, [(0, .rw [(VS 1 (a0.map eI)), (VS 1 (a1.map eI)), (.int .i64 a2), (VS 2 (a3.map e_SI))])], false⟩⟩) r35 ?_ ?_
                    · refine pw_draw ?_;(conv=>whnf);refine pbr_oite h36 (fun g39 h36 => ?_) (fun g39 h36 => ?_)
                      · (conv=>whnf);refine pbr_t g39 ?_;(conv=>whnf);refine pbr_t g39 ?_;(conv=>whnf);refine pbr_t g39 ?_;(conv=>whnf);refine pbr_t g30 ?_;(conv=>whnf);refine nth_o (l := a0) h36 (fun x40 _ h36 => ?_);(conv=>whnf);refine pbr_t g39 ?_;(conv=>whnf);refine pbr_t g39 ?_;(conv=>whnf);refine pbr_t g39 ?_;(conv=>whnf);refine pbr_t g39 ?_;(conv=>whnf);refine pbr_t g39 ?_;(conv=>whnf);refine pbr_t g39 ?_;(conv=>whnf);refine pbr_ogrd h36 (fun g41 h36 => ?_);(conv=>whnf);refine nth_o (l := a0) h36 (fun x42 _ h36 => ?_);(conv=>whnf);refine pbr_t g39 ?_;(conv=>whnf);refine pbr_t g39 ?_;(conv=>whnf);refine pbr_t g39 ?_
                        (conv=>whnf);refine pbr_oite h36 (fun g43 h36 => ?_) (fun g43 h36 => ?_)
                        · (conv=>whnf);refine pbr_t g43 ?_;(conv=>whnf);refine pbr_t g43 ?_;(conv=>whnf);refine pbr_t g43 ?_;(conv=>whnf);refine pbr_t g43 ?_;(conv=>whnf);refine pbr_t g43 ?_;(conv=>whnf);refine pbr_t g43 ?_;(conv=>whnf);refine pbr_t g43 ?_;(conv=>whnf);refine pbr_t g43 ?_;(conv=>whnf);refine pbr_t g43 ?_;(conv=>whnf);refine pbr_t g43 ?_;(conv=>whnf);refine pbr_t g43 ?_;(conv=>whnf);refine pbr_t g39 ?_;(conv=>whnf);refine pbr_t g43 ?_;(conv=>whnf);refine pbr_t g39 ?_;(conv=>whnf);cases h36;exact ⟨(.cons rfl (.cons rfl (.cons rfl .nil))), rfl⟩
                        · (conv=>whnf);refine pbr_f g43 ?_;(conv=>whnf);refine pbr_f g43 ?_;(conv=>whnf);refine pbr_f g43 ?_;(conv=>whnf);refine pbr_t g30 ?_;(conv=>whnf);refine nth_o (l := a1) h36 (fun x44 _ h36 => ?_);(conv=>whnf);refine pbr_f g43 ?_;(conv=>whnf);refine pbr_f g43 ?_;(conv=>whnf);refine pbr_f g43 ?_;(conv=>whnf);refine pbr_f g43 ?_;(conv=>whnf);refine pbr_f g43 ?_;(conv=>whnf);refine pbr_f g43 ?_;(conv=>whnf);refine pbr_t g41 ?_;(conv=>whnf);refine nth_o (l := a1) h36 (fun x45 _ h36 => ?_);(conv=>whnf);refine pbr_f g43 ?_;(conv=>whnf);refine pbr_f g43 ?_;(conv=>whnf);refine pbr_t g39 ?_;(conv=>whnf);refine pbr_f g43 ?_
                          (conv=>whnf);refine pbr_t g39 ?_;(conv=>whnf);cases h36;exact ⟨(.cons rfl (.cons rfl (.cons rfl .nil))), rfl⟩
                      · (conv=>whnf);refine pbr_f g39 ?_;(conv=>whnf);refine pbr_f g39 ?_;(conv=>whnf);refine pbr_f g39 ?_;(conv=>whnf);refine pbr_f g39 ?_;(conv=>whnf);refine pbr_f g39 ?_;(conv=>whnf);refine pbr_f g39 ?_;(conv=>whnf);refine pbr_f g39 ?_;(conv=>whnf);refine pbr_f g39 ?_;(conv=>whnf);refine pbr_f g39 ?_;(conv=>whnf);refine pbr_f g39 ?_;(conv=>whnf);refine pbr_f g39 ?_;(conv=>whnf);refine pbr_f g39 ?_;(conv=>whnf);refine pbr_f g39 ?_;(conv=>whnf);refine pbr_f g39 ?_;(conv=>whnf);cases h36;exact ⟨(.cons rfl (.cons rfl (.cons rfl .nil))), rfl⟩
                    · refine pw_cond ?_;(conv=>whnf);refine pbr_oite h14 (fun g46 h14 => ?_) (fun g46 h14 => ?_)
                      · (conv=>whnf);refine pw_so ?_;refine po_all ?_;(conv=>whnf);refine pw_ret ?_;(conv=>whnf);cases h14;refine ⟨_, rfl, ?_⟩; rintro rfl;(conv=>whnf);obtain rfl := h11 _ rfl; rfl
                      · (conv=>whnf);refine pw_skip ?_;(conv=>whnf);refine pw_ops ?_;refine po_all ?_;(conv=>whnf);cases h14;refine ⟨_, rfl, ?_⟩;exact .sub' (Nat.le_of_ble_eq_true rfl) (.cons rfl (.cons rfl .nil))
            · (conv=>whnf);refine pw_exit ?_;(conv=>whnf);cases h14;refine ⟨_, rfl, ?_⟩; rintro rfl;(conv=>whnf);exact ⟨_, rfl, ⟨(.cons rfl .nil), rfl⟩⟩
        · intro r49 hr; have H := h10 _ hr;refine pw_seq ?_;refine pw_so ?_;refine po_all ?_;(conv=>whnf);obtain ⟨y50, h51, H⟩ := obnd_some H;refine (c15 h51).go ?_;(conv=>whnf);refine pw_cond ?_;(conv=>whnf);refine pbr_oite H (fun g52 H => ?_) (fun g52 H => ?_)
          · (conv=>whnf);refine pw_so ?_;refine po_all ?_;(conv=>whnf);refine pw_ret ?_;(conv=>whnf);cases H; rfl
          · (conv=>whnf);refine pw_skip ?_;(conv=>whnf);refine pw_seq ?_;refine pw_so ?_;refine po_all ?_;(conv=>whnf);refine pw_cond ?_;(conv=>whnf);refine pbr_oite H (fun g53 H => ?_) (fun g53 H => ?_)
            · (conv=>whnf);refine pw_so ?_;refine po_all ?_;(conv=>whnf);refine pw_ret ?_;(conv=>whnf);cases H; rfl
            · (conv=>whnf);refine pw_skip ?_;(conv=>whnf);obtain ⟨r54, h55, h56, h57⟩ := obndS_some H;refine pw_joinS (ρ := Unit) (fun e => ⟨[], ⟨1, [(0, .rw [(VS 1 (a0.map eI)), (VS 1 (a1.map eI)), (.int .i64 a2), (VS 2 (a3.map e_SI))])], false⟩⟩) r54 ?_ ?_
              · refine pw_so ?_;refine po_all ?_;(conv=>whnf);refine pw_block ?_;refine pw_loop (τ := Int) (fun e => ⟨[(1, (.pointer (some ⟨0, 0, none⟩))), (5, (.int .i64 e))], ⟨1, [(0, .rw [(VS 1 (a0.map eI)), (VS 1 (a1.map eI)), (.int .i64 a2), (VS 2 (a3.map e_SI))])], false⟩⟩) h55 ?_ (fun _ => Nat.le_of_ble_eq_true rfl) ?_
                · exact .sub' (Nat.le_of_ble_eq_true rfl) (.cons rfl (.cons rfl .nil))
                · intro e58 x59 h60;refine pw_seq ?_;refine pw_so ?_;refine po_all ?_;(conv=>whnf);refine pw_cond ?_;(conv=>whnf);refine pbr_oite h60 (fun g61 h60 => ?_) (fun g61 h60 => ?_)
                  · (conv=>whnf);refine pw_skip ?_;(conv=>whnf);refine pw_seq ?_;refine pw_block ?_;refine pw_seq ?_;refine pw_so ?_;refine po_all ?_;(conv=>whnf);refine pbr_ogrd h60 (fun g62 h60 => ?_);(conv=>whnf);refine nth_o (l := a3) h60 (fun x63 _ h60 => ?_);(conv=>whnf);obtain ⟨y64, h65, h60⟩ := obnd_some h60;refine (c91 h65).go ?_;(conv=>whnf);refine pw_cond ?_;(conv=>whnf);refine pbr_oite h60 (fun g66 h60 => ?_) (fun g66 h60 => ?_)
                    · (conv=>whnf);refine pw_so ?_;refine po_all ?_;(conv=>whnf);refine pw_ret ?_;(conv=>whnf);cases h60;refine ⟨_, rfl, ?_⟩; rintro rfl;(conv=>whnf);obtain rfl := h57 _ rfl; rfl
                    · (conv=>whnf);refine pw_skip ?_;(conv=>whnf);refine pw_seq ?_;refine pw_sd ?_;(conv=>whnf);refine oslH_o (f := e_SI) h60 (fun m68 _ h60 h69 h70 => ?_);refine pbr_t (ile_t h69.1) ?_;(conv=>whnf);refine pbr_t (ile_t (by simpa only [List.length_map] using h69.2)) ?_; rw [h70];(conv=>whnf);refine pbr_t g62 ?_;(conv=>whnf);refine nth_o (l := a3) h60 (fun x71 _ h60 => ?_);(conv=>whnf);refine ⟨?_, trivial⟩;(conv=>whnf);obtain ⟨y72, h73, h60⟩ := obnd_some h60;refine (c92 h73).go ?_;(conv=>whnf);refine ⟨by repeat (first | exact trivial | refine And.intro rfl ?_), ?_⟩;(conv=>whnf);refine pw_cond ?_;(conv=>whnf)
                      refine pbr_oite h60 (fun g74 h60 => ?_) (fun g74 h60 => ?_)
                      · (conv=>whnf);refine pw_so ?_;refine po_all ?_;(conv=>whnf);refine pw_ret ?_;(conv=>whnf);cases h60;refine ⟨_, rfl, ?_⟩; rintro rfl;(conv=>whnf);obtain rfl := h57 _ rfl; rfl
                      · (conv=>whnf);refine pw_skip ?_;(conv=>whnf);refine pw_sd ?_;(conv=>whnf);refine pbr_t g62 ?_;(conv=>whnf);refine nth_o (l := a3) h60 (fun x76 _ h60 => ?_);(conv=>whnf);refine ⟨?_, trivial⟩;(conv=>whnf);obtain ⟨y77, h78, h60⟩ := obnd_some h60;refine (c15 h78).go ?_;(conv=>whnf);refine ⟨by repeat (first | exact trivial | refine And.intro rfl ?_), ?_⟩;(conv=>whnf);refine pw_cond ?_;(conv=>whnf);refine pbr_oite h60 (fun g79 h60 => ?_) (fun g79 h60 => ?_)
                        · (conv=>whnf);refine pw_so ?_;refine po_all ?_;(conv=>whnf);refine pw_ret ?_;(conv=>whnf);cases h60;refine ⟨_, rfl, ?_⟩; rintro rfl;(conv=>whnf);obtain rfl := h57 _ rfl; rfl
                        · (conv=>whnf);refine pw_skip ?_;(conv=>whnf);refine pw_ops ?_;refine po_all ?_;(conv=>whnf);cases h60;refine ⟨_, rfl, ?_⟩;exact .sub' (Nat.le_of_ble_eq_true rfl) (.cons rfl (.cons rfl .nil))
                  · (conv=>whnf);refine pw_exit ?_;(conv=>whnf);cases h60;refine ⟨_, rfl, ?_⟩; rintro rfl;(conv=>whnf);exact ⟨_, rfl, ⟨.nil, rfl⟩⟩
              · intro r82 hr; have H := h56 _ hr;refine pw_so ?_;refine po_all ?_;(conv=>whnf);refine pw_ret ?_;(conv=>whnf);cases H; rfl

/-- guidevane/guidevaneref09.RulesErr -/
noncomputable def f39 [LO]  (a0 : List Int) (a1 : List Int) (a2 : Int) (a3 : List (ByteArray × Int)) : Option Int :=
  obnd (f46 a0 a1 a2 a3) fun (y1 : Int × Int) =>
  some y1.2
set_option maxHeartbeats 1000000 in
theorem c39 [LO]  {a0 : List Int} {a1 : List Int} {a2 : Int} {a3 : List (ByteArray × Int)} {x : Int} (H : f39 a0 a1 a2 a3 = some x) : ICalls E 39 [(.agg ⟨[(VS 1 (a0.map eI)), (VS 1 (a1.map eI)), (.int .i64 a2), (VS 2 (a3.map e_SI))]⟩)] AHeap.none fun v _ => v = (.int .i64 x) := by
  refine icalls_fn (pfnw ?_); unfold f39 at H;(conv=>whnf);refine pw_so ?_;refine po_all ?_;(conv=>whnf);refine pw_so ?_;refine po_all ?_;(conv=>whnf);obtain ⟨y1, h2, H⟩ := obnd_some H;refine (c46 h2).go ?_;(conv=>whnf);refine pw_so ?_;refine po_all ?_;(conv=>whnf);refine pw_ret ?_;(conv=>whnf);cases H; rfl

/-- guidevane/guidevaneref09.ParseRules -/
noncomputable def f379 [LO]  (a0 : ByteArray) : Option ((List Int) × (List Int) × Int × (List (ByteArray × Int)) × Int) :=
  oite ((ilt (60000 : Int) (a0.size : Int))) (
   some (([] : List Int), ([] : List Int), (0 : Int), ([] : List (ByteArray × Int)), (8 : Int))
    ) (
   obnd (f386 a0 (59 : Int)) fun (y2 : (List ByteArray)) =>
   obnd (y2[(0 : Int).toNat]?) fun (x4 : ByteArray) =>
   obnd (f391 x4) fun (y5 : Int × Bool) =>
   obnd (
    oite (!y5.2) (
     some true
      ) (
     some (ilt ((y2.map eS).length : Int) (2 : Int))
      )
     ) fun (r7 : Bool) =>
   oite r7 (
    some (([] : List Int), ([] : List Int), (0 : Int), ([] : List (ByteArray × Int)), (7 : Int))
     ) (
    obndS (
     oloop (τ := Int × (List Int) × (List Int) × (List (ByteArray × Int))) (ρ := ((List Int) × (List Int) × (List (ByteArray × Int))) ⊕ ((List Int) × (List Int) × Int × (List (ByteArray × Int)) × Int)) (fun e17 =>
      oite ((ilt e17.1 ((y2.map eS).length : Int))) (
       ogrd ((ile 0 e17.1)) (
       obnd (y2[e17.1.toNat]?) fun (x22 : ByteArray) =>
       obnd (f386 x22 (32 : Int)) fun (y23 : (List ByteArray)) =>
       oite ((!(ieq ((y23.map eS).length : Int) (2 : Int)))) (
        some (.inr (.inr ((([] : List Int), ([] : List Int), (0 : Int), ([] : List (ByteArray × Int)), (7 : Int)))))
         ) (
        obnd (y23[(1 : Int).toNat]?) fun (x27 : ByteArray) =>
        obnd (f391 x27) fun (y28 : Int × Bool) =>
        oite (!y28.2) (
         some (.inr (.inr ((([] : List Int), ([] : List Int), (0 : Int), ([] : List (ByteArray × Int)), (7 : Int)))))
          ) (
         obnd (y23[(0 : Int).toNat]?) fun (x32 : ByteArray) =>
         obnd (f392 x32) fun (y33 : Bool) =>
         oite y33 (
          obnd (y23[(0 : Int).toNat]?) fun (x36 : ByteArray) =>
          ogrd (fits 24 (e17.2.2.2.length + ([(x36, y28.1)] : List (ByteArray × Int)).length)) (
          some (.inl (((IntKind.i64.wrap (e17.1 + (1 : Int))), e17.2.1, e17.2.2.1, (e17.2.2.2 ++ ([(x36, y28.1)] : List (ByteArray × Int))))))
          )
           ) (
          obnd (y23[(0 : Int).toNat]?) fun (x37 : ByteArray) =>
          obnd (f391 x37) fun (y38 : Int × Bool) =>
          obnd (
           oite (!y38.2) (
            some true
             ) (
            some (ilt (0 : Int) ((e17.2.2.2.map e_SI).length : Int))
             )
            ) fun (r40 : Bool) =>
          oite r40 (
           some (.inr (.inr ((([] : List Int), ([] : List Int), (0 : Int), ([] : List (ByteArray × Int)), (7 : Int)))))
            ) (
           ogrd (fits 8 (e17.2.1.length + ([y38.1] : List Int).length)) (
           ogrd (fits 8 (e17.2.2.1.length + ([y28.1] : List Int).length)) (
           some (.inl (((IntKind.i64.wrap (e17.1 + (1 : Int))), (e17.2.1 ++ ([y38.1] : List Int)), (e17.2.2.1 ++ ([y28.1] : List Int)), e17.2.2.2)))
           )
           )
            )
           )
          )
         )
       )
        ) (
       some (.inr (.inl (e17.2.1, e17.2.2.1, e17.2.2.2)))
        )
       ) (((1 : Int), ([] : List Int), ([] : List Int), ([] : List (ByteArray × Int))))
      ) fun (r48 : (List Int) × (List Int) × (List (ByteArray × Int))) =>
    obnd (f39 r48.1 r48.2.1 y5.1 r48.2.2) fun (y49 : Int) =>
    oite ((!(ieq y49 (0 : Int)))) (
     some (([] : List Int), ([] : List Int), (0 : Int), ([] : List (ByteArray × Int)), y49)
      ) (
     some (r48.1, r48.2.1, y5.1, r48.2.2, (0 : Int))
      )
     )
    )
set_option maxHeartbeats 1000000 in
theorem c379 [LO]  {a0 : ByteArray} {x : (List Int) × (List Int) × Int × (List (ByteArray × Int)) × Int} (H : f379 a0 = some x) : ICalls E 379 [(.string a0)] AHeap.none fun v _ => v = (.tuple ⟨[(.agg ⟨[(VS 1 (x.1.map eI)), (VS 1 (x.2.1.map eI)), (.int .i64 x.2.2.1), (VS 2 (x.2.2.2.1.map e_SI))]⟩), (.int .i64 x.2.2.2.2)]⟩) := by
  refine ICalls.frz ?_;refine icalls_fn (pfnw ?_); unfold f379 at H;(conv=>whnf);refine pw_so ?_;refine po_all ?_;(conv=>whnf);refine pw_so ?_;refine po_all ?_;(conv=>whnf);refine pw_seq ?_;refine pw_so ?_;refine po_all ?_;(conv=>whnf);refine pw_cond ?_;(conv=>whnf);refine pbr_oite H (fun g1 H => ?_) (fun g1 H => ?_)
  · (conv=>whnf);refine pw_so ?_;refine po_all ?_;(conv=>whnf);refine pw_ret ?_;(conv=>whnf);cases H; show ∃ D, Fz _ D 0 (.tuple ⟨[(.agg ⟨[(.slice none 0 0), (.slice none 0 0), (.int .i64 0), (.slice none 0 0)]⟩), (.int .i64 8)]⟩) _;exact ⟨fun _ => false, .tuplel (.cons (.aggl (.cons (.nil _) (.cons (.nil _) (.cons .cl (.cons (.nil _) (.nil)))))) (.cons .cl (.nil)))⟩
  · (conv=>whnf);refine pw_skip ?_;(conv=>whnf);refine pw_so ?_;refine po_all ?_;(conv=>whnf);obtain ⟨y2, h3, H⟩ := obnd_some H;refine (c386 h3).go ?_;(conv=>whnf);refine pw_so ?_;refine po_all ?_;(conv=>whnf);refine nth_o (l := y2) H (fun x4 _ H => ?_);(conv=>whnf);obtain ⟨y5, h6, H⟩ := obnd_some H;refine (c391 h6).go ?_;(conv=>whnf);refine pw_seq ?_;obtain ⟨r7, h8, H⟩ := obnd_some H;refine pw_join (ρ := Bool) (fun e => ⟨[(2, (.pointer (some ⟨0, 0, none⟩))), (4, (.pointer (some ⟨1, 0, none⟩))), (5, (VS 1 (y2.map eS))), (6, (.int .i64 y5.1)), (36, (.bool e))], ⟨2, [(1, .rw [(.slice none 0 0), (.slice none 0 0), (.int .i64 0), (.slice none 0 0)]), (0, .rw [(.slice none 0 0), (.slice none 0 0), (.int .i64 0), (.slice none 0 0)])], false⟩⟩) r7 ?_ ?_
    · refine pw_ops ?_;refine po_all ?_;(conv=>whnf);refine pbr_oite h8 (fun g11 h8 => ?_) (fun g11 h8 => ?_)
      · (conv=>whnf);refine pbr_t g11 ?_;(conv=>whnf);refine pbr_t g11 ?_;(conv=>whnf);refine pbr_t g11 ?_;(conv=>whnf);cases h8;exact ⟨(.cons rfl (.cons rfl (.cons rfl (.cons rfl (.cons rfl .nil))))), rfl⟩
      · (conv=>whnf);refine pbr_f g11 ?_;(conv=>whnf);refine pbr_f g11 ?_;(conv=>whnf);refine pbr_f g11 ?_;(conv=>whnf);cases h8;exact ⟨(.cons rfl (.cons rfl (.cons rfl (.cons rfl (.cons rfl .nil))))), rfl⟩
    · refine pw_cond ?_;(conv=>whnf);refine pbr_oite H (fun g12 H => ?_) (fun g12 H => ?_)
      · (conv=>whnf);refine pw_so ?_;refine po_all ?_;(conv=>whnf);refine pw_ret ?_;(conv=>whnf);cases H; show ∃ D, Fz _ D 0 (.tuple ⟨[(.agg ⟨[(.slice none 0 0), (.slice none 0 0), (.int .i64 0), (.slice none 0 0)]⟩), (.int .i64 7)]⟩) _;exact ⟨fun _ => false, .tuplel (.cons (.aggl (.cons (.nil _) (.cons (.nil _) (.cons .cl (.cons (.nil _) (.nil)))))) (.cons .cl (.nil)))⟩
      · (conv=>whnf);refine pw_skip ?_;(conv=>whnf);refine pw_so ?_;refine po_all ?_;(conv=>whnf);obtain ⟨r13, h14, h15, h16⟩ := obndS_some H;refine pw_joinS (ρ := (List Int) × (List Int) × (List (ByteArray × Int))) (fun e => ⟨[(2, (.pointer (some ⟨0, 0, none⟩))), (4, (.pointer (some ⟨1, 0, none⟩))), (8, (.pointer (some ⟨2, 0, none⟩)))], ⟨6, [(5, .tail (e.2.2.map e_SI).length 2), (4, .tail (e.2.1.map eI).length 1), (3, .tail (e.1.map eI).length 1), (2, .rw [(VT 1 (e.1.map eI) 3), (VT 1 (e.2.1.map eI) 4), (.int .i64 y5.1), (VT 2 (e.2.2.map e_SI) 5)]), (1, .rw [(.slice none 0 0), (.slice none 0 0), (.int .i64 0), (.slice none 0 0)]), (0, .rw [(.slice none 0 0), (.slice none 0 0), (.int .i64 0), (.slice none 0 0)])], false⟩⟩) r13 ?_ ?_
        · refine pw_so ?_;refine po_all ?_;(conv=>whnf);refine pw_block ?_;refine pw_loop (τ := Int × (List Int) × (List Int) × (List (ByteArray × Int))) (fun e => ⟨[(2, (.pointer (some ⟨0, 0, none⟩))), (4, (.pointer (some ⟨1, 0, none⟩))), (5, (VS 1 (y2.map eS))), (8, (.pointer (some ⟨2, 0, none⟩))), (9, (.int .i64 e.1))], ⟨6, [(5, .tail (e.2.2.2.map e_SI).length 2), (4, .tail (e.2.2.1.map eI).length 1), (3, .tail (e.2.1.map eI).length 1), (2, .rw [(VT 1 (e.2.1.map eI) 3), (VT 1 (e.2.2.1.map eI) 4), (.int .i64 y5.1), (VT 2 (e.2.2.2.map e_SI) 5)]), (1, .rw [(.slice none 0 0), (.slice none 0 0), (.int .i64 0), (.slice none 0 0)]), (0, .rw [(.slice none 0 0), (.slice none 0 0), (.int .i64 0), (.slice none 0 0)])], false⟩⟩) h14 ?_ (fun _ => Nat.le_of_ble_eq_true rfl) ?_
          · refine Recast.trans (s' := ⟨[(2, (.pointer (some ⟨0, 0, none⟩))), (4, (.pointer (some ⟨1, 0, none⟩))), (5, (VS 1 (y2.map eS))), (8, (.pointer (some ⟨2, 0, none⟩))), (9, (.int .i64 1))], ⟨4, [(3, .tail 0 1), (2, .rw [(VT 1 (([] : List Int).map eI) 3), (.slice none 0 0), (.int .i64 y5.1), (.slice none 0 0)]), (1, .rw [(.slice none 0 0), (.slice none 0 0), (.int .i64 0), (.slice none 0 0)]), (0, .rw [(.slice none 0 0), (.slice none 0 0), (.int .i64 0), (.slice none 0 0)])], false⟩⟩) ((Recast.sub' (Nat.le_of_ble_eq_true rfl) (.cons rfl (.cons rfl (.cons rfl (.cons rfl (.cons rfl .nil))))) : Recast _ _ ⟨[(2, (.pointer (some ⟨0, 0, none⟩))), (4, (.pointer (some ⟨1, 0, none⟩))), (5, (VS 1 (y2.map eS))), (8, (.pointer (some ⟨2, 0, none⟩))), (9, (.int .i64 1))], ⟨3, [(2, .rw [(.slice none 0 0), (.slice none 0 0), (.int .i64 y5.1), (.slice none 0 0)]), (1, .rw [(.slice none 0 0), (.slice none 0 0), (.int .i64 0), (.slice none 0 0)]), (0, .rw [(.slice none 0 0), (.slice none 0 0), (.int .i64 0), (.slice none 0 0)])], false⟩⟩).trans (Recast.nilM 1 2 (Nat.le_of_ble_eq_true rfl) rfl (Nat.le_of_ble_eq_true rfl) rfl (.turn (.same (.same (.same .nil)))) rfl)) ?_
            refine Recast.trans (s' := ⟨[(2, (.pointer (some ⟨0, 0, none⟩))), (4, (.pointer (some ⟨1, 0, none⟩))), (5, (VS 1 (y2.map eS))), (8, (.pointer (some ⟨2, 0, none⟩))), (9, (.int .i64 1))], ⟨5, [(4, .tail 0 1), (3, .tail 0 1), (2, .rw [(VT 1 (([] : List Int).map eI) 3), (VT 1 (([] : List Int).map eI) 4), (.int .i64 y5.1), (.slice none 0 0)]), (1, .rw [(.slice none 0 0), (.slice none 0 0), (.int .i64 0), (.slice none 0 0)]), (0, .rw [(.slice none 0 0), (.slice none 0 0), (.int .i64 0), (.slice none 0 0)])], false⟩⟩) (Recast.nilM 1 2 (Nat.le_of_ble_eq_true rfl) rfl (Nat.le_of_ble_eq_true rfl) rfl (.same (.turn (.same (.same .nil)))) rfl) ?_
            exact (Recast.nilM 2 2 (Nat.le_of_ble_eq_true rfl) rfl (Nat.le_of_ble_eq_true rfl) rfl (.same (.same (.same (.turn .nil)))) rfl)
          · intro e17 x18 h19;refine pw_seq ?_;refine pw_so ?_;refine po_all ?_;(conv=>whnf);refine pw_cond ?_;(conv=>whnf);refine pbr_oite h19 (fun g20 h19 => ?_) (fun g20 h19 => ?_)
            · (conv=>whnf);refine pw_skip ?_;(conv=>whnf);refine pw_seq ?_;refine pw_block ?_;refine pw_so ?_;refine po_all ?_;(conv=>whnf);refine pbr_ogrd h19 (fun g21 h19 => ?_);(conv=>whnf);refine nth_o (l := y2) h19 (fun x22 _ h19 => ?_);(conv=>whnf);obtain ⟨y23, h24, h19⟩ := obnd_some h19;refine (c386 h24).go ?_;(conv=>whnf);refine pw_seq ?_;refine pw_so ?_;refine po_all ?_;(conv=>whnf);refine pw_cond ?_;(conv=>whnf);refine pbr_oite h19 (fun g25 h19 => ?_) (fun g25 h19 => ?_)
              · (conv=>whnf);refine pw_so ?_;refine po_all ?_;(conv=>whnf);refine pw_ret ?_;(conv=>whnf);cases h19;refine ⟨_, rfl, ?_⟩; rintro rfl;(conv=>whnf);obtain rfl := h16 _ rfl; show ∃ D, Fz _ D 0 (.tuple ⟨[(.agg ⟨[(.slice none 0 0), (.slice none 0 0), (.int .i64 0), (.slice none 0 0)]⟩), (.int .i64 7)]⟩) _;exact ⟨fun _ => false, .tuplel (.cons (.aggl (.cons (.nil _) (.cons (.nil _) (.cons .cl (.cons (.nil _) (.nil)))))) (.cons .cl (.nil)))⟩
              · (conv=>whnf);refine pw_skip ?_;(conv=>whnf);refine pw_so ?_;refine po_all ?_;(conv=>whnf);refine nth_o (l := y23) h19 (fun x27 _ h19 => ?_);(conv=>whnf);obtain ⟨y28, h29, h19⟩ := obnd_some h19;refine (c391 h29).go ?_;(conv=>whnf);refine pw_seq ?_;refine pw_so ?_;refine po_all ?_;(conv=>whnf);refine pw_cond ?_;(conv=>whnf);refine pbr_oite h19 (fun g30 h19 => ?_) (fun g30 h19 => ?_)
                · (conv=>whnf);refine pw_so ?_;refine po_all ?_;(conv=>whnf);refine pw_ret ?_;(conv=>whnf);cases h19;refine ⟨_, rfl, ?_⟩; rintro rfl;(conv=>whnf);obtain rfl := h16 _ rfl; show ∃ D, Fz _ D 0 (.tuple ⟨[(.agg ⟨[(.slice none 0 0), (.slice none 0 0), (.int .i64 0), (.slice none 0 0)]⟩), (.int .i64 7)]⟩) _;exact ⟨fun _ => false, .tuplel (.cons (.aggl (.cons (.nil _) (.cons (.nil _) (.cons .cl (.cons (.nil _) (.nil)))))) (.cons .cl (.nil)))⟩
                · (conv=>whnf);refine pw_skip ?_;(conv=>whnf);refine pw_seq ?_;refine pw_so ?_;refine po_all ?_;(conv=>whnf);refine nth_o (l := y23) h19 (fun x32 _ h19 => ?_);(conv=>whnf);obtain ⟨y33, h34, h19⟩ := obnd_some h19;refine (c392 h34).go ?_;(conv=>whnf);refine pw_cond ?_;(conv=>whnf);refine pbr_oite h19 (fun g35 h19 => ?_) (fun g35 h19 => ?_)
                  · (conv=>whnf);refine pw_sd ?_;(conv=>whnf);refine nth_o (l := y23) h19 (fun x36 _ h19 => ?_);(conv=>whnf);refine ⟨?_, trivial⟩;(conv=>whnf);refine ⟨by repeat (first | exact trivial | refine And.intro rfl ?_), ?_⟩;(conv=>whnf);refine ⟨?_, trivial⟩;(conv=>whnf);refine app_o (l := e17.2.2.2) (m := ([(x36, y28.1)] : List (ByteArray × Int))) (f := e_SI) h19 (by rfl) (by rfl) (by rfl) (fun h19 => ?_);(conv=>whnf);refine ⟨by repeat (first | exact trivial | refine And.intro rfl ?_), ?_⟩;(conv=>whnf);refine ⟨?_, trivial⟩;(conv=>whnf);refine ⟨by repeat (first | exact trivial | refine And.intro rfl ?_), ?_⟩
                    (conv=>whnf);refine pw_exit ?_;(conv=>whnf);refine pw_ops ?_;refine po_all ?_;(conv=>whnf);cases h19;refine ⟨_, rfl, ?_⟩;exact Recast.fz (fun _ => false) (Nat.le_of_ble_eq_true rfl) (.cons (.same rfl rfl (OBnd.tail (Nat.le_of_ble_eq_true rfl))) (.cons (.same rfl rfl (OBnd.tail (Nat.le_of_ble_eq_true rfl))) (.cons (.same rfl rfl (OBnd.tail (Nat.le_of_ble_eq_true rfl))) (.cons (.same rfl rfl (OBnd.rwl (Nat.le_of_ble_eq_true rfl) rfl (.cons (.vt (Nat.le_of_ble_eq_true rfl)) (.cons (.vt (Nat.le_of_ble_eq_true rfl)) (.cons .cl (.cons (.vt (Nat.le_of_ble_eq_true rfl)) .nil)))))) (.cons (.same rfl rfl (OBnd.rwl (Nat.le_of_ble_eq_true rfl) rfl (.cons .cl (.cons .cl (.cons .cl (.cons .cl .nil)))))) (.cons (.same rfl rfl (OBnd.rwl (Nat.le_of_ble_eq_true rfl) rfl (.cons .cl (.cons .cl (.cons .cl (.cons .cl .nil)))))) .nil)))))) (.cons rfl (.same _ (.ptr (Nat.le_of_ble_eq_true rfl))) (.cons rfl (.same _ (.ptr (Nat.le_of_ble_eq_true rfl))) (.cons rfl (.same _ .cl) (.cons rfl (.same _ (.ptr (Nat.le_of_ble_eq_true rfl))) (.cons rfl (.same _ .cl) .nil)))))
                  · (conv=>whnf);refine pw_skip ?_;(conv=>whnf);refine pw_so ?_;refine po_all ?_;(conv=>whnf);refine nth_o (l := y23) h19 (fun x37 _ h19 => ?_);(conv=>whnf);obtain ⟨y38, h39, h19⟩ := obnd_some h19;refine (c391 h39).go ?_;(conv=>whnf);refine pw_seq ?_;obtain ⟨r40, h41, h19⟩ := obnd_some h19;refine pw_join (ρ := Bool) (fun e => ⟨[(2, (.pointer (some ⟨0, 0, none⟩))), (4, (.pointer (some ⟨1, 0, none⟩))), (5, (VS 1 (y2.map eS))), (8, (.pointer (some ⟨2, 0, none⟩))), (9, (.int .i64 e17.1)), (11, (.int .i64 y28.1)), (13, (.int .i64 y38.1)), (93, (.bool e))], ⟨6, [(5, .tail (e17.2.2.2.map e_SI).length 2), (4, .tail (e17.2.2.1.map eI).length 1), (3, .tail (e17.2.1.map eI).length 1), (2, .rw [(VT 1 (e17.2.1.map eI) 3), (VT 1 (e17.2.2.1.map eI) 4), (.int .i64 y5.1), (VT 2 (e17.2.2.2.map e_SI) 5)]), (1, .rw [(.slice none 0 0), (.slice none 0 0), (.int .i64 0), (.slice none 0 0)]), (0, .rw [(.slice none 0 0), (.slice none 0 0), (.int .i64 0), (.slice none 0 0)])], false⟩⟩) r40 ?_ ?_
                    · refine pw_ops ?_;refine po_all ?_;(conv=>whnf);refine pbr_oite h41 (fun g44 h41 => ?_) (fun g44 h41 => ?_)
                      · (conv=>whnf);refine pbr_t g44 ?_;(conv=>whnf);refine pbr_t g44 ?_;(conv=>whnf);refine pbr_t g44 ?_;(conv=>whnf);refine pbr_t g44 ?_;(conv=>whnf);cases h41;exact ⟨(.cons rfl (.cons rfl (.cons rfl (.cons rfl (.cons rfl (.cons rfl (.cons rfl (.cons rfl .nil)))))))), rfl⟩
                      · (conv=>whnf);refine pbr_f g44 ?_;(conv=>whnf);refine pbr_f g44 ?_;(conv=>whnf);refine pbr_f g44 ?_;(conv=>whnf);refine pbr_f g44 ?_;(conv=>whnf);cases h41;exact ⟨(.cons rfl (.cons rfl (.cons rfl (.cons rfl (.cons rfl (.cons rfl (.cons rfl (.cons rfl .nil)))))))), rfl⟩
                    · refine pw_cond ?_;(conv=>whnf);refine pbr_oite h19 (fun g45 h19 => ?_) (fun g45 h19 => ?_)
                      · (conv=>whnf);refine pw_so ?_;refine po_all ?_;(conv=>whnf);refine pw_ret ?_;(conv=>whnf);cases h19;refine ⟨_, rfl, ?_⟩; rintro rfl;(conv=>whnf);obtain rfl := h16 _ rfl; show ∃ D, Fz _ D 0 (.tuple ⟨[(.agg ⟨[(.slice none 0 0), (.slice none 0 0), (.int .i64 0), (.slice none 0 0)]⟩), (.int .i64 7)]⟩) _;exact ⟨fun _ => false, .tuplel (.cons (.aggl (.cons (.nil _) (.cons (.nil _) (.cons .cl (.cons (.nil _) (.nil)))))) (.cons .cl (.nil)))⟩
                      · (conv=>whnf);refine pw_skip ?_;(conv=>whnf);refine pw_draw ?_;(conv=>whnf);refine ⟨?_, ?_⟩
                        · (conv=>whnf);refine ⟨by repeat (first | exact trivial | refine And.intro rfl ?_), ?_⟩;(conv=>whnf);refine ⟨?_, ?_⟩
                          · (conv=>whnf);refine app_o (l := e17.2.1) (m := ([y38.1] : List Int)) (f := eI) h19 (by rfl) (by rfl) (by rfl) (fun h19 => ?_);(conv=>whnf);refine ⟨by repeat (first | exact trivial | refine And.intro rfl ?_), ?_⟩;(conv=>whnf);refine ⟨?_, trivial⟩;(conv=>whnf);refine ⟨by repeat (first | exact trivial | refine And.intro rfl ?_), ?_⟩;(conv=>whnf);refine ⟨?_, trivial⟩;(conv=>whnf);refine app_o (l := e17.2.2.1) (m := ([y28.1] : List Int)) (f := eI) h19 (by rfl) (by rfl) (by rfl) (fun h19 => ?_);(conv=>whnf);refine ⟨by repeat (first | exact trivial | refine And.intro rfl ?_), ?_⟩;(conv=>whnf);refine ⟨?_, trivial⟩
                            (conv=>whnf);refine ⟨by repeat (first | exact trivial | refine And.intro rfl ?_), ?_⟩;(conv=>whnf);refine ⟨?_, trivial⟩;(conv=>whnf);refine ⟨by repeat (first | exact trivial | refine And.intro rfl ?_), ?_⟩;(conv=>whnf);refine pw_ops ?_;refine po_all ?_;(conv=>whnf);cases h19;refine ⟨_, rfl, ?_⟩;exact Recast.fz (fun _ => false) (Nat.le_of_ble_eq_true rfl) (.cons (.same rfl rfl (OBnd.tail (Nat.le_of_ble_eq_true rfl))) (.cons (.same rfl rfl (OBnd.tail (Nat.le_of_ble_eq_true rfl))) (.cons (.same rfl rfl (OBnd.tail (Nat.le_of_ble_eq_true rfl))) (.cons (.same rfl rfl (OBnd.rwl (Nat.le_of_ble_eq_true rfl) rfl (.cons (.vt (Nat.le_of_ble_eq_true rfl)) (.cons (.vt (Nat.le_of_ble_eq_true rfl)) (.cons .cl (.cons (.vt (Nat.le_of_ble_eq_true rfl)) .nil)))))) (.cons (.same rfl rfl (OBnd.rwl (Nat.le_of_ble_eq_true rfl) rfl (.cons .cl (.cons .cl (.cons .cl (.cons .cl .nil)))))) (.cons (.same rfl rfl (OBnd.rwl (Nat.le_of_ble_eq_true rfl) rfl (.cons .cl (.cons .cl (.cons .cl (.cons .cl .nil)))))) .nil)))))) (.cons rfl (.same _ (.ptr (Nat.le_of_ble_eq_true rfl))) (.cons rfl (.same _ (.ptr (Nat.le_of_ble_eq_true rfl))) (.cons rfl (.same _ .cl) (.cons rfl (.same _ (.ptr (Nat.le_of_ble_eq_true rfl))) (.cons rfl (.same _ .cl) .nil)))))
                          · (conv=>whnf);refine ⟨?_, trivial⟩;(conv=>whnf);refine ⟨by repeat (first | exact trivial | refine And.intro rfl ?_), ?_⟩;(conv=>whnf);refine ⟨?_, trivial⟩;(conv=>whnf);refine app_o (l := e17.2.1) (m := ([y38.1] : List Int)) (f := eI) h19 (by rfl) (by rfl) (by rfl) (fun h19 => ?_);(conv=>whnf);refine ⟨by repeat (first | exact trivial | refine And.intro rfl ?_), ?_⟩;(conv=>whnf);refine ⟨?_, trivial⟩;(conv=>whnf);refine app_o (l := e17.2.2.1) (m := ([y28.1] : List Int)) (f := eI) h19 (by rfl) (by rfl) (by rfl) (fun h19 => ?_);(conv=>whnf);refine ⟨by repeat (first | exact trivial | refine And.intro rfl ?_), ?_⟩
                            (conv=>whnf);refine ⟨?_, trivial⟩;(conv=>whnf);refine ⟨by repeat (first | exact trivial | refine And.intro rfl ?_), ?_⟩;(conv=>whnf);refine ⟨?_, trivial⟩;(conv=>whnf);refine ⟨by repeat (first | exact trivial | refine And.intro rfl ?_), ?_⟩;(conv=>whnf);refine pw_ops ?_;refine po_all ?_;(conv=>whnf);cases h19;refine ⟨_, rfl, ?_⟩;exact Recast.fz (fun _ => false) (Nat.le_of_ble_eq_true rfl) (.cons (.same rfl rfl (OBnd.tail (Nat.le_of_ble_eq_true rfl))) (.cons (.same rfl rfl (OBnd.tail (Nat.le_of_ble_eq_true rfl))) (.cons (.same rfl rfl (OBnd.tail (Nat.le_of_ble_eq_true rfl))) (.cons (.same rfl rfl (OBnd.rwl (Nat.le_of_ble_eq_true rfl) rfl (.cons (.vt (Nat.le_of_ble_eq_true rfl)) (.cons (.vt (Nat.le_of_ble_eq_true rfl)) (.cons .cl (.cons (.vt (Nat.le_of_ble_eq_true rfl)) .nil)))))) (.cons (.same rfl rfl (OBnd.rwl (Nat.le_of_ble_eq_true rfl) rfl (.cons .cl (.cons .cl (.cons .cl (.cons .cl .nil)))))) (.cons (.same rfl rfl (OBnd.rwl (Nat.le_of_ble_eq_true rfl) rfl (.cons .cl (.cons .cl (.cons .cl (.cons .cl .nil)))))) .nil)))))) (.cons rfl (.same _ (.ptr (Nat.le_of_ble_eq_true rfl))) (.cons rfl (.same _ (.ptr (Nat.le_of_ble_eq_true rfl))) (.cons rfl (.same _ .cl) (.cons rfl (.same _ (.ptr (Nat.le_of_ble_eq_true rfl))) (.cons rfl (.same _ .cl) .nil)))))
                        · (conv=>whnf);refine ⟨?_, trivial⟩;(conv=>whnf);refine ⟨by repeat (first | exact trivial | refine And.intro rfl ?_), ?_⟩;(conv=>whnf);refine ⟨?_, trivial⟩;(conv=>whnf);refine ⟨by repeat (first | exact trivial | refine And.intro rfl ?_), ?_⟩;(conv=>whnf);refine ⟨?_, trivial⟩;(conv=>whnf);refine app_o (l := e17.2.1) (m := ([y38.1] : List Int)) (f := eI) h19 (by rfl) (by rfl) (by rfl) (fun h19 => ?_);(conv=>whnf);refine ⟨by repeat (first | exact trivial | refine And.intro rfl ?_), ?_⟩;(conv=>whnf);refine ⟨?_, trivial⟩;(conv=>whnf);refine app_o (l := e17.2.2.1) (m := ([y28.1] : List Int)) (f := eI) h19 (by rfl) (by rfl) (by rfl) (fun h19 => ?_)
                          (conv=>whnf);refine ⟨by repeat (first | exact trivial | refine And.intro rfl ?_), ?_⟩;(conv=>whnf);refine ⟨?_, trivial⟩;(conv=>whnf);refine ⟨by repeat (first | exact trivial | refine And.intro rfl ?_), ?_⟩;(conv=>whnf);refine ⟨?_, trivial⟩;(conv=>whnf);refine ⟨by repeat (first | exact trivial | refine And.intro rfl ?_), ?_⟩;(conv=>whnf);refine pw_ops ?_;refine po_all ?_;(conv=>whnf);cases h19;refine ⟨_, rfl, ?_⟩;exact Recast.fz (fun _ => false) (Nat.le_of_ble_eq_true rfl) (.cons (.same rfl rfl (OBnd.tail (Nat.le_of_ble_eq_true rfl))) (.cons (.same rfl rfl (OBnd.tail (Nat.le_of_ble_eq_true rfl))) (.cons (.same rfl rfl (OBnd.tail (Nat.le_of_ble_eq_true rfl))) (.cons (.same rfl rfl (OBnd.rwl (Nat.le_of_ble_eq_true rfl) rfl (.cons (.vt (Nat.le_of_ble_eq_true rfl)) (.cons (.vt (Nat.le_of_ble_eq_true rfl)) (.cons .cl (.cons (.vt (Nat.le_of_ble_eq_true rfl)) .nil)))))) (.cons (.same rfl rfl (OBnd.rwl (Nat.le_of_ble_eq_true rfl) rfl (.cons .cl (.cons .cl (.cons .cl (.cons .cl .nil)))))) (.cons (.same rfl rfl (OBnd.rwl (Nat.le_of_ble_eq_true rfl) rfl (.cons .cl (.cons .cl (.cons .cl (.cons .cl .nil)))))) .nil)))))) (.cons rfl (.same _ (.ptr (Nat.le_of_ble_eq_true rfl))) (.cons rfl (.same _ (.ptr (Nat.le_of_ble_eq_true rfl))) (.cons rfl (.same _ .cl) (.cons rfl (.same _ (.ptr (Nat.le_of_ble_eq_true rfl))) (.cons rfl (.same _ .cl) .nil)))))
            · (conv=>whnf);refine pw_exit ?_;(conv=>whnf);cases h19;refine ⟨_, rfl, ?_⟩; rintro rfl;(conv=>whnf);exact ⟨_, rfl, ⟨(.cons rfl (.cons rfl (.cons rfl .nil))), rfl⟩⟩
        · intro r48 hr; have H := h15 _ hr;refine pw_seq ?_;refine pw_so ?_;refine po_all ?_;(conv=>whnf);obtain ⟨y49, h50, H⟩ := obnd_some H;refine ICalls.goW (c39 h50) (.cons (.aggl (.cons (.vt _ _ _) (.cons (.vt _ _ _) (.cons (.refl _) (.cons (.vt _ _ _) .nil))))) .nil) ?_;(conv=>whnf);refine pw_so ?_;refine po_all ?_;(conv=>whnf);refine pw_cond ?_;(conv=>whnf);refine pbr_oite H (fun g51 H => ?_) (fun g51 H => ?_)
          · (conv=>whnf);refine pw_so ?_;refine po_all ?_;(conv=>whnf);refine pw_ret ?_;(conv=>whnf);cases H; show ∃ D, Fz _ D 0 (.tuple ⟨[(.agg ⟨[(.slice none 0 0), (.slice none 0 0), (.int .i64 0), (.slice none 0 0)]⟩), (.int .i64 y49)]⟩) _;exact ⟨fun _ => false, .tuplel (.cons (.aggl (.cons (.nil _) (.cons (.nil _) (.cons .cl (.cons (.nil _) (.nil)))))) (.cons .cl (.nil)))⟩
          · (conv=>whnf);refine pw_skip ?_;(conv=>whnf);refine pw_so ?_;refine po_all ?_;(conv=>whnf);refine pw_ret ?_;(conv=>whnf);cases H; show ∃ D, Fz _ D 0 (.tuple ⟨[(.agg ⟨[(VT 1 _ 3), (VT 1 _ 4), (.int .i64 y5.1), (VT 2 _ 5)]⟩), (.int .i64 0)]⟩) _;exact ⟨fun _ => false, .tuplel (.cons (.aggl (.cons .vtc (.cons .vtc (.cons .cl (.cons .vtc (.nil)))))) (.cons .cl (.nil)))⟩

/-- guidevane/guidevaneref09.FormatRules -/
noncomputable def f380 [LO]  (a0 : List Int) (a1 : List Int) (a2 : Int) (a3 : List (ByteArray × Int)) : Option ByteArray :=
  obnd (f388 a2) fun (y1 : ByteArray) =>
  obnd (
   oloop (τ := ByteArray × Int) (ρ := ByteArray) (fun e7 =>
    obndS (
     oite ((ilt e7.2 ((a0.map eI).length : Int))) (
      some (.inl ())
       ) (
      oite ((ilt e7.2 ((a1.map eI).length : Int))) (
       some (.inl ())
        ) (
       some (.inr (.inr (e7.1)))
        )
       )
      ) fun (_ : Unit) =>
    obnd (
     oite ((ilt e7.2 ((a0.map eI).length : Int))) (
      ogrd ((ile 0 e7.2)) (
      obnd (a0[e7.2.toNat]?) fun (x24 : Int) =>
      some x24
      )
       ) (
      some (0 : Int)
       )
      ) fun (r18 : Int) =>
    obnd (
     oite ((ilt e7.2 ((a1.map eI).length : Int))) (
      ogrd ((ile 0 e7.2)) (
      obnd (a1[e7.2.toNat]?) fun (x31 : Int) =>
      some x31
      )
       ) (
      some (0 : Int)
       )
      ) fun (r25 : Int) =>
    ogrd ((Nat.ble (e7.1.size + (⟨#[59]⟩ : ByteArray).size) 9223372036854775807)) (
    obnd (f388 r18) fun (y33 : ByteArray) =>
    ogrd ((Nat.ble ((e7.1 ++ (⟨#[59]⟩ : ByteArray)).size + y33.size) 9223372036854775807)) (
    ogrd ((Nat.ble (((e7.1 ++ (⟨#[59]⟩ : ByteArray)) ++ y33).size + (⟨#[32]⟩ : ByteArray).size) 9223372036854775807)) (
    obnd (f388 r25) fun (y37 : ByteArray) =>
    ogrd ((Nat.ble ((((e7.1 ++ (⟨#[59]⟩ : ByteArray)) ++ y33) ++ (⟨#[32]⟩ : ByteArray)).size + y37.size) 9223372036854775807)) (
    some (.inl ((((((e7.1 ++ (⟨#[59]⟩ : ByteArray)) ++ y33) ++ (⟨#[32]⟩ : ByteArray)) ++ y37), (IntKind.i64.wrap (e7.2 + (1 : Int))))))
    )
    )
    )
    )
     ) (y1, (0 : Int))
    ) fun (r3 : ByteArray) =>
  obnd (
   oloop (τ := ByteArray × Int) (ρ := ByteArray) (fun e44 =>
    oite ((ilt e44.2 ((a3.map e_SI).length : Int))) (
     ogrd ((Nat.ble (e44.1.size + (⟨#[59]⟩ : ByteArray).size) 9223372036854775807)) (
     ogrd ((ile 0 e44.2)) (
     obnd (a3[e44.2.toNat]?) fun (x50 : ByteArray × Int) =>
     ogrd ((Nat.ble ((e44.1 ++ (⟨#[59]⟩ : ByteArray)).size + x50.1.size) 9223372036854775807)) (
     ogrd ((Nat.ble (((e44.1 ++ (⟨#[59]⟩ : ByteArray)) ++ x50.1).size + (⟨#[32]⟩ : ByteArray).size) 9223372036854775807)) (
     obnd (a3[e44.2.toNat]?) fun (x53 : ByteArray × Int) =>
     obnd (f388 x53.2) fun (y54 : ByteArray) =>
     ogrd ((Nat.ble ((((e44.1 ++ (⟨#[59]⟩ : ByteArray)) ++ x50.1) ++ (⟨#[32]⟩ : ByteArray)).size + y54.size) 9223372036854775807)) (
     some (.inl ((((((e44.1 ++ (⟨#[59]⟩ : ByteArray)) ++ x50.1) ++ (⟨#[32]⟩ : ByteArray)) ++ y54), (IntKind.i64.wrap (e44.2 + (1 : Int))))))
     )
     )
     )
     )
     )
      ) (
     some (.inr (e44.1))
      )
     ) (r3, (0 : Int))
    ) fun (r40 : ByteArray) =>
  some r40
set_option maxHeartbeats 1000000 in
theorem c380 [LO]  {a0 : List Int} {a1 : List Int} {a2 : Int} {a3 : List (ByteArray × Int)} {x : ByteArray} (H : f380 a0 a1 a2 a3 = some x) : ICalls E 380 [(.agg ⟨[(VS 1 (a0.map eI)), (VS 1 (a1.map eI)), (.int .i64 a2), (VS 2 (a3.map e_SI))]⟩)] AHeap.none fun v _ => v = (.string x) := by
  refine icalls_fn (pfnw ?_); unfold f380 at H;(conv=>whnf);refine pw_so ?_;refine po_all ?_;(conv=>whnf);refine pw_so ?_;refine po_all ?_;(conv=>whnf);obtain ⟨y1, h2, H⟩ := obnd_some H;refine (c388 h2).go ?_;(conv=>whnf);obtain ⟨r3, h4, H⟩ := obnd_some H;refine pw_join (ρ := ByteArray) (fun e => ⟨[(1, (.pointer (some ⟨0, 0, none⟩))), (3, (.string e))], ⟨1, [(0, .rw [(VS 1 (a0.map eI)), (VS 1 (a1.map eI)), (.int .i64 a2), (VS 2 (a3.map e_SI))])], false⟩⟩) r3 ?_ ?_
  · refine pw_so ?_;refine po_all ?_;(conv=>whnf);refine pw_block ?_;refine pw_loop (τ := ByteArray × Int) (fun e => ⟨[(1, (.pointer (some ⟨0, 0, none⟩))), (3, (.string e.1)), (4, (.int .i64 e.2))], ⟨1, [(0, .rw [(VS 1 (a0.map eI)), (VS 1 (a1.map eI)), (.int .i64 a2), (VS 2 (a3.map e_SI))])], false⟩⟩) h4 ?_ (fun _ => Nat.le_of_ble_eq_true rfl) ?_
    · exact .sub' (Nat.le_of_ble_eq_true rfl) (.cons rfl (.cons rfl (.cons rfl .nil)))
    · intro e7 x8 h9;obtain ⟨r10, h11, h12, h13⟩ := obndS_some h9;refine pw_joinS (ρ := Unit) (fun e => ⟨[(1, (.pointer (some ⟨0, 0, none⟩))), (3, (.string e7.1)), (4, (.int .i64 e7.2))], ⟨1, [(0, .rw [(VS 1 (a0.map eI)), (VS 1 (a1.map eI)), (.int .i64 a2), (VS 2 (a3.map e_SI))])], false⟩⟩) r10 ?_ ?_
      · refine pw_so ?_;refine po_all ?_;(conv=>whnf);refine pbr_oite h11 (fun g14 h11 => ?_) (fun g14 h11 => ?_)
        · (conv=>whnf);refine pbr_t g14 ?_;(conv=>whnf);refine pbr_t g14 ?_;(conv=>whnf);refine pbr_t g14 ?_;(conv=>whnf);refine pbr_t g14 ?_;(conv=>whnf);refine pbr_t g14 ?_;(conv=>whnf);refine pw_cond ?_;(conv=>whnf);refine pw_skip ?_;(conv=>whnf);cases h11;exact ⟨_, rfl, ⟨(.cons rfl (.cons rfl (.cons rfl .nil))), rfl⟩⟩
        · (conv=>whnf);refine pbr_f g14 ?_;(conv=>whnf);refine pbr_f g14 ?_;(conv=>whnf);refine pbr_f g14 ?_;(conv=>whnf);refine pbr_f g14 ?_;(conv=>whnf);refine pbr_f g14 ?_;(conv=>whnf);refine pw_cond ?_;(conv=>whnf);refine pbr_oite h11 (fun g15 h11 => ?_) (fun g15 h11 => ?_)
          · (conv=>whnf);refine pw_skip ?_;(conv=>whnf);cases h11;exact ⟨_, rfl, ⟨(.cons rfl (.cons rfl (.cons rfl .nil))), rfl⟩⟩
          · (conv=>whnf);refine pw_exit ?_;(conv=>whnf);cases h11;obtain rfl := h13 _ rfl;refine ⟨_, rfl, ?_⟩; rintro rfl;(conv=>whnf);exact ⟨(.cons rfl (.cons rfl .nil)), rfl⟩
      · intro r17 hr; have h9 := h12 _ hr;refine pw_seq ?_;refine pw_block ?_;refine pw_so ?_;refine po_all ?_;(conv=>whnf);obtain ⟨r18, h19, h9⟩ := obnd_some h9;refine pw_join (ρ := Int) (fun e => ⟨[(1, (.pointer (some ⟨0, 0, none⟩))), (3, (.string e7.1)), (4, (.int .i64 e7.2)), (5, (.int .i64 e)), (6, (.int .i64 0))], ⟨1, [(0, .rw [(VS 1 (a0.map eI)), (VS 1 (a1.map eI)), (.int .i64 a2), (VS 2 (a3.map e_SI))])], false⟩⟩) r18 ?_ ?_
        · refine pw_so ?_;refine po_all ?_;(conv=>whnf);refine pw_cond ?_;(conv=>whnf);refine pbr_oite h19 (fun g22 h19 => ?_) (fun g22 h19 => ?_)
          · (conv=>whnf);refine pw_ops ?_;refine po_all ?_;(conv=>whnf);refine pbr_ogrd h19 (fun g23 h19 => ?_);(conv=>whnf);refine nth_o (l := a0) h19 (fun x24 _ h19 => ?_);(conv=>whnf);cases h19;exact ⟨(.cons rfl (.cons rfl (.cons rfl (.cons rfl (.cons rfl .nil))))), rfl⟩
          · (conv=>whnf);refine pw_skip ?_;(conv=>whnf);cases h19;exact ⟨(.cons rfl (.cons rfl (.cons rfl (.cons rfl (.cons rfl .nil))))), rfl⟩
        · obtain ⟨r25, h26, h9⟩ := obnd_some h9;refine pw_join (ρ := Int) (fun e => ⟨[(1, (.pointer (some ⟨0, 0, none⟩))), (3, (.string e7.1)), (4, (.int .i64 e7.2)), (5, (.int .i64 r18)), (6, (.int .i64 e))], ⟨1, [(0, .rw [(VS 1 (a0.map eI)), (VS 1 (a1.map eI)), (.int .i64 a2), (VS 2 (a3.map e_SI))])], false⟩⟩) r25 ?_ ?_
          · refine pw_so ?_;refine po_all ?_;(conv=>whnf);refine pw_cond ?_;(conv=>whnf);refine pbr_oite h26 (fun g29 h26 => ?_) (fun g29 h26 => ?_)
            · (conv=>whnf);refine pw_ops ?_;refine po_all ?_;(conv=>whnf);refine pbr_ogrd h26 (fun g30 h26 => ?_);(conv=>whnf);refine nth_o (l := a1) h26 (fun x31 _ h26 => ?_);(conv=>whnf);cases h26;exact ⟨(.cons rfl (.cons rfl (.cons rfl (.cons rfl (.cons rfl .nil))))), rfl⟩
            · (conv=>whnf);refine pw_skip ?_;(conv=>whnf);cases h26;exact ⟨(.cons rfl (.cons rfl (.cons rfl (.cons rfl (.cons rfl .nil))))), rfl⟩
          · refine pw_ops ?_;refine po_all ?_;(conv=>whnf);refine pbr_ogrd h9 (fun g32 h9 => ?_);(conv=>whnf);obtain ⟨y33, h34, h9⟩ := obnd_some h9;refine (c388 h34).go ?_;(conv=>whnf);refine pbr_ogrd h9 (fun g35 h9 => ?_);(conv=>whnf);refine pbr_ogrd h9 (fun g36 h9 => ?_);(conv=>whnf);obtain ⟨y37, h38, h9⟩ := obnd_some h9;refine (c388 h38).go ?_;(conv=>whnf);refine pbr_ogrd h9 (fun g39 h9 => ?_);(conv=>whnf);refine pw_ops ?_;refine po_all ?_;(conv=>whnf);cases h9;refine ⟨_, rfl, ?_⟩;exact .sub' (Nat.le_of_ble_eq_true rfl) (.cons rfl (.cons rfl (.cons rfl .nil)))
  · obtain ⟨r40, h41, H⟩ := obnd_some H;refine pw_join (ρ := ByteArray) (fun e => ⟨[(3, (.string e))], ⟨1, [(0, .rw [(VS 1 (a0.map eI)), (VS 1 (a1.map eI)), (.int .i64 a2), (VS 2 (a3.map e_SI))])], false⟩⟩) r40 ?_ ?_
    · refine pw_so ?_;refine po_all ?_;(conv=>whnf);refine pw_block ?_;refine pw_loop (τ := ByteArray × Int) (fun e => ⟨[(1, (.pointer (some ⟨0, 0, none⟩))), (3, (.string e.1)), (7, (.int .i64 e.2))], ⟨1, [(0, .rw [(VS 1 (a0.map eI)), (VS 1 (a1.map eI)), (.int .i64 a2), (VS 2 (a3.map e_SI))])], false⟩⟩) h41 ?_ (fun _ => Nat.le_of_ble_eq_true rfl) ?_
      · exact .sub' (Nat.le_of_ble_eq_true rfl) (.cons rfl (.cons rfl (.cons rfl .nil)))
      · intro e44 x45 h46;refine pw_seq ?_;refine pw_so ?_;refine po_all ?_;(conv=>whnf);refine pw_cond ?_;(conv=>whnf);refine pbr_oite h46 (fun g47 h46 => ?_) (fun g47 h46 => ?_)
        · (conv=>whnf);refine pw_skip ?_;(conv=>whnf);refine pw_seq ?_;refine pw_block ?_;refine pw_draw ?_;(conv=>whnf);refine pbr_ogrd h46 (fun g48 h46 => ?_);(conv=>whnf);refine pbr_ogrd h46 (fun g49 h46 => ?_);(conv=>whnf);refine nth_o (l := a3) h46 (fun x50 _ h46 => ?_);(conv=>whnf);refine pbr_ogrd h46 (fun g51 h46 => ?_);(conv=>whnf);refine pbr_ogrd h46 (fun g52 h46 => ?_);(conv=>whnf);refine pbr_t g49 ?_;(conv=>whnf);refine nth_o (l := a3) h46 (fun x53 _ h46 => ?_);(conv=>whnf);refine ⟨?_, trivial⟩;(conv=>whnf);obtain ⟨y54, h55, h46⟩ := obnd_some h46;refine (c388 h55).go ?_;(conv=>whnf);refine ⟨by repeat (first | exact trivial | refine And.intro rfl ?_), ?_⟩
          (conv=>whnf);refine pbr_ogrd h46 (fun g56 h46 => ?_);(conv=>whnf);refine ⟨?_, trivial⟩;(conv=>whnf);refine ⟨by repeat (first | exact trivial | refine And.intro rfl ?_), ?_⟩;(conv=>whnf);refine pw_ops ?_;refine po_all ?_;(conv=>whnf);cases h46;refine ⟨_, rfl, ?_⟩;exact .sub' (Nat.le_of_ble_eq_true rfl) (.cons rfl (.cons rfl (.cons rfl .nil)))
        · (conv=>whnf);refine pw_exit ?_;(conv=>whnf);cases h46;refine ⟨_, rfl, ?_⟩; rintro rfl;(conv=>whnf);exact ⟨(.cons rfl .nil), rfl⟩
    · refine pw_so ?_;refine po_all ?_;(conv=>whnf);refine pw_ret ?_;(conv=>whnf);cases H; rfl

/-- guidevane/guidevanebase.Ints -/
noncomputable def f26 [LO]  (a0 : List Int) (a1 : List Int) : Option Bool :=
  oite ((!(ieq ((a0.map eI).length : Int) ((a1.map eI).length : Int)))) (
   some false
    ) (
   obndS (
    oloop (τ := Int) (ρ := (Unit) ⊕ Bool) (fun e6 =>
     oite ((ilt e6 ((a0.map eI).length : Int))) (
      ogrd ((ile 0 e6)) (
      obnd (a0[e6.toNat]?) fun (x11 : Int) =>
      obnd (a1[e6.toNat]?) fun (x12 : Int) =>
      oite ((!(ieq x11 x12))) (
       some (.inr (.inr (false)))
        ) (
       some (.inl (IntKind.i64.wrap (e6 + (1 : Int))))
        )
      )
       ) (
      some (.inr (.inl ()))
       )
      ) (0 : Int)
     ) fun (_ : Unit) =>
   some true
    )
set_option maxHeartbeats 1000000 in
theorem c26 [LO]  {a0 : List Int} {a1 : List Int} {x : Bool} (H : f26 a0 a1 = some x) : ICalls E 26 [(VS 1 (a0.map eI)), (VS 1 (a1.map eI))] AHeap.none fun v _ => v = (.bool x) := by
  refine icalls_fn (pfnw ?_); unfold f26 at H;(conv=>whnf);refine pw_so ?_;refine po_all ?_;(conv=>whnf);refine pw_seq ?_;refine pw_so ?_;refine po_all ?_;(conv=>whnf);refine pw_cond ?_;(conv=>whnf);refine pbr_oite H (fun g1 H => ?_) (fun g1 H => ?_)
  · (conv=>whnf);refine pw_so ?_;refine po_all ?_;(conv=>whnf);refine pw_ret ?_;(conv=>whnf);cases H; rfl
  · (conv=>whnf);refine pw_skip ?_;(conv=>whnf);obtain ⟨r2, h3, h4, h5⟩ := obndS_some H;refine pw_joinS (ρ := Unit) (fun e => ⟨[], ⟨0, [], false⟩⟩) r2 ?_ ?_
    · refine pw_so ?_;refine po_all ?_;(conv=>whnf);refine pw_block ?_;refine pw_loop (τ := Int) (fun e => ⟨[(0, (VS 1 (a0.map eI))), (1, (VS 1 (a1.map eI))), (5, (.int .i64 e))], ⟨0, [], false⟩⟩) h3 ?_ (fun _ => Nat.le_of_ble_eq_true rfl) ?_
      · exact .sub' (Nat.le_of_ble_eq_true rfl) (.cons rfl (.cons rfl (.cons rfl .nil)))
      · intro e6 x7 h8;refine pw_seq ?_;refine pw_so ?_;refine po_all ?_;(conv=>whnf);refine pw_cond ?_;(conv=>whnf);refine pbr_oite h8 (fun g9 h8 => ?_) (fun g9 h8 => ?_)
        · (conv=>whnf);refine pw_skip ?_;(conv=>whnf);refine pw_seq ?_;refine pw_block ?_;refine pw_sd ?_;(conv=>whnf);refine pbr_ogrd h8 (fun g10 h8 => ?_);(conv=>whnf);refine nth_o (l := a0) h8 (fun x11 _ h8 => ?_);(conv=>whnf);refine pbr_t g10 ?_;(conv=>whnf);refine nth_o (l := a1) h8 (fun x12 _ h8 => ?_);(conv=>whnf);refine pw_cond ?_;(conv=>whnf);refine pbr_oite h8 (fun g13 h8 => ?_) (fun g13 h8 => ?_)
          · (conv=>whnf);refine pw_so ?_;refine po_all ?_;(conv=>whnf);refine pw_ret ?_;(conv=>whnf);cases h8;refine ⟨_, rfl, ?_⟩; rintro rfl;(conv=>whnf);obtain rfl := h5 _ rfl; rfl
          · (conv=>whnf);refine pw_skip ?_;(conv=>whnf);refine pw_ops ?_;refine po_all ?_;(conv=>whnf);cases h8;refine ⟨_, rfl, ?_⟩;exact .sub' (Nat.le_of_ble_eq_true rfl) (.cons rfl (.cons rfl (.cons rfl .nil)))
        · (conv=>whnf);refine pw_exit ?_;(conv=>whnf);cases h8;refine ⟨_, rfl, ?_⟩; rintro rfl;(conv=>whnf);exact ⟨_, rfl, ⟨.nil, rfl⟩⟩
    · intro r16 hr; have H := h4 _ hr;refine pw_so ?_;refine po_all ?_;(conv=>whnf);refine pw_ret ?_;(conv=>whnf);cases H; rfl

/-- guidevane/guidevaneref09.SameRules -/
noncomputable def f381 [LO]  (a0 : List Int) (a1 : List Int) (a2 : Int) (a3 : List (ByteArray × Int)) (a4 : List Int) (a5 : List Int) (a6 : Int) (a7 : List (ByteArray × Int)) : Option Bool :=
  obnd (
   obnd (f26 a0 a4) fun (y5 : Bool) =>
   obnd (
    oite (!y5) (
     some true
      ) (
     obnd (f26 a1 a5) fun (y10 : Bool) =>
     some (!y10)
      )
     ) fun (r7 : Bool) =>
   obnd (
    oite r7 (
     some true
      ) (
     some (!(ieq a2 a6))
      )
     ) fun (r12 : Bool) =>
   oite r12 (
    some true
     ) (
    some (!(ieq ((a3.map e_SI).length : Int) ((a7.map e_SI).length : Int)))
     )
    ) fun (r1 : Bool) =>
  oite r1 (
   some false
    ) (
   obndS (
    oloop (τ := Int) (ρ := (Unit) ⊕ Bool) (fun e21 =>
     oite ((ilt e21 ((a3.map e_SI).length : Int))) (
      ogrd ((ile 0 e21)) (
      obnd (a3[e21.toNat]?) fun (x26 : ByteArray × Int) =>
      obnd (a7[e21.toNat]?) fun (x27 : ByteArray × Int) =>
      oite ((!((x26.1 == x27.1) && ((ieq x26.2 x27.2) && true)))) (
       some (.inr (.inr (false)))
        ) (
       some (.inl (IntKind.i64.wrap (e21 + (1 : Int))))
        )
      )
       ) (
      some (.inr (.inl ()))
       )
      ) (0 : Int)
     ) fun (_ : Unit) =>
   some true
    )
set_option maxHeartbeats 1000000 in
theorem c381 [LO]  {a0 : List Int} {a1 : List Int} {a2 : Int} {a3 : List (ByteArray × Int)} {a4 : List Int} {a5 : List Int} {a6 : Int} {a7 : List (ByteArray × Int)} {x : Bool} (H : f381 a0 a1 a2 a3 a4 a5 a6 a7 = some x) : ICalls E 381 [(.agg ⟨[(VS 1 (a0.map eI)), (VS 1 (a1.map eI)), (.int .i64 a2), (VS 2 (a3.map e_SI))]⟩), (.agg ⟨[(VS 1 (a4.map eI)), (VS 1 (a5.map eI)), (.int .i64 a6), (VS 2 (a7.map e_SI))]⟩)] AHeap.none fun v _ => v = (.bool x) := by
  refine icalls_fn (pfnw ?_); unfold f381 at H;(conv=>whnf);refine pw_so ?_;refine po_all ?_;(conv=>whnf);refine pw_seq ?_;obtain ⟨r1, h2, H⟩ := obnd_some H;refine pw_join (ρ := Bool) (fun e => ⟨[(2, (.pointer (some ⟨0, 0, none⟩))), (3, (.pointer (some ⟨1, 0, none⟩))), (35, (.bool e))], ⟨2, [(1, .rw [(VS 1 (a4.map eI)), (VS 1 (a5.map eI)), (.int .i64 a6), (VS 2 (a7.map e_SI))]), (0, .rw [(VS 1 (a0.map eI)), (VS 1 (a1.map eI)), (.int .i64 a2), (VS 2 (a3.map e_SI))])], false⟩⟩) r1 ?_ ?_
  · refine pw_ops ?_;refine po_ops 7 ?_;(conv=>whnf);obtain ⟨y5, h6, h2⟩ := obnd_some h2;refine (c26 h6).go ?_;(conv=>whnf);obtain ⟨r7, h8, h2⟩ := obnd_some h2;refine po_seg (τ := Bool) 7 (fun e => ⟨[(2, (.pointer (some ⟨0, 0, none⟩))), (3, (.pointer (some ⟨1, 0, none⟩))), (19, (.bool e))], ⟨2, [(1, .rw [(VS 1 (a4.map eI)), (VS 1 (a5.map eI)), (.int .i64 a6), (VS 2 (a7.map e_SI))]), (0, .rw [(VS 1 (a0.map eI)), (VS 1 (a1.map eI)), (.int .i64 a2), (VS 2 (a3.map e_SI))])], false⟩⟩) r7 ?_ ?_
    · refine po_all ?_;(conv=>whnf);refine pbr_oite h8 (fun g9 h8 => ?_) (fun g9 h8 => ?_)
      · (conv=>whnf);refine pbr_t g9 ?_;(conv=>whnf);refine pbr_t g9 ?_;(conv=>whnf);refine pbr_t g9 ?_;(conv=>whnf);refine pbr_t g9 ?_;(conv=>whnf);refine pbr_t g9 ?_;(conv=>whnf);refine pbr_t g9 ?_;(conv=>whnf);cases h8;exact ⟨(.cons rfl (.cons rfl (.cons rfl .nil))), rfl⟩
      · (conv=>whnf);refine pbr_f g9 ?_;(conv=>whnf);refine pbr_f g9 ?_;(conv=>whnf);refine pbr_f g9 ?_;(conv=>whnf);refine pbr_f g9 ?_;(conv=>whnf);obtain ⟨y10, h11, h8⟩ := obnd_some h8;refine (c26 h11).go ?_;(conv=>whnf);refine pbr_f g9 ?_;(conv=>whnf);refine pbr_f g9 ?_;(conv=>whnf);cases h8;exact ⟨(.cons rfl (.cons rfl (.cons rfl .nil))), rfl⟩
    · refine po_ops 1 ?_;(conv=>whnf);obtain ⟨r12, h13, h2⟩ := obnd_some h2;refine po_seg (τ := Bool) 6 (fun e => ⟨[(2, (.pointer (some ⟨0, 0, none⟩))), (3, (.pointer (some ⟨1, 0, none⟩))), (26, (.bool e))], ⟨2, [(1, .rw [(VS 1 (a4.map eI)), (VS 1 (a5.map eI)), (.int .i64 a6), (VS 2 (a7.map e_SI))]), (0, .rw [(VS 1 (a0.map eI)), (VS 1 (a1.map eI)), (.int .i64 a2), (VS 2 (a3.map e_SI))])], false⟩⟩) r12 ?_ ?_
      · refine po_all ?_;(conv=>whnf);refine pbr_oite h13 (fun g14 h13 => ?_) (fun g14 h13 => ?_)
        · (conv=>whnf);refine pbr_t g14 ?_;(conv=>whnf);refine pbr_t g14 ?_;(conv=>whnf);refine pbr_t g14 ?_;(conv=>whnf);refine pbr_t g14 ?_;(conv=>whnf);refine pbr_t g14 ?_;(conv=>whnf);cases h13;exact ⟨(.cons rfl (.cons rfl (.cons rfl .nil))), rfl⟩
        · (conv=>whnf);refine pbr_f g14 ?_;(conv=>whnf);refine pbr_f g14 ?_;(conv=>whnf);refine pbr_f g14 ?_;(conv=>whnf);refine pbr_f g14 ?_;(conv=>whnf);refine pbr_f g14 ?_;(conv=>whnf);cases h13;exact ⟨(.cons rfl (.cons rfl (.cons rfl .nil))), rfl⟩
      · refine po_all ?_;(conv=>whnf);refine pbr_oite h2 (fun g15 h2 => ?_) (fun g15 h2 => ?_)
        · (conv=>whnf);refine pbr_t g15 ?_;(conv=>whnf);refine pbr_t g15 ?_;(conv=>whnf);refine pbr_t g15 ?_;(conv=>whnf);refine pbr_t g15 ?_;(conv=>whnf);refine pbr_t g15 ?_;(conv=>whnf);refine pbr_t g15 ?_;(conv=>whnf);refine pbr_t g15 ?_;(conv=>whnf);cases h2;exact ⟨(.cons rfl (.cons rfl (.cons rfl .nil))), rfl⟩
        · (conv=>whnf);refine pbr_f g15 ?_;(conv=>whnf);refine pbr_f g15 ?_;(conv=>whnf);refine pbr_f g15 ?_;(conv=>whnf);refine pbr_f g15 ?_;(conv=>whnf);refine pbr_f g15 ?_;(conv=>whnf);refine pbr_f g15 ?_;(conv=>whnf);refine pbr_f g15 ?_;(conv=>whnf);cases h2;exact ⟨(.cons rfl (.cons rfl (.cons rfl .nil))), rfl⟩
  · refine pw_cond ?_;(conv=>whnf);refine pbr_oite H (fun g16 H => ?_) (fun g16 H => ?_)
    · (conv=>whnf);refine pw_so ?_;refine po_all ?_;(conv=>whnf);refine pw_ret ?_;(conv=>whnf);cases H; rfl
    · (conv=>whnf);refine pw_skip ?_;(conv=>whnf);obtain ⟨r17, h18, h19, h20⟩ := obndS_some H;refine pw_joinS (ρ := Unit) (fun e => ⟨[], ⟨2, [(1, .rw [(VS 1 (a4.map eI)), (VS 1 (a5.map eI)), (.int .i64 a6), (VS 2 (a7.map e_SI))]), (0, .rw [(VS 1 (a0.map eI)), (VS 1 (a1.map eI)), (.int .i64 a2), (VS 2 (a3.map e_SI))])], false⟩⟩) r17 ?_ ?_
      · refine pw_so ?_;refine po_all ?_;(conv=>whnf);refine pw_block ?_;refine pw_loop (τ := Int) (fun e => ⟨[(2, (.pointer (some ⟨0, 0, none⟩))), (3, (.pointer (some ⟨1, 0, none⟩))), (5, (.int .i64 e))], ⟨2, [(1, .rw [(VS 1 (a4.map eI)), (VS 1 (a5.map eI)), (.int .i64 a6), (VS 2 (a7.map e_SI))]), (0, .rw [(VS 1 (a0.map eI)), (VS 1 (a1.map eI)), (.int .i64 a2), (VS 2 (a3.map e_SI))])], false⟩⟩) h18 ?_ (fun _ => Nat.le_of_ble_eq_true rfl) ?_
        · exact .sub' (Nat.le_of_ble_eq_true rfl) (.cons rfl (.cons rfl (.cons rfl .nil)))
        · intro e21 x22 h23;refine pw_seq ?_;refine pw_so ?_;refine po_all ?_;(conv=>whnf);refine pw_cond ?_;(conv=>whnf);refine pbr_oite h23 (fun g24 h23 => ?_) (fun g24 h23 => ?_)
          · (conv=>whnf);refine pw_skip ?_;(conv=>whnf);refine pw_seq ?_;refine pw_block ?_;refine pw_sd ?_;(conv=>whnf);refine pbr_ogrd h23 (fun g25 h23 => ?_);(conv=>whnf);refine nth_o (l := a3) h23 (fun x26 _ h23 => ?_);(conv=>whnf);refine pbr_t g25 ?_;(conv=>whnf);refine nth_o (l := a7) h23 (fun x27 _ h23 => ?_);(conv=>whnf);refine pw_cond ?_;(conv=>whnf);refine pbr_oite h23 (fun g28 h23 => ?_) (fun g28 h23 => ?_)
            · (conv=>whnf);refine pw_so ?_;refine po_all ?_;(conv=>whnf);refine pw_ret ?_;(conv=>whnf);cases h23;refine ⟨_, rfl, ?_⟩; rintro rfl;(conv=>whnf);obtain rfl := h20 _ rfl; rfl
            · (conv=>whnf);refine pw_skip ?_;(conv=>whnf);refine pw_ops ?_;refine po_all ?_;(conv=>whnf);cases h23;refine ⟨_, rfl, ?_⟩;exact .sub' (Nat.le_of_ble_eq_true rfl) (.cons rfl (.cons rfl (.cons rfl .nil)))
          · (conv=>whnf);refine pw_exit ?_;(conv=>whnf);cases h23;refine ⟨_, rfl, ?_⟩; rintro rfl;(conv=>whnf);exact ⟨_, rfl, ⟨.nil, rfl⟩⟩
      · intro r31 hr; have H := h19 _ hr;refine pw_so ?_;refine po_all ?_;(conv=>whnf);refine pw_ret ?_;(conv=>whnf);cases H; rfl

/-- guidevane/guidevanelaw09.DamStrings -/
noncomputable def f372 [LO]  (a0 : List Int) (a1 : List Int) (a2 : Int) (a3 : List (ByteArray × Int)) (a4 : ByteArray) : Option Bool :=
  obnd (f10) fun (y1 : Bool) =>
  oite (!y1) (
   some false
    ) (
   obnd (
    obnd (f35 a0 a1 a2 a3) fun (y8 : Bool) =>
    oite (!y8) (
     some true
      ) (
     some (ilt (300 : Int) (a4.size : Int))
      )
     ) fun (r4 : Bool) =>
   oite r4 (
    some true
     ) (
    obnd (f37 a0 a1 a2 a3) fun (y12 : (List Int) × (List Int) × Int × (List (ByteArray × Int))) =>
    obnd (f377 y12.1 y12.2.1 y12.2.2.1 y12.2.2.2) fun (y14 : ByteArray) =>
    obnd (f378 a4) fun (y16 : (List Int) × (List Int) × Int × (List (ByteArray × Int)) × Int) =>
    obnd (f379 a4) fun (y18 : (List Int) × (List Int) × Int × (List (ByteArray × Int)) × Int) =>
    obnd (
     obnd (f380 a0 a1 a2 a3) fun (y24 : ByteArray) =>
     obnd (
      oite ((!(y14.toList == y24.toList))) (
       some true
        ) (
       some (!(ieq y16.2.2.2.2 y18.2.2.2.2))
        )
       ) fun (r26 : Bool) =>
     oite r26 (
      some true
       ) (
      obnd (f381 y16.1 y16.2.1 y16.2.2.1 y16.2.2.2.1 y18.1 y18.2.1 y18.2.2.1 y18.2.2.2.1) fun (y30 : Bool) =>
      some (!y30)
       )
      ) fun (r20 : Bool) =>
    oite r20 (
     some false
      ) (
     obnd (f39 a0 a1 a2 a3) fun (y33 : Int) =>
     oite ((!(ieq y33 (0 : Int)))) (
      some true
       ) (
      obnd (f378 y14) fun (y36 : (List Int) × (List Int) × Int × (List (ByteArray × Int)) × Int) =>
      obnd (
       oite ((ieq y36.2.2.2.2 (0 : Int))) (
        obnd (f381 y36.1 y36.2.1 y36.2.2.1 y36.2.2.2.1 a0 a1 a2 a3) fun (y41 : Bool) =>
        some y41
         ) (
        some false
         )
        ) fun (r38 : Bool) =>
      some r38
       )
      )
     )
    )
set_option maxHeartbeats 1000000 in
theorem c372 [LO]  {a0 : List Int} {a1 : List Int} {a2 : Int} {a3 : List (ByteArray × Int)} {a4 : ByteArray} {x : Bool} (H : f372 a0 a1 a2 a3 a4 = some x) : ICalls E 372 [(.agg ⟨[(VS 1 (a0.map eI)), (VS 1 (a1.map eI)), (.int .i64 a2), (VS 2 (a3.map e_SI))]⟩), (.string a4)] AHeap.none fun v _ => v = (.bool x) := by
  refine icalls_fn (pfnw ?_); unfold f372 at H;(conv=>whnf);refine pw_so ?_;refine po_all ?_;(conv=>whnf);refine pw_seq ?_;refine pw_so ?_;refine po_all ?_;(conv=>whnf);obtain ⟨y1, h2, H⟩ := obnd_some H;refine (c10 h2).go ?_;(conv=>whnf);refine pw_cond ?_;(conv=>whnf);refine pbr_oite H (fun g3 H => ?_) (fun g3 H => ?_)
  · (conv=>whnf);refine pw_so ?_;refine po_all ?_;(conv=>whnf);refine pw_ret ?_;(conv=>whnf);cases H; rfl
  · (conv=>whnf);refine pw_skip ?_;(conv=>whnf);refine pw_seq ?_;obtain ⟨r4, h5, H⟩ := obnd_some H;refine pw_join (ρ := Bool) (fun e => ⟨[(1, (.string a4)), (2, (.pointer (some ⟨0, 0, none⟩))), (21, (.bool e))], ⟨1, [(0, .rw [(VS 1 (a0.map eI)), (VS 1 (a1.map eI)), (.int .i64 a2), (VS 2 (a3.map e_SI))])], false⟩⟩) r4 ?_ ?_
    · refine pw_ops ?_;refine po_all ?_;(conv=>whnf);obtain ⟨y8, h9, h5⟩ := obnd_some h5;refine (c35 h9).go ?_;(conv=>whnf);refine pbr_oite h5 (fun g10 h5 => ?_) (fun g10 h5 => ?_)
      · (conv=>whnf);refine pbr_t g10 ?_;(conv=>whnf);refine pbr_t g10 ?_;(conv=>whnf);refine pbr_t g10 ?_;(conv=>whnf);cases h5;exact ⟨(.cons rfl (.cons rfl (.cons rfl .nil))), rfl⟩
      · (conv=>whnf);refine pbr_f g10 ?_;(conv=>whnf);refine pbr_f g10 ?_;(conv=>whnf);refine pbr_f g10 ?_;(conv=>whnf);cases h5;exact ⟨(.cons rfl (.cons rfl (.cons rfl .nil))), rfl⟩
    · refine pw_cond ?_;(conv=>whnf);refine pbr_oite H (fun g11 H => ?_) (fun g11 H => ?_)
      · (conv=>whnf);refine pw_so ?_;refine po_all ?_;(conv=>whnf);refine pw_ret ?_;(conv=>whnf);cases H; rfl
      · (conv=>whnf);refine pw_skip ?_;(conv=>whnf);refine pw_so ?_;refine po_all ?_;(conv=>whnf);obtain ⟨y12, h13, H⟩ := obnd_some H;refine (c37 h13).go ?_;(conv=>whnf);obtain ⟨y14, h15, H⟩ := obnd_some H;refine (c377 h15).go ?_;(conv=>whnf);refine pw_so ?_;refine po_all ?_;(conv=>whnf);obtain ⟨y16, h17, H⟩ := obnd_some H;refine (c378 h17).go ?_;(conv=>whnf);refine pw_so ?_;refine po_all ?_;(conv=>whnf);obtain ⟨y18, h19, H⟩ := obnd_some H;refine (c379 h19).go ?_;(conv=>whnf);refine pw_seq ?_;obtain ⟨r20, h21, H⟩ := obnd_some H;refine pw_join (ρ := Bool) (fun e => ⟨[(2, (.pointer (some ⟨0, 0, none⟩))), (5, (.string y14)), (49, (.bool e))], ⟨3, [(2, .rw [(VS 1 (y18.1.map eI)), (VS 1 (y18.2.1.map eI)), (.int .i64 y18.2.2.1), (VS 2 (y18.2.2.2.1.map e_SI))]), (1, .rw [(VS 1 (y16.1.map eI)), (VS 1 (y16.2.1.map eI)), (.int .i64 y16.2.2.1), (VS 2 (y16.2.2.2.1.map e_SI))]), (0, .rw [(VS 1 (a0.map eI)), (VS 1 (a1.map eI)), (.int .i64 a2), (VS 2 (a3.map e_SI))])], false⟩⟩) r20 ?_ ?_
        · refine pw_ops ?_;refine po_ops 5 ?_;(conv=>whnf);obtain ⟨y24, h25, h21⟩ := obnd_some h21;refine (c380 h25).go ?_;(conv=>whnf);obtain ⟨r26, h27, h21⟩ := obnd_some h21;refine po_seg (τ := Bool) 4 (fun e => ⟨[(2, (.pointer (some ⟨0, 0, none⟩))), (5, (.string y14)), (6, (.pointer (some ⟨1, 0, none⟩))), (8, (.pointer (some ⟨2, 0, none⟩))), (43, (.bool e))], ⟨3, [(2, .rw [(VS 1 (y18.1.map eI)), (VS 1 (y18.2.1.map eI)), (.int .i64 y18.2.2.1), (VS 2 (y18.2.2.2.1.map e_SI))]), (1, .rw [(VS 1 (y16.1.map eI)), (VS 1 (y16.2.1.map eI)), (.int .i64 y16.2.2.1), (VS 2 (y16.2.2.2.1.map e_SI))]), (0, .rw [(VS 1 (a0.map eI)), (VS 1 (a1.map eI)), (.int .i64 a2), (VS 2 (a3.map e_SI))])], false⟩⟩) r26 ?_ ?_
          · refine po_all ?_;(conv=>whnf);refine pbr_oite h27 (fun g28 h27 => ?_) (fun g28 h27 => ?_)
            · (conv=>whnf);refine pbr_t g28 ?_;(conv=>whnf);refine pbr_t g28 ?_;(conv=>whnf);refine pbr_t g28 ?_;(conv=>whnf);cases h27;exact ⟨(.cons rfl (.cons rfl (.cons rfl (.cons rfl (.cons rfl .nil))))), rfl⟩
            · (conv=>whnf);refine pbr_f g28 ?_;(conv=>whnf);refine pbr_f g28 ?_;(conv=>whnf);refine pbr_f g28 ?_;(conv=>whnf);cases h27;exact ⟨(.cons rfl (.cons rfl (.cons rfl (.cons rfl (.cons rfl .nil))))), rfl⟩
          · refine po_all ?_;(conv=>whnf);refine pbr_oite h21 (fun g29 h21 => ?_) (fun g29 h21 => ?_)
            · (conv=>whnf);refine pbr_t g29 ?_;(conv=>whnf);refine pbr_t g29 ?_;(conv=>whnf);refine pbr_t g29 ?_;(conv=>whnf);refine pbr_t g29 ?_;(conv=>whnf);cases h21;exact ⟨(.cons rfl (.cons rfl (.cons rfl .nil))), rfl⟩
            · (conv=>whnf);refine pbr_f g29 ?_;(conv=>whnf);refine pbr_f g29 ?_;(conv=>whnf);obtain ⟨y30, h31, h21⟩ := obnd_some h21;refine (c381 h31).go ?_;(conv=>whnf);refine pbr_f g29 ?_;(conv=>whnf);refine pbr_f g29 ?_;(conv=>whnf);cases h21;exact ⟨(.cons rfl (.cons rfl (.cons rfl .nil))), rfl⟩
        · refine pw_cond ?_;(conv=>whnf);refine pbr_oite H (fun g32 H => ?_) (fun g32 H => ?_)
          · (conv=>whnf);refine pw_so ?_;refine po_all ?_;(conv=>whnf);refine pw_ret ?_;(conv=>whnf);cases H; rfl
          · (conv=>whnf);refine pw_skip ?_;(conv=>whnf);refine pw_seq ?_;refine pw_so ?_;refine po_all ?_;(conv=>whnf);obtain ⟨y33, h34, H⟩ := obnd_some H;refine (c39 h34).go ?_;(conv=>whnf);refine pw_cond ?_;(conv=>whnf);refine pbr_oite H (fun g35 H => ?_) (fun g35 H => ?_)
            · (conv=>whnf);refine pw_so ?_;refine po_all ?_;(conv=>whnf);refine pw_ret ?_;(conv=>whnf);cases H; rfl
            · (conv=>whnf);refine pw_skip ?_;(conv=>whnf);refine pw_so ?_;refine po_all ?_;(conv=>whnf);obtain ⟨y36, h37, H⟩ := obnd_some H;refine (c378 h37).go ?_;(conv=>whnf);refine pw_so ?_;refine po_ops 3 ?_;(conv=>whnf);obtain ⟨r38, h39, H⟩ := obnd_some H;refine po_seg (τ := Bool) 4 (fun e => ⟨[(64, (.bool e))], ⟨4, [(3, .rw [(VS 1 (y36.1.map eI)), (VS 1 (y36.2.1.map eI)), (.int .i64 y36.2.2.1), (VS 2 (y36.2.2.2.1.map e_SI))]), (2, .rw [(VS 1 (y18.1.map eI)), (VS 1 (y18.2.1.map eI)), (.int .i64 y18.2.2.1), (VS 2 (y18.2.2.2.1.map e_SI))]), (1, .rw [(VS 1 (y16.1.map eI)), (VS 1 (y16.2.1.map eI)), (.int .i64 y16.2.2.1), (VS 2 (y16.2.2.2.1.map e_SI))]), (0, .rw [(VS 1 (a0.map eI)), (VS 1 (a1.map eI)), (.int .i64 a2), (VS 2 (a3.map e_SI))])], false⟩⟩) r38 ?_ ?_
              · refine po_all ?_;(conv=>whnf);refine pbr_oite h39 (fun g40 h39 => ?_) (fun g40 h39 => ?_)
                · (conv=>whnf);refine pbr_t g40 ?_;(conv=>whnf);refine pbr_t g40 ?_;(conv=>whnf);obtain ⟨y41, h42, h39⟩ := obnd_some h39;refine (c381 h42).go ?_;(conv=>whnf);refine pbr_t g40 ?_;(conv=>whnf);cases h39;exact ⟨(.cons rfl .nil), rfl⟩
                · (conv=>whnf);refine pbr_f g40 ?_;(conv=>whnf);refine pbr_f g40 ?_;(conv=>whnf);refine pbr_f g40 ?_;(conv=>whnf);cases h39;exact ⟨(.cons rfl .nil), rfl⟩
              · refine po_all ?_;(conv=>whnf);refine pw_ret ?_;(conv=>whnf);cases H; rfl

end Go.Proofs.YtacgibkgojnfeaaGreatDoor.AM
