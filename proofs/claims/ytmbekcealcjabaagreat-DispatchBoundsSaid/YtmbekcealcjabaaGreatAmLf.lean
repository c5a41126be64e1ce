/- Computations of functions, and that the functions do them (printed by tools/lift.py). Conditions: none. -/
import Derived.Test.YtmbekcealcjabaaGreatAmMan
namespace Go.Proofs.YtmbekcealcjabaaGreat.AM
set_option linter.unusedSimpArgs false
set_option linter.unusedVariables false
open Go Go.RowKit
attribute [local irreducible] ICallV ICalls Recast rng

/-- guidevane/guidevanelaw08.Few -/
noncomputable def f307 [LO]  (_ : Int) (_ : Int) (a2 : List (ByteArray × Int × Int × Int)) : Option Bool :=
  oite ((ilt (7 : Int) ((a2.map e_SIII).length : Int))) (
   some false
    ) (
   obndS (
    oloop (τ := Int) (ρ := (Unit) ⊕ Bool) (fun e6 =>
     oite ((ilt e6 ((a2.map e_SIII).length : Int))) (
      ogrd ((ile 0 e6)) (
      obnd (a2[e6.toNat]?) fun (x11 : ByteArray × Int × Int × Int) =>
      oite ((ilt (20 : Int) (x11.1.size : Int))) (
       some (.inr (.inr (false)))
        ) (
       some (.inl (IntKind.i64.wrap (e6 + (1 : Int))))
        )
      )
       ) (
      some (.inr (.inl ()))
       )
      ) (0 : Int)
     ) fun (_ : Unit) =>
   some true
    )
set_option maxHeartbeats 1000000 in
theorem c307 [LO]  {a0 : Int} {a1 : Int} {a2 : List (ByteArray × Int × Int × Int)} {x : Bool} (H : f307 a0 a1 a2 = some x) : ICalls E 307 [(.agg ⟨[(.int .i64 a0), (.int .i64 a1), (VS 4 (a2.map e_SIII))]⟩)] AHeap.none fun v _ => v = (.bool x) := by
  refine icalls_fn (pfnw ?_); unfold f307 at H;(conv=>whnf);refine pw_so ?_;refine po_all ?_;(conv=>whnf);refine pw_seq ?_;refine pw_so ?_;refine po_all ?_;(conv=>whnf);refine pw_cond ?_;(conv=>whnf);refine pbr_oite H (fun g1 H => ?_) (fun g1 H => ?_)
  · (conv=>whnf);refine pw_so ?_;refine po_all ?_;(conv=>whnf);refine pw_ret ?_;(conv=>whnf);cases H; rfl
  · (conv=>whnf);refine pw_skip ?_;(conv=>whnf);obtain ⟨r2, h3, h4, h5⟩ := obndS_some H;refine pw_joinS (ρ := Unit) (fun e => ⟨[], ⟨1, [(0, .rw [(.int .i64 a0), (.int .i64 a1), (VS 4 (a2.map e_SIII))])], false⟩⟩) r2 ?_ ?_
    · refine pw_so ?_;refine po_all ?_;(conv=>whnf);refine pw_block ?_;refine pw_loop (τ := Int) (fun e => ⟨[(1, (.pointer (some ⟨0, 0, none⟩))), (3, (.int .i64 e))], ⟨1, [(0, .rw [(.int .i64 a0), (.int .i64 a1), (VS 4 (a2.map e_SIII))])], false⟩⟩) h3 ?_ (fun _ => Nat.le_of_ble_eq_true rfl) ?_
      · exact .sub' (Nat.le_of_ble_eq_true rfl) (.cons rfl (.cons rfl .nil))
      · intro e6 x7 h8;refine pw_seq ?_;refine pw_so ?_;refine po_all ?_;(conv=>whnf);refine pw_cond ?_;(conv=>whnf);refine pbr_oite h8 (fun g9 h8 => ?_) (fun g9 h8 => ?_)
        · (conv=>whnf);refine pw_skip ?_;(conv=>whnf);refine pw_seq ?_;refine pw_block ?_;refine pw_so ?_;refine po_all ?_;(conv=>whnf);refine pbr_ogrd h8 (fun g10 h8 => ?_);(conv=>whnf);refine nth_o (l := a2) h8 (fun x11 _ h8 => ?_);(conv=>whnf);refine pw_cond ?_;(conv=>whnf);refine pbr_oite h8 (fun g12 h8 => ?_) (fun g12 h8 => ?_)
          · (conv=>whnf);refine pw_so ?_;refine po_all ?_;(conv=>whnf);refine pw_ret ?_;(conv=>whnf);cases h8;refine ⟨_, rfl, ?_⟩; rintro rfl;(conv=>whnf);obtain rfl := h5 _ rfl; rfl
          · (conv=>whnf);refine pw_skip ?_;(conv=>whnf);refine pw_ops ?_;refine po_all ?_;(conv=>whnf);cases h8;refine ⟨_, rfl, ?_⟩;exact .sub' (Nat.le_of_ble_eq_true rfl) (.cons rfl (.cons rfl .nil))
        · (conv=>whnf);refine pw_exit ?_;(conv=>whnf);cases h8;refine ⟨_, rfl, ?_⟩; rintro rfl;(conv=>whnf);exact ⟨_, rfl, ⟨.nil, rfl⟩⟩
    · intro r15 hr; have H := h4 _ hr;refine pw_so ?_;refine po_all ?_;(conv=>whnf);refine pw_ret ?_;(conv=>whnf);cases H; rfl

/-- guidevane/guidevanelaw08.Short -/
noncomputable def f308  (_ : Int) (_ : Int) (_ : Int) (a3 : List (Int × Int × Int)) : Option Bool :=
  some (ile ((a3.map e_III).length : Int) (12 : Int))
set_option maxHeartbeats 1000000 in
theorem c308  {a0 : Int} {a1 : Int} {a2 : Int} {a3 : List (Int × Int × Int)} {x : Bool} (H : f308 a0 a1 a2 a3 = some x) : ICalls E 308 [(.agg ⟨[(.int .i64 a0), (.int .i64 a1), (.int .i64 a2), (VS 3 (a3.map e_III))]⟩)] AHeap.none fun v _ => v = (.bool x) := by
  refine icalls_fn (pfnw ?_); unfold f308 at H;(conv=>whnf);refine pw_so ?_;refine po_all ?_;(conv=>whnf);refine pw_so ?_;refine po_all ?_;(conv=>whnf);refine pw_ret ?_;(conv=>whnf);cases H; rfl

/-- guidevane/guidevaneref08.CopyPlant -/
noncomputable def f309  (a0 : Int) (a1 : Int) (a2 : List (ByteArray × Int × Int × Int)) : Option (Int × Int × (List (ByteArray × Int × Int × Int))) :=
  ogrd (fits 40 (([] : List (ByteArray × Int × Int × Int)).length + a2.length)) (
  some (a0, a1, (([] : List (ByteArray × Int × Int × Int)) ++ a2))
  )
set_option maxHeartbeats 1000000 in
theorem c309  {a0 : Int} {a1 : Int} {a2 : List (ByteArray × Int × Int × Int)} {x : Int × Int × (List (ByteArray × Int × Int × Int))} (H : f309 a0 a1 a2 = some x) : ICalls E 309 [(.agg ⟨[(.int .i64 a0), (.int .i64 a1), (VS 4 (a2.map e_SIII))]⟩)] AHeap.none fun v _ => v = (.agg ⟨[(.int .i64 x.1), (.int .i64 x.2.1), (VS 4 (x.2.2.map e_SIII))]⟩) := by
  refine ICalls.frz ?_;refine icalls_fn (pfnw ?_); unfold f309 at H;(conv=>whnf);refine pw_so ?_;refine po_all ?_;(conv=>whnf);refine pw_so ?_;refine po_all ?_;(conv=>whnf);refine app_o (l := ([] : List (ByteArray × Int × Int × Int))) (m := a2) (f := e_SIII) H (by rfl) (by rfl) (by rfl) (fun H => ?_);(conv=>whnf);refine pw_so ?_;refine po_all ?_;(conv=>whnf);refine pw_ret ?_;(conv=>whnf);cases H; show ∃ D, Fz _ D 0 (.agg ⟨[(.int .i64 a0), (.int .i64 a1), (VT 4 _ 2)]⟩) _;exact ⟨fun _ => false, .aggl (.cons .cl (.cons .cl (.cons .vtc (.nil))))⟩

/-- guidevane/guidevaneref08.CopyTask -/
noncomputable def f310  (a0 : Int) (a1 : Int) (a2 : Int) (a3 : List (Int × Int × Int)) : Option (Int × Int × Int × (List (Int × Int × Int))) :=
  ogrd (fits 24 (([] : List (Int × Int × Int)).length + a3.length)) (
  some (a0, a1, a2, (([] : List (Int × Int × Int)) ++ a3))
  )
set_option maxHeartbeats 1000000 in
theorem c310  {a0 : Int} {a1 : Int} {a2 : Int} {a3 : List (Int × Int × Int)} {x : Int × Int × Int × (List (Int × Int × Int))} (H : f310 a0 a1 a2 a3 = some x) : ICalls E 310 [(.agg ⟨[(.int .i64 a0), (.int .i64 a1), (.int .i64 a2), (VS 3 (a3.map e_III))]⟩)] AHeap.none fun v _ => v = (.agg ⟨[(.int .i64 x.1), (.int .i64 x.2.1), (.int .i64 x.2.2.1), (VS 3 (x.2.2.2.map e_III))]⟩) := by
  refine ICalls.frz ?_;refine icalls_fn (pfnw ?_); unfold f310 at H;(conv=>whnf);refine pw_so ?_;refine po_all ?_;(conv=>whnf);refine pw_so ?_;refine po_all ?_;(conv=>whnf);refine app_o (l := ([] : List (Int × Int × Int))) (m := a3) (f := e_III) H (by rfl) (by rfl) (by rfl) (fun H => ?_);(conv=>whnf);refine pw_so ?_;refine po_all ?_;(conv=>whnf);refine pw_ret ?_;(conv=>whnf);cases H; show ∃ D, Fz _ D 0 (.agg ⟨[(.int .i64 a0), (.int .i64 a1), (.int .i64 a2), (VT 3 _ 2)]⟩) _;exact ⟨fun _ => false, .aggl (.cons .cl (.cons .cl (.cons .cl (.cons .vtc (.nil)))))⟩

/-- guidevane/guidevanebase.CopyInts -/
noncomputable def f38  (a0 : List Int) : Option ((List Int)) :=
  ogrd (fits 8 (([] : List Int).length + a0.length)) (
  some (([] : List Int) ++ a0)
  )
set_option maxHeartbeats 1000000 in
theorem c38  {a0 : List Int} {x : (List Int)} (H : f38 a0 = some x) : ICalls E 38 [(VS 1 (a0.map eI))] AHeap.none fun v _ => v = (VS 1 (x.map eI)) := by
  refine ICalls.frz ?_;refine icalls_fn (pfnw ?_); unfold f38 at H;(conv=>whnf);refine pw_so ?_;refine po_all ?_;(conv=>whnf);refine pw_so ?_;refine po_all ?_;(conv=>whnf);refine app_o (l := ([] : List Int)) (m := a0) (f := eI) H (by rfl) (by rfl) (by rfl) (fun H => ?_);(conv=>whnf);refine pw_ret ?_;(conv=>whnf);cases H; show ∃ D, Fz _ D 0 (VT 1 _ 0) _;exact ⟨fun _ => false, .vtc⟩

/-- guidevane/guidevanebase.CopyLists -/
noncomputable def f332 [LO]  (a0 : List ((List Int))) : Option ((List ((List Int)))) :=
  obnd (
   oloop (τ := (List ((List Int))) × Int) (ρ := (List ((List Int)))) (fun e5 =>
    oite ((ilt e5.2 ((a0.map e_L1I).length : Int))) (
     ogrd ((ile 0 e5.2)) (
     obnd (a0[e5.2.toNat]?) fun (x10 : (List Int)) =>
     obnd (f38 x10) fun (y11 : (List Int)) =>
     ogrd (fits 24 (e5.1.length + ([y11] : List ((List Int))).length)) (
     some (.inl (((e5.1 ++ ([y11] : List ((List Int)))), (IntKind.i64.wrap (e5.2 + (1 : Int))))))
     )
     )
      ) (
     some (.inr (e5.1))
      )
     ) ((([] : List ((List Int))), (0 : Int)))
    ) fun (r1 : (List ((List Int)))) =>
  some r1
set_option maxHeartbeats 1000000 in
theorem c332 [LO]  {a0 : List ((List Int))} {x : (List ((List Int)))} (H : f332 a0 = some x) : ICalls E 332 [(VS 1 (a0.map e_L1I))] AHeap.none fun v _ => v = (VS 1 (x.map e_L1I)) := by
  refine ICalls.frz ?_;refine icalls_fn (pfnw ?_); unfold f332 at H;(conv=>whnf);refine pw_so ?_;refine po_all ?_;(conv=>whnf);refine pw_so ?_;refine po_all ?_;(conv=>whnf);obtain ⟨r1, h2, H⟩ := obnd_some H;refine pw_join (ρ := (List ((List Int)))) (fun e => ⟨[(3, (VT 1 (e.map e_L1I) 0))], ⟨1, [(0, .tail (e.map e_L1I).length 1)], false⟩⟩) r1 ?_ ?_
  · refine pw_so ?_;refine po_all ?_;(conv=>whnf);refine pw_block ?_;refine pw_loop (τ := (List ((List Int))) × Int) (fun e => ⟨[(0, (VS 1 (a0.map e_L1I))), (3, (VT 1 (e.1.map e_L1I) 0)), (4, (.int .i64 e.2))], ⟨1, [(0, .tail (e.1.map e_L1I).length 1)], false⟩⟩) h2 ?_ (fun _ => Nat.le_of_ble_eq_true rfl) ?_
    · exact (Recast.nilTs 1 (Nat.le_of_ble_eq_true rfl) (.same rfl (.turn rfl (.same rfl .nil))))
    · intro e5 x6 h7;refine pw_seq ?_;refine pw_so ?_;refine po_all ?_;(conv=>whnf);refine pw_cond ?_;(conv=>whnf);refine pbr_oite h7 (fun g8 h7 => ?_) (fun g8 h7 => ?_)
      · (conv=>whnf);refine pw_skip ?_;(conv=>whnf);refine pw_seq ?_;refine pw_block ?_;refine pw_ops ?_;refine po_all ?_;(conv=>whnf);refine pbr_ogrd h7 (fun g9 h7 => ?_);(conv=>whnf);refine nth_o (l := a0) h7 (fun x10 _ h7 => ?_);(conv=>whnf);obtain ⟨y11, h12, h7⟩ := obnd_some h7;refine (c38 h12).go ?_;(conv=>whnf);refine app_o (l := e5.1) (m := ([y11] : List ((List Int)))) (f := e_L1I) h7 (by rfl) (by rfl) (by rfl) (fun h7 => ?_);(conv=>whnf);refine pw_ops ?_;refine po_all ?_;(conv=>whnf);cases h7;refine ⟨_, rfl, ?_⟩;refine Recast.trunc (Nat.le_of_ble_eq_true rfl) ?_ ?_
        · repeat (first | exact .nil | refine .cons rfl (by first | exact OBnd.rwc (Nat.le_of_ble_eq_true rfl) rfl | exact OBnd.tail (Nat.le_of_ble_eq_true rfl) | trivial) ?_)
        · repeat (first | exact .nil | refine .cons rfl (by first | exact Bnd.ptr (Nat.le_of_ble_eq_true rfl) | exact Bnd.vt (Nat.le_of_ble_eq_true rfl) | exact Bnd.cl) ?_)
      · (conv=>whnf);refine pw_exit ?_;(conv=>whnf);cases h7;refine ⟨_, rfl, ?_⟩; rintro rfl;(conv=>whnf);exact ⟨(.cons rfl .nil), rfl⟩
  · refine pw_so ?_;refine po_all ?_;(conv=>whnf);refine pw_ret ?_;(conv=>whnf);cases H; show ∃ D, Fz _ D 0 (VT 1 _ 0) _;exact ⟨fun _ => false, .vtc⟩

/-- slices.IndexFunc[[][]int,[]int] -/
noncomputable def f368 [LO] (p0 : (List Int) → Option Bool) (a0 : List ((List Int))) : Option Int :=
  obndS (
   oloop (τ := Int) (ρ := (Unit) ⊕ Int) (fun e5 =>
    oite ((ilt e5 ((a0.map e_L1I).length : Int))) (
     ogrd ((ile 0 e5)) (
     obnd (a0[e5.toNat]?) fun (x10 : (List Int)) =>
     obnd (p0 x10) fun (y11 : Bool) =>
     oite y11 (
      some (.inr (.inr (e5)))
       ) (
      some (.inl (IntKind.i64.wrap (e5 + (1 : Int))))
       )
     )
      ) (
     some (.inr (.inl ()))
      )
     ) (0 : Int)
    ) fun (_ : Unit) =>
  some (-1 : Int)
set_option maxHeartbeats 1000000 in
theorem c368 [LO] {p0 : (List Int) → Option Bool} {a0 : List ((List Int))} {g0 : Value} [Cl g0] (hp0 : ∀ y0 y, p0 y0 = some y → ICallV E g0 [(VS 1 (y0.map eI))] AHeap.none fun v _ => v = (.bool y)) {x : Int} (H : f368 p0 a0 = some x) : ICalls E 368 [(VS 1 (a0.map e_L1I)), g0] AHeap.none fun v _ => v = (.int .i64 x) := by
  refine icalls_fn (pfnw ?_); unfold f368 at H;(conv=>whnf);refine pw_so ?_;refine po_all ?_;(conv=>whnf);obtain ⟨r1, h2, h3, h4⟩ := obndS_some H;refine pw_joinS (ρ := Unit) (fun e => ⟨[], ⟨0, [], false⟩⟩) r1 ?_ ?_
  · refine pw_so ?_;refine po_all ?_;(conv=>whnf);refine pw_block ?_;refine pw_loop (τ := Int) (fun e => ⟨[(0, (VS 1 (a0.map e_L1I))), (1, g0), (7, (.int .i64 ((a0.map e_L1I).length : Int))), (8, (.int .i64 e))], ⟨0, [], false⟩⟩) h2 ?_ (fun _ => Nat.le_of_ble_eq_true rfl) ?_
    · exact .sub' (Nat.le_of_ble_eq_true rfl) (.cons rfl (.cons rfl (.cons rfl (.cons rfl .nil))))
    · intro e5 x6 h7;refine pw_so ?_;refine po_all ?_;(conv=>whnf);refine pw_seq ?_;refine pw_cond ?_;(conv=>whnf);refine pbr_oite h7 (fun g8 h7 => ?_) (fun g8 h7 => ?_)
      · (conv=>whnf);refine pw_skip ?_;(conv=>whnf);refine pw_seq ?_;refine pw_block ?_;refine pw_so ?_;refine po_all ?_;(conv=>whnf);refine pw_so ?_;refine po_all ?_;(conv=>whnf);refine pbr_ogrd h7 (fun g9 h7 => ?_);(conv=>whnf);refine nth_o (l := a0) h7 (fun x10 _ h7 => ?_);(conv=>whnf);obtain ⟨y11, h12, h7⟩ := obnd_some h7;refine ICallV.go (hp0 _ _ h12) ?_;(conv=>whnf);refine pw_cond ?_;(conv=>whnf);refine pbr_oite h7 (fun g13 h7 => ?_) (fun g13 h7 => ?_)
        · (conv=>whnf);refine pw_so ?_;refine po_all ?_;(conv=>whnf);refine pw_ret ?_;(conv=>whnf);cases h7;refine ⟨_, rfl, ?_⟩; rintro rfl;(conv=>whnf);obtain rfl := h4 _ rfl; rfl
        · (conv=>whnf);refine pw_skip ?_;(conv=>whnf);refine pw_ops ?_;refine po_all ?_;(conv=>whnf);cases h7;refine ⟨_, rfl, ?_⟩;exact .sub' (Nat.le_of_ble_eq_true rfl) (.cons rfl (.cons rfl (.cons rfl (.cons rfl .nil))))
      · (conv=>whnf);refine pw_exit ?_;(conv=>whnf);cases h7;refine ⟨_, rfl, ?_⟩; rintro rfl;(conv=>whnf);exact ⟨_, rfl, ⟨.nil, rfl⟩⟩
  · intro r16 hr; have H := h3 _ hr;refine pw_so ?_;refine po_all ?_;(conv=>whnf);refine pw_ret ?_;(conv=>whnf);cases H; rfl

/-- slices.ContainsFunc[[][]int,[]int] -/
noncomputable def f357 [LO] (p0 : (List Int) → Option Bool) (a0 : List ((List Int))) : Option Bool :=
  obnd (f368 p0 a0) fun (y1 : Int) =>
  some (ile (0 : Int) y1)
set_option maxHeartbeats 1000000 in
theorem c357 [LO] {p0 : (List Int) → Option Bool} {a0 : List ((List Int))} {g0 : Value} [Cl g0] (hp0 : ∀ y0 y, p0 y0 = some y → ICallV E g0 [(VS 1 (y0.map eI))] AHeap.none fun v _ => v = (.bool y)) {x : Bool} (H : f357 p0 a0 = some x) : ICalls E 357 [(VS 1 (a0.map e_L1I)), g0] AHeap.none fun v _ => v = (.bool x) := by
  refine icalls_fn (pfnw ?_); unfold f357 at H;(conv=>whnf);refine pw_so ?_;refine po_all ?_;(conv=>whnf);refine pw_so ?_;refine po_all ?_;(conv=>whnf);obtain ⟨y1, h2, H⟩ := obnd_some H;refine (c368 hp0 h2).go ?_;(conv=>whnf);refine pw_ret ?_;(conv=>whnf);cases H; rfl

/-- guidevane/dispatch.CheckBound$1 -/
noncomputable def f358  (a0 : List Int) (a1 : Int) : Option Bool :=
  some (!(ieq ((a0.map eI).length : Int) a1))
set_option maxHeartbeats 1000000 in
theorem c358  {a0 : List Int} {a1 : Int} {x : Bool} (H : f358 a0 a1 = some x) : ICallV E (.func (.func (E.id 358)) ⟨[]⟩ ⟨[(VP (.agg ⟨[(.int .i64 a1)]⟩) 0)]⟩) [(VS 1 (a0.map eI))] AHeap.none fun v _ => v = (.bool x) := by
  refine icallv_fn (pfnw ?_); unfold f358 at H;(conv=>whnf);refine pw_so ?_;refine po_all ?_;(conv=>whnf);refine pw_so ?_;refine po_all ?_;(conv=>whnf);refine pw_ret ?_;(conv=>whnf);cases H; rfl

/-- slices.Concat[[]int,int] -/
noncomputable def f359 [LO]  (a0 : List ((List Int))) : Option ((List Int)) :=
  obnd (
   oloop (τ := Int × Int) (ρ := Int) (fun e5 =>
    oite ((ilt e5.2 ((a0.map e_L1I).length : Int))) (
     ogrd ((ile 0 e5.2)) (
     obnd (a0[e5.2.toNat]?) fun (x10 : (List Int)) =>
     oite ((ilt (IntKind.i64.wrap (e5.1 + ((x10.map eI).length : Int))) (0 : Int))) (
      none
       ) (
      some (.inl (((IntKind.i64.wrap (e5.1 + ((x10.map eI).length : Int))), (IntKind.i64.wrap (e5.2 + (1 : Int))))))
       )
     )
      ) (
     some (.inr (e5.1))
      )
     ) (((0 : Int), (0 : Int)))
    ) fun (r1 : Int) =>
  oite ((ilt r1 (0 : Int))) (
   none
    ) (
   oite ((ilt (0 : Int) (IntKind.i64.wrap (r1 - (0 : Int))))) (
    ogrd (mfits 8 (IntKind.i64.wrap (r1 - (0 : Int))) (IntKind.i64.wrap (r1 - (0 : Int)))) (
    ogrd (ile 1 (IntKind.i64.wrap (r1 - (0 : Int)))) (
    obnd (
     oloop (τ := Nat × Int × (List Int)) (ρ := Nat × (List Int)) (fun e21 =>
      oite ((ilt e21.2.1 ((a0.map e_L1I).length : Int))) (
       ogrd ((ile 0 e21.2.1)) (
       obnd (a0[e21.2.1.toNat]?) fun (x26 : (List Int)) =>
       ogrd (fits 8 (e21.1 + x26.length)) (
       ogrd (Nat.ble (e21.1 + x26.length) e21.2.2.length) (
       some (.inl (((e21.1 + x26.length), (IntKind.i64.wrap (e21.2.1 + (1 : Int))), (e21.2.2.take e21.1 ++ x26 ++ e21.2.2.drop (e21.1 + x26.length)))))
       )
       )
       )
        ) (
       some (.inr ((e21.1, e21.2.2)))
        )
       ) ((0, (0 : Int), (List.replicate (IntKind.i64.wrap (r1 - (0 : Int))).toNat (0 : Int))))
      ) fun (r17 : Nat × (List Int)) =>
    ogrd (Nat.beq r17.1 r17.2.length) (
    some r17.2
    )
    )
    )
     ) (
    obnd (
     oloop (τ := (List Int) × Int) (ρ := (List Int)) (fun e33 =>
      oite ((ilt e33.2 ((a0.map e_L1I).length : Int))) (
       ogrd ((ile 0 e33.2)) (
       obnd (a0[e33.2.toNat]?) fun (x38 : (List Int)) =>
       ogrd (fits 8 (e33.1.length + x38.length)) (
       some (.inl (((e33.1 ++ x38), (IntKind.i64.wrap (e33.2 + (1 : Int))))))
       )
       )
        ) (
       some (.inr (e33.1))
        )
       ) ((([] : List Int), (0 : Int)))
      ) fun (r29 : (List Int)) =>
    some r29
     )
    )
set_option maxHeartbeats 1000000 in
theorem c359 [LO]  {a0 : List ((List Int))} {x : (List Int)} (H : f359 a0 = some x) : ICalls E 359 [(VS 1 (a0.map e_L1I))] AHeap.none fun v _ => v = (VS 1 (x.map eI)) := by
  refine ICalls.frz ?_;refine icalls_fn (pfnw ?_); unfold f359 at H;(conv=>whnf);refine pw_so ?_;refine po_all ?_;(conv=>whnf);refine pw_so ?_;refine po_all ?_;(conv=>whnf);obtain ⟨r1, h2, H⟩ := obnd_some H;refine pw_join (ρ := Int) (fun e => ⟨[(0, (VS 1 (a0.map e_L1I))), (3, (.int .i64 e))], ⟨0, [], false⟩⟩) r1 ?_ ?_
  · refine pw_so ?_;refine po_all ?_;(conv=>whnf);refine pw_block ?_;refine pw_loop (τ := Int × Int) (fun e => ⟨[(0, (VS 1 (a0.map e_L1I))), (3, (.int .i64 e.1)), (9, (VS 1 (a0.map e_L1I))), (10, (.int .i64 ((a0.map e_L1I).length : Int))), (11, (.int .i64 e.2))], ⟨0, [], false⟩⟩) h2 ?_ (fun _ => Nat.le_of_ble_eq_true rfl) ?_
    · exact .sub' (Nat.le_of_ble_eq_true rfl) (.cons rfl (.cons rfl (.cons rfl (.cons rfl (.cons rfl .nil)))))
    · intro e5 x6 h7;refine pw_so ?_;refine po_all ?_;(conv=>whnf);refine pw_seq ?_;refine pw_cond ?_;(conv=>whnf);refine pbr_oite h7 (fun g8 h7 => ?_) (fun g8 h7 => ?_)
      · (conv=>whnf);refine pw_skip ?_;(conv=>whnf);refine pw_seq ?_;refine pw_block ?_;refine pw_so ?_;refine po_all ?_;(conv=>whnf);refine pbr_ogrd h7 (fun g9 h7 => ?_);(conv=>whnf);refine nth_o (l := a0) h7 (fun x10 _ h7 => ?_);(conv=>whnf);refine pw_so ?_;refine po_all ?_;(conv=>whnf);refine pw_so ?_;refine po_all ?_;(conv=>whnf);refine pw_cond ?_;(conv=>whnf);refine pbr_oite h7 (fun g11 h7 => ?_) (fun g11 h7 => ?_)
        · (conv=>whnf);cases h7
        · (conv=>whnf);refine pw_skip ?_;(conv=>whnf);refine pw_ops ?_;refine po_all ?_;(conv=>whnf);cases h7;refine ⟨_, rfl, ?_⟩;exact .sub' (Nat.le_of_ble_eq_true rfl) (.cons rfl (.cons rfl (.cons rfl (.cons rfl (.cons rfl .nil)))))
      · (conv=>whnf);refine pw_exit ?_;(conv=>whnf);cases h7;refine ⟨_, rfl, ?_⟩; rintro rfl;(conv=>whnf);exact ⟨(.cons rfl (.cons rfl .nil)), rfl⟩
  · refine pw_so ?_;refine po_all ?_;(conv=>whnf);refine pcalls_in ?_;(conv=>whnf);refine pw_so ?_;refine po_all ?_;(conv=>whnf);refine pw_seq ?_;refine pw_so ?_;refine po_all ?_;(conv=>whnf);refine pw_cond ?_;(conv=>whnf);refine pbr_oite H (fun g13 H => ?_) (fun g13 H => ?_)
    · (conv=>whnf);cases H
    · (conv=>whnf);refine pw_skip ?_;(conv=>whnf);refine pw_seq ?_;refine pw_so ?_;refine po_all ?_;(conv=>whnf);refine pw_so ?_;refine po_all ?_;(conv=>whnf);refine pw_cond ?_;(conv=>whnf);refine pbr_oite H (fun g14 H => ?_) (fun g14 H => ?_)
      · (conv=>whnf);refine pw_ops ?_;refine po_all ?_;(conv=>whnf);obtain ⟨g15, H⟩ := ogrd_some H;obtain ⟨g16, H⟩ := ogrd_some H;refine mkz_o (x := (0 : Int)) rfl g15 g16 ?_;(conv=>whnf);refine shz_o (by rfl) ?_;(conv=>whnf);refine pw_so ?_;refine po_all ?_;(conv=>whnf);refine pw_ret ?_;(conv=>whnf);obtain ⟨r17, h18, H⟩ := obnd_some H;refine pw_join (ρ := Nat × (List Int)) (fun e => ⟨[(6, (.slice (some ⟨0, 0, none⟩) e.1 2))], ⟨1, [(0, .rw (e.2.map eI))], false⟩⟩) r17 ?_ ?_
        · refine pw_so ?_;refine po_all ?_;(conv=>whnf);refine pw_block ?_;refine pw_loop (τ := Nat × Int × (List Int)) (fun e => ⟨[(6, (.slice (some ⟨0, 0, none⟩) e.1 2)), (25, (VS 1 (a0.map e_L1I))), (26, (.int .i64 ((a0.map e_L1I).length : Int))), (27, (.int .i64 e.2.1))], ⟨1, [(0, .rw (e.2.2.map eI))], false⟩⟩) h18 ?_ (fun _ => Nat.le_of_ble_eq_true rfl) ?_
          · exact .sub' (Nat.le_of_ble_eq_true rfl) (.cons rfl (.cons rfl (.cons rfl (.cons rfl .nil))))
          · intro e21 x22 h23;refine pw_so ?_;refine po_all ?_;(conv=>whnf);refine pw_seq ?_;refine pw_cond ?_;(conv=>whnf);refine pbr_oite h23 (fun g24 h23 => ?_) (fun g24 h23 => ?_)
            · (conv=>whnf);refine pw_skip ?_;(conv=>whnf);refine pw_seq ?_;refine pw_block ?_;refine pw_so ?_;refine po_all ?_;(conv=>whnf);refine pbr_ogrd h23 (fun g25 h23 => ?_);(conv=>whnf);refine nth_o (l := a0) h23 (fun x26 _ h23 => ?_);(conv=>whnf);refine pw_ops ?_;refine po_all ?_;(conv=>whnf);refine appin_o (l := e21.2.2) (m := x26) (n := e21.1) h23 (by rfl) (fun h23 => ?_);(conv=>whnf);refine pw_ops ?_;refine po_all ?_;(conv=>whnf);cases h23;refine ⟨_, rfl, ?_⟩;exact .sub' (Nat.le_of_ble_eq_true rfl) (.cons rfl (.cons rfl (.cons rfl (.cons rfl .nil))))
            · (conv=>whnf);refine pw_exit ?_;(conv=>whnf);cases h23;refine ⟨_, rfl, ?_⟩; rintro rfl;(conv=>whnf);exact ⟨(.cons rfl .nil), rfl⟩
        · refine pw_so ?_;refine po_all ?_;(conv=>whnf);refine pw_ret ?_;(conv=>whnf);obtain ⟨g28, H⟩ := ogrd_some H;cases H;exact ⟨fun b => Nat.beq b 0, .slm rfl rfl g28 (fun _ => rfl)⟩
      · (conv=>whnf);refine pw_skip ?_;(conv=>whnf);refine pw_so ?_;refine po_all ?_;(conv=>whnf);refine pw_ret ?_;(conv=>whnf);obtain ⟨r29, h30, H⟩ := obnd_some H;refine pw_join (ρ := (List Int)) (fun e => ⟨[(6, (VT 1 (e.map eI) 0))], ⟨1, [(0, .tail (e.map eI).length 1)], false⟩⟩) r29 ?_ ?_
        · refine pw_so ?_;refine po_all ?_;(conv=>whnf);refine pw_block ?_;refine pw_loop (τ := (List Int) × Int) (fun e => ⟨[(6, (VT 1 (e.1.map eI) 0)), (25, (VS 1 (a0.map e_L1I))), (26, (.int .i64 ((a0.map e_L1I).length : Int))), (27, (.int .i64 e.2))], ⟨1, [(0, .tail (e.1.map eI).length 1)], false⟩⟩) h30 ?_ (fun _ => Nat.le_of_ble_eq_true rfl) ?_
          · exact (Recast.nilTs 1 (Nat.le_of_ble_eq_true rfl) (.turn rfl (.same rfl (.same rfl (.same rfl .nil)))))
          · intro e33 x34 h35;refine pw_so ?_;refine po_all ?_;(conv=>whnf);refine pw_seq ?_;refine pw_cond ?_;(conv=>whnf);refine pbr_oite h35 (fun g36 h35 => ?_) (fun g36 h35 => ?_)
            · (conv=>whnf);refine pw_skip ?_;(conv=>whnf);refine pw_seq ?_;refine pw_block ?_;refine pw_so ?_;refine po_all ?_;(conv=>whnf);refine pbr_ogrd h35 (fun g37 h35 => ?_);(conv=>whnf);refine nth_o (l := a0) h35 (fun x38 _ h35 => ?_);(conv=>whnf);refine pw_ops ?_;refine po_all ?_;(conv=>whnf);refine app_o (l := e33.1) (m := x38) (f := eI) h35 (by rfl) (by rfl) (by rfl) (fun h35 => ?_);(conv=>whnf);refine pw_ops ?_;refine po_all ?_;(conv=>whnf);cases h35;refine ⟨_, rfl, ?_⟩;exact .sub' (Nat.le_of_ble_eq_true rfl) (.cons rfl (.cons rfl (.cons rfl (.cons rfl .nil))))
            · (conv=>whnf);refine pw_exit ?_;(conv=>whnf);cases h35;refine ⟨_, rfl, ?_⟩; rintro rfl;(conv=>whnf);exact ⟨(.cons rfl .nil), rfl⟩
        · refine pw_so ?_;refine po_all ?_;(conv=>whnf);refine pw_ret ?_;(conv=>whnf);cases H; show ∃ D, Fz _ D 0 (VT 1 _ 0) _;exact ⟨fun _ => false, .vtc⟩

/-- guidevane/dispatch.CheckBound$2 -/
noncomputable def f360  (a0 : Int) : Option Bool :=
  obnd (f235 a0 (1000000000000 : Int)) fun (y1 : Bool) =>
  some (!y1)
set_option maxHeartbeats 1000000 in
theorem c360  {a0 : Int} {x : Bool} (H : f360 a0 = some x) : ICalls E 360 [(.int .i64 a0)] AHeap.none fun v _ => v = (.bool x) := by
  refine icalls_fn (pfnw ?_); unfold f360 at H;(conv=>whnf);refine pw_so ?_;refine po_all ?_;(conv=>whnf);refine pw_so ?_;refine po_all ?_;(conv=>whnf);obtain ⟨y1, h2, H⟩ := obnd_some H;refine (c235 h2).go ?_;(conv=>whnf);refine pw_ret ?_;(conv=>whnf);cases H; rfl

/-- (guidevane/dispatch.work).valid -/
noncomputable def f361 [LO]  (a0 : Int) (a1 : Int) (a2 : List (ByteArray × Int × Int × Int)) (a3 : Int) (a4 : Int) (a5 : Int) (a6 : List (Int × Int × Int)) (a7 : List ((List Int))) (a8 : Int) (a9 : Int) (a10 : Int) (a11 : Int) : Option Bool :=
  oite ((ieq a8 ((a6.map e_III).length : Int))) (
   some (ile (IntKind.i64.wrap (a5 * a9)) a11)
    ) (
   obndS (
    oloop (τ := Int) (ρ := (Unit) ⊕ Bool) (fun e6 =>
     oite ((ilt e6 ((a2.map e_SIII).length : Int))) (
      obnd (f242 a0 a1 a2 a3 a4 a5 a6 a9 a8 e6) fun (y10 : Int) =>
      obnd (f243 a0 a1 a2 a3 a4 a5 a6 y10) fun (y12 : Bool) =>
      oite y12 (
       ogrd ((ile 0 (IntKind.i64.wrap (a8 + (1 : Int))))) (
       obnd (a7[(IntKind.i64.wrap (a8 + (1 : Int))).toNat]?) fun (x16 : (List Int)) =>
       obnd (f239 a0 a1 a2 a3 a4 a5 a6 a8 a10 e6) fun (y17 : Int) =>
       obnd (f234 a0 a1 a2 a3 a4 a5 a6 y10 e6) fun (y19 : Int) =>
       ogrd ((ile 0 y19)) (
       obnd (x16[y19.toNat]?) fun (x22 : Int) =>
       oite ((ilt a11 (IntKind.i64.wrap (y17 + x22)))) (
        some (.inr (.inr (false)))
         ) (
        some (.inl (IntKind.i64.wrap (e6 + (1 : Int))))
         )
       )
       )
        ) (
       some (.inl (IntKind.i64.wrap (e6 + (1 : Int))))
        )
       ) (
      some (.inr (.inl ()))
       )
      ) (0 : Int)
     ) fun (_ : Unit) =>
   some true
    )
set_option maxHeartbeats 1000000 in
theorem c361 [LO]  {a0 : Int} {a1 : Int} {a2 : List (ByteArray × Int × Int × Int)} {a3 : Int} {a4 : Int} {a5 : Int} {a6 : List (Int × Int × Int)} {a7 : List ((List Int))} {a8 : Int} {a9 : Int} {a10 : Int} {a11 : Int} {x : Bool} (H : f361 a0 a1 a2 a3 a4 a5 a6 a7 a8 a9 a10 a11 = some x) : ICalls E 361 [(.agg ⟨[(.int .i64 a0), (.int .i64 a1), (VS 4 (a2.map e_SIII)), (.int .i64 a3), (.int .i64 a4), (.int .i64 a5), (VS 3 (a6.map e_III))]⟩), (VS 1 (a7.map e_L1I)), (.int .i64 a8), (.int .i64 a9), (.int .i64 a10), (.int .i64 a11)] AHeap.none fun v _ => v = (.bool x) := by
  refine icalls_fn (pfnw ?_); unfold f361 at H;(conv=>whnf);refine pw_so ?_;refine po_all ?_;(conv=>whnf);refine pw_seq ?_;refine pw_so ?_;refine po_all ?_;(conv=>whnf);refine pw_cond ?_;(conv=>whnf);refine pbr_oite H (fun g1 H => ?_) (fun g1 H => ?_)
  · (conv=>whnf);refine pw_so ?_;refine po_all ?_;(conv=>whnf);refine pw_ret ?_;(conv=>whnf);cases H; rfl
  · (conv=>whnf);refine pw_skip ?_;(conv=>whnf);obtain ⟨r2, h3, h4, h5⟩ := obndS_some H;refine pw_joinS (ρ := Unit) (fun e => ⟨[(12, (.pointer (some ⟨5, 0, none⟩)))], ⟨10, [(9, .dead), (8, .rw [(.int .i64 a8)]), (7, .rw [(.int .i64 a9)]), (6, .rw [(.int .i64 a0), (.int .i64 a1), (VS 4 (a2.map e_SIII)), (.int .i64 a3), (.int .i64 a4), (.int .i64 a5), (VS 3 (a6.map e_III))]), (5, .rw [(.bool false)]), (4, .rw [(.int .i64 a11)]), (3, .rw [(.int .i64 a10)]), (2, .rw [(.int .i64 a8)]), (1, .rw [(VS 1 (a7.map e_L1I))]), (0, .rw [(.int .i64 a0), (.int .i64 a1), (VS 4 (a2.map e_SIII)), (.int .i64 a3), (.int .i64 a4), (.int .i64 a5), (VS 3 (a6.map e_III))])], false⟩⟩) r2 ?_ ?_
    · refine pw_so ?_;refine po_all ?_;(conv=>whnf);refine pcalls_in ?_;(conv=>whnf);refine pw_so ?_;refine po_all ?_;(conv=>whnf);refine pw_so ?_;refine po_all ?_;(conv=>whnf);refine pw_ret ?_;(conv=>whnf);refine pw_block ?_;refine pw_range [6, 7, 8, 10, 11, 12, 31] ?_;(conv=>whnf);refine pcallv_in ?_;(conv=>whnf);refine pw_so ?_;refine po_all ?_;(conv=>whnf);refine pw_block ?_;refine pw_loop (τ := Int) (fun e => ⟨[(0, (.func (.yield 9) #[] #[])), (1, (.pointer (some ⟨6, 0, none⟩))), (2, (.pointer (some ⟨7, 0, none⟩))), (3, (.pointer (some ⟨8, 0, none⟩))), (10, (.int .i64 ((a2.map e_SIII).length : Int))), (11, (.int .i64 e))], ⟨10, [(9, .loop ⟨.ready, none, [(6, (.pointer (some ⟨0, 0, none⟩))), (7, (.pointer (some ⟨1, 0, none⟩))), (8, (.pointer (some ⟨2, 0, none⟩))), (10, (.pointer (some ⟨3, 0, none⟩))), (11, (.pointer (some ⟨4, 0, none⟩))), (12, (.pointer (some ⟨5, 0, none⟩))), (31, (.func (.func (E.id 251)) ⟨[]⟩ ⟨[(.pointer (some ⟨6, 0, none⟩)), (.pointer (some ⟨7, 0, none⟩)), (.pointer (some ⟨8, 0, none⟩))]⟩))], 53, #[32, 33], (rng 102 0).1, (rng 102 0).2⟩), (8, .rw [(.int .i64 a8)]), (7, .rw [(.int .i64 a9)]), (6, .rw [(.int .i64 a0), (.int .i64 a1), (VS 4 (a2.map e_SIII)), (.int .i64 a3), (.int .i64 a4), (.int .i64 a5), (VS 3 (a6.map e_III))]), (5, .rw [(.bool false)]), (4, .rw [(.int .i64 a11)]), (3, .rw [(.int .i64 a10)]), (2, .rw [(.int .i64 a8)]), (1, .rw [(VS 1 (a7.map e_L1I))]), (0, .rw [(.int .i64 a0), (.int .i64 a1), (VS 4 (a2.map e_SIII)), (.int .i64 a3), (.int .i64 a4), (.int .i64 a5), (VS 3 (a6.map e_III))])], false⟩⟩) h3 ?_ (fun _ => Nat.le_of_ble_eq_true rfl) ?_
      · exact .sub' (Nat.le_of_ble_eq_true rfl) (.cons rfl (.cons rfl (.cons rfl (.cons rfl (.cons rfl (.cons rfl .nil))))))
      · intro e6 x7 h8;refine pw_so ?_;refine po_all ?_;(conv=>whnf);refine pw_seq ?_;refine pw_cond ?_;(conv=>whnf);refine pbr_oite h8 (fun g9 h8 => ?_) (fun g9 h8 => ?_)
        · (conv=>whnf);refine pw_skip ?_;(conv=>whnf);refine pw_seq ?_;refine pw_block ?_;refine pw_so ?_;refine po_all ?_;(conv=>whnf);refine pw_so ?_;refine po_all ?_;(conv=>whnf);obtain ⟨y10, h11, h8⟩ := obnd_some h8;refine (c242 h11).go ?_;(conv=>whnf);refine pw_so ?_;refine po_all ?_;(conv=>whnf);obtain ⟨y12, h13, h8⟩ := obnd_some h8;refine (c243 h13).go ?_;(conv=>whnf);refine pbr_oite h8 (fun g14 h8 => ?_) (fun g14 h8 => ?_)
          · (conv=>whnf);refine pbr_t g14 ?_;(conv=>whnf);refine pbr_t g14 ?_;(conv=>whnf);refine pbr_t g14 ?_;(conv=>whnf);refine pcallv_yield ir361a0 ir361b0 rfl rfl ra361_0 rb361_0 ⟨_, _, _, _, rfl⟩ ?_;(conv=>whnf);refine pw_so ?_;refine po_all ?_;(conv=>whnf);refine pw_ops ?_;refine po_all ?_;(conv=>whnf);refine pw_block ?_;refine pw_sd ?_;(conv=>whnf);refine pbr_ogrd h8 (fun g15 h8 => ?_);(conv=>whnf);refine nth_o (l := a7) h8 (fun x16 _ h8 => ?_);(conv=>whnf);refine ⟨?_, trivial⟩;(conv=>whnf);obtain ⟨y17, h18, h8⟩ := obnd_some h8;refine (c239 h18).go ?_;(conv=>whnf);refine ⟨by repeat (first | exact trivial | refine And.intro rfl ?_), ?_⟩
            (conv=>whnf);refine ⟨?_, trivial⟩;(conv=>whnf);obtain ⟨y19, h20, h8⟩ := obnd_some h8;refine (c234 h20).go ?_;(conv=>whnf);refine ⟨by repeat (first | exact trivial | refine And.intro rfl ?_), ?_⟩;(conv=>whnf);refine pbr_ogrd h8 (fun g21 h8 => ?_);(conv=>whnf);refine nth_o (l := x16) h8 (fun x22 _ h8 => ?_);(conv=>whnf);refine pw_cond ?_;(conv=>whnf);refine pbr_oite h8 (fun g23 h8 => ?_) (fun g23 h8 => ?_)
            · (conv=>whnf);refine pw_so ?_;refine po_all ?_;(conv=>whnf);refine pw_ret ?_;(conv=>whnf);refine pbr_t g14 ?_;(conv=>whnf);refine pbr_t g14 ?_;(conv=>whnf);refine pw_cond ?_;(conv=>whnf);refine pw_ret ?_;(conv=>whnf);cases h8;refine ⟨_, rfl, ?_⟩; rintro rfl;(conv=>whnf);obtain rfl := h5 _ rfl; rfl
            · (conv=>whnf);refine pw_skip ?_;(conv=>whnf);refine pbr_t g14 ?_;(conv=>whnf);refine pbr_t g14 ?_;(conv=>whnf);refine pw_cond ?_;(conv=>whnf);refine pw_skip ?_;(conv=>whnf);refine pw_ops ?_;refine po_all ?_;(conv=>whnf);cases h8;refine ⟨_, rfl, ?_⟩;exact .sub' (Nat.le_of_ble_eq_true rfl) (.cons rfl (.cons rfl (.cons rfl (.cons rfl (.cons rfl (.cons rfl .nil))))))
          · (conv=>whnf);refine pbr_f g14 ?_;(conv=>whnf);refine pbr_f g14 ?_;(conv=>whnf);refine pbr_f g14 ?_;(conv=>whnf);refine pbr_f g14 ?_;(conv=>whnf);refine pbr_f g14 ?_;(conv=>whnf);refine pw_cond ?_;(conv=>whnf);refine pw_skip ?_;(conv=>whnf);refine pw_ops ?_;refine po_all ?_;(conv=>whnf);cases h8;refine ⟨_, rfl, ?_⟩;exact .sub' (Nat.le_of_ble_eq_true rfl) (.cons rfl (.cons rfl (.cons rfl (.cons rfl (.cons rfl (.cons rfl .nil))))))
        · (conv=>whnf);refine pw_exit ?_;(conv=>whnf);cases h8;refine ⟨_, rfl, ?_⟩; rintro rfl;(conv=>whnf);exact ⟨_, rfl, ⟨(.cons rfl .nil), rfl⟩⟩
    · intro r26 hr; have H := h4 _ hr;refine pw_so ?_;refine po_all ?_;(conv=>whnf);refine pw_ret ?_;(conv=>whnf);cases H; rfl

/-- guidevane/dispatch.CheckBound -/
noncomputable def f331 [LO]  (a0 : Int) (a1 : Int) (a2 : List (ByteArray × Int × Int × Int)) (a3 : Int) (a4 : Int) (a5 : Int) (a6 : List (Int × Int × Int)) (a7 : List ((List Int))) : Option (Int × Int) :=
  obnd (f219 a0 a1 a2 a3 a4 a5 a6) fun (y1 : Int × Int × (List (ByteArray × Int × Int × Int)) × Int × Int × Int × (List (Int × Int × Int)) × Int) =>
  oite ((!(ieq y1.2.2.2.2.2.2.2 (0 : Int)))) (
   some ((0 : Int), y1.2.2.2.2.2.2.2)
    ) (
   obnd (f234 y1.1 y1.2.1 y1.2.2.1 y1.2.2.2.1 y1.2.2.2.2.1 y1.2.2.2.2.2.1 y1.2.2.2.2.2.2.1 y1.2.1 ((IntKind.i64.wrap (((y1.2.2.1.map e_SIII).length : Int) - (1 : Int))))) fun (y4 : Int) =>
   obnd (f357 (fun (z0 : List Int) => f358 z0 (IntKind.i64.wrap (y4 + (1 : Int)))) a7) fun (y6 : Bool) =>
   obnd (f359 a7) fun (y8 : (List Int)) =>
   obnd (f80 (fun (z0 : Int) => f360 z0) y8) fun (y10 : Bool) =>
   obnd (
    oite ((ieq ((a7.map e_L1I).length : Int) (IntKind.i64.wrap (((a6.map e_III).length : Int) + (1 : Int))))) (
     some (!y6)
      ) (
     some false
      )
     ) fun (r12 : Bool) =>
   obnd (f214 r12 (10 : Int)) fun (y15 : Int) =>
   obnd (f214 (!y10) (2 : Int)) fun (y17 : Int) =>
   obnd (f213 ([y15, y17] : List Int)) fun (y19 : Int) =>
   oite ((!(ieq y19 (0 : Int)))) (
    some ((0 : Int), y19)
     ) (
    obndS (
     oloop (τ := Int) (ρ := (Unit) ⊕ (Int × Int)) (fun e26 =>
      oite ((ilt e26 ((a7.map e_L1I).length : Int))) (
       obndS (
        ogrd ((ile 0 e26)) (
        obnd (a7[e26.toNat]?) fun (x35 : (List Int)) =>
        oloop (τ := Int) (ρ := (Unit) ⊕ ((Int) ⊕ ((Unit) ⊕ (Int × Int)))) (fun e36 =>
         oite ((ile e36 y1.2.1)) (
          obndS (
           oloop (τ := Int) (ρ := (Unit) ⊕ ((Int) ⊕ ((Unit) ⊕ ((Int) ⊕ ((Unit) ⊕ (Int × Int)))))) (fun e44 =>
            oite ((ilt e44 ((y1.2.2.1.map e_SIII).length : Int))) (
             obnd (f234 y1.1 y1.2.1 y1.2.2.1 y1.2.2.2.1 y1.2.2.2.2.1 y1.2.2.2.2.2.1 y1.2.2.2.2.2.2.1 e36 e44) fun (y48 : Int) =>
             ogrd ((ile 0 y48)) (
             obnd (x35[y48.toNat]?) fun (x51 : Int) =>
             obnd (f361 y1.1 y1.2.1 y1.2.2.1 y1.2.2.2.1 y1.2.2.2.2.1 y1.2.2.2.2.2.1 y1.2.2.2.2.2.2.1 a7 e26 e36 e44 x51) fun (y52 : Bool) =>
             oite (!y52) (
              some (.inr (.inr (.inr (.inr (.inr (.inr (((0 : Int), (19 : Int)))))))))
               ) (
              some (.inl (IntKind.i64.wrap (e44 + (1 : Int))))
               )
             )
              ) (
             some (.inr (.inl ()))
              )
             ) (0 : Int)
            ) fun (_ : Unit) =>
          some (.inl (IntKind.i64.wrap (e36 + (1 : Int))))
           ) (
          some (.inr (.inl ()))
           )
          ) y1.1
        )
         ) fun (_ : Unit) =>
       some (.inl (IntKind.i64.wrap (e26 + (1 : Int))))
        ) (
       some (.inr (.inl ()))
        )
       ) (0 : Int)
      ) fun (_ : Unit) =>
    obnd (a7[(0 : Int).toNat]?) fun (x64 : (List Int)) =>
    obnd (f234 y1.1 y1.2.1 y1.2.2.1 y1.2.2.2.1 y1.2.2.2.2.1 y1.2.2.2.2.2.1 y1.2.2.2.2.2.2.1 a3 a4) fun (y65 : Int) =>
    ogrd ((ile 0 y65)) (
    obnd (x64[y65.toNat]?) fun (x68 : Int) =>
    some (x68, (0 : Int))
    )
     )
    )
set_option maxHeartbeats 1000000 in
theorem c331 [LO]  {a0 : Int} {a1 : Int} {a2 : List (ByteArray × Int × Int × Int)} {a3 : Int} {a4 : Int} {a5 : Int} {a6 : List (Int × Int × Int)} {a7 : List ((List Int))} {x : Int × Int} (H : f331 a0 a1 a2 a3 a4 a5 a6 a7 = some x) : ICalls E 331 [(.agg ⟨[(.int .i64 a0), (.int .i64 a1), (VS 4 (a2.map e_SIII))]⟩), (.agg ⟨[(.int .i64 a3), (.int .i64 a4), (.int .i64 a5), (VS 3 (a6.map e_III))]⟩), (VS 1 (a7.map e_L1I))] AHeap.none fun v _ => v = (.tuple ⟨[(.int .i64 x.1), (.int .i64 x.2)]⟩) := by
  refine icalls_fn (pfnw ?_); unfold f331 at H;(conv=>whnf);refine pw_so ?_;refine po_all ?_;(conv=>whnf);refine pw_so ?_;refine po_all ?_;(conv=>whnf);obtain ⟨y1, h2, H⟩ := obnd_some H;refine (c219 h2).go ?_;(conv=>whnf);refine pw_seq ?_;refine pw_so ?_;refine po_all ?_;(conv=>whnf);refine pw_cond ?_;(conv=>whnf);refine pbr_oite H (fun g3 H => ?_) (fun g3 H => ?_)
  · (conv=>whnf);refine pw_so ?_;refine po_all ?_;(conv=>whnf);refine pw_ret ?_;(conv=>whnf);cases H; rfl
  · (conv=>whnf);refine pw_skip ?_;(conv=>whnf);refine pw_so ?_;refine po_all ?_;(conv=>whnf);obtain ⟨y4, h5, H⟩ := obnd_some H;refine (c234 h5).go ?_;(conv=>whnf);refine pw_so ?_;refine po_all ?_;(conv=>whnf);obtain ⟨y6, h7, H⟩ := obnd_some H;refine ICalls.goD (c357 (fun _ _ h => (c358 h)) h7) (.cons .cl (.cons (.func .nil (.cons (.ptr rfl (by intro v hv; simp only [List.mem_cons, List.not_mem_nil, or_false] at hv; rcases hv with rfl <;> rfl)) .nil)) .nil)) rfl ?_;(conv=>whnf);refine pw_so ?_;refine po_all ?_;(conv=>whnf);obtain ⟨y8, h9, H⟩ := obnd_some H;refine (c359 h9).go ?_;(conv=>whnf);obtain ⟨y10, h11, H⟩ := obnd_some H
    refine (c80 (fun _ _ h => (c360 h).asV) h11).go ?_;(conv=>whnf);refine pw_so ?_;refine po_ops 8 ?_;(conv=>whnf);obtain ⟨r12, h13, H⟩ := obnd_some H;refine po_seg (τ := Bool) 3 (fun e => ⟨[(2, (VS 1 (a7.map e_L1I))), (4, (.pointer (some ⟨1, 0, none⟩))), (8, (.pointer (some ⟨2, 0, none⟩))), (12, (.bool y10)), (53, (.bool e))], ⟨4, [(3, .rw [(.int .i64 (IntKind.i64.wrap (y4 + (1 : Int))))]), (2, .rw [(.int .i64 y1.1), (.int .i64 y1.2.1), (VS 4 (y1.2.2.1.map e_SIII)), (.int .i64 y1.2.2.2.1), (.int .i64 y1.2.2.2.2.1), (.int .i64 y1.2.2.2.2.2.1), (VS 3 (y1.2.2.2.2.2.2.1.map e_III))]), (1, .rw [(.int .i64 a3), (.int .i64 a4), (.int .i64 a5), (VS 3 (a6.map e_III))]), (0, .rw [(.int .i64 a0), (.int .i64 a1), (VS 4 (a2.map e_SIII))])], false⟩⟩) r12 ?_ ?_
    · refine po_all ?_;(conv=>whnf);refine pbr_oite h13 (fun g14 h13 => ?_) (fun g14 h13 => ?_)
      · (conv=>whnf);refine pbr_t g14 ?_;(conv=>whnf);refine pbr_t g14 ?_;(conv=>whnf);cases h13;exact ⟨(.cons rfl (.cons rfl (.cons rfl (.cons rfl (.cons rfl .nil))))), rfl⟩
      · (conv=>whnf);refine pbr_f g14 ?_;(conv=>whnf);refine pbr_f g14 ?_;(conv=>whnf);cases h13;exact ⟨(.cons rfl (.cons rfl (.cons rfl (.cons rfl (.cons rfl .nil))))), rfl⟩
    · refine po_all ?_;(conv=>whnf);obtain ⟨y15, h16, H⟩ := obnd_some H;refine (c214 h16).go ?_;(conv=>whnf);obtain ⟨y17, h18, H⟩ := obnd_some H;refine (c214 h18).go ?_;(conv=>whnf);obtain ⟨y19, h20, H⟩ := obnd_some H;refine ICalls.goW (c213 h20) (.cons (.vt _ _ _) .nil) ?_;(conv=>whnf);refine pw_seq ?_;refine pw_so ?_;refine po_all ?_;(conv=>whnf);refine pw_cond ?_;(conv=>whnf);refine pbr_oite H (fun g21 H => ?_) (fun g21 H => ?_)
      · (conv=>whnf);refine pw_so ?_;refine po_all ?_;(conv=>whnf);refine pw_ret ?_;(conv=>whnf);cases H; rfl
      · (conv=>whnf);refine pw_skip ?_;(conv=>whnf);obtain ⟨r22, h23, h24, h25⟩ := obndS_some H;refine pw_joinS (ρ := Unit) (fun e => ⟨[(2, (VS 1 (a7.map e_L1I))), (4, (.pointer (some ⟨1, 0, none⟩))), (8, (.pointer (some ⟨2, 0, none⟩)))], ⟨5, [(4, .tail 2 1), (3, .rw [(.int .i64 (IntKind.i64.wrap (y4 + (1 : Int))))]), (2, .rw [(.int .i64 y1.1), (.int .i64 y1.2.1), (VS 4 (y1.2.2.1.map e_SIII)), (.int .i64 y1.2.2.2.1), (.int .i64 y1.2.2.2.2.1), (.int .i64 y1.2.2.2.2.2.1), (VS 3 (y1.2.2.2.2.2.2.1.map e_III))]), (1, .rw [(.int .i64 a3), (.int .i64 a4), (.int .i64 a5), (VS 3 (a6.map e_III))]), (0, .rw [(.int .i64 a0), (.int .i64 a1), (VS 4 (a2.map e_SIII))])], false⟩⟩) r22 ?_ ?_
        · refine pw_so ?_;refine po_all ?_;(conv=>whnf);refine pw_block ?_;refine pw_loop (τ := Int) (fun e => ⟨[(2, (VS 1 (a7.map e_L1I))), (4, (.pointer (some ⟨1, 0, none⟩))), (8, (.pointer (some ⟨2, 0, none⟩))), (63, (VS 1 (a7.map e_L1I))), (64, (.int .i64 ((a7.map e_L1I).length : Int))), (65, (.int .i64 e))], ⟨5, [(4, .tail 2 1), (3, .rw [(.int .i64 (IntKind.i64.wrap (y4 + (1 : Int))))]), (2, .rw [(.int .i64 y1.1), (.int .i64 y1.2.1), (VS 4 (y1.2.2.1.map e_SIII)), (.int .i64 y1.2.2.2.1), (.int .i64 y1.2.2.2.2.1), (.int .i64 y1.2.2.2.2.2.1), (VS 3 (y1.2.2.2.2.2.2.1.map e_III))]), (1, .rw [(.int .i64 a3), (.int .i64 a4), (.int .i64 a5), (VS 3 (a6.map e_III))]), (0, .rw [(.int .i64 a0), (.int .i64 a1), (VS 4 (a2.map e_SIII))])], false⟩⟩) h23 ?_ (fun _ => Nat.le_of_ble_eq_true rfl) ?_
          · exact .sub' (Nat.le_of_ble_eq_true rfl) (.cons rfl (.cons rfl (.cons rfl (.cons rfl (.cons rfl (.cons rfl .nil))))))
          · intro e26 x27 h28;refine pw_so ?_;refine po_all ?_;(conv=>whnf);refine pw_seq ?_;refine pw_cond ?_;(conv=>whnf);refine pbr_oite h28 (fun g29 h28 => ?_) (fun g29 h28 => ?_)
            · (conv=>whnf);refine pw_skip ?_;(conv=>whnf);obtain ⟨r30, h31, h32, h33⟩ := obndS_some h28;refine pw_joinS (ρ := Unit) (fun e => ⟨[(2, (VS 1 (a7.map e_L1I))), (4, (.pointer (some ⟨1, 0, none⟩))), (8, (.pointer (some ⟨2, 0, none⟩))), (63, (VS 1 (a7.map e_L1I))), (64, (.int .i64 ((a7.map e_L1I).length : Int))), (65, (.int .i64 e26))], ⟨5, [(4, .tail 2 1), (3, .rw [(.int .i64 (IntKind.i64.wrap (y4 + (1 : Int))))]), (2, .rw [(.int .i64 y1.1), (.int .i64 y1.2.1), (VS 4 (y1.2.2.1.map e_SIII)), (.int .i64 y1.2.2.2.1), (.int .i64 y1.2.2.2.2.1), (.int .i64 y1.2.2.2.2.2.1), (VS 3 (y1.2.2.2.2.2.2.1.map e_III))]), (1, .rw [(.int .i64 a3), (.int .i64 a4), (.int .i64 a5), (VS 3 (a6.map e_III))]), (0, .rw [(.int .i64 a0), (.int .i64 a1), (VS 4 (a2.map e_SIII))])], false⟩⟩) r30 ?_ ?_
              · refine pw_block ?_;refine pw_so ?_;refine po_all ?_;(conv=>whnf);refine pbr_ogrd h31 (fun g34 h31 => ?_);(conv=>whnf);refine nth_o (l := a7) h31 (fun x35 _ h31 => ?_);(conv=>whnf);refine pw_so ?_;refine po_all ?_;(conv=>whnf);refine pw_block ?_;refine pw_loop (τ := Int) (fun e => ⟨[(2, (VS 1 (a7.map e_L1I))), (4, (.pointer (some ⟨1, 0, none⟩))), (8, (.pointer (some ⟨2, 0, none⟩))), (13, (.int .i64 e26)), (14, (VS 1 (x35.map eI))), (15, (.int .i64 e)), (63, (VS 1 (a7.map e_L1I))), (64, (.int .i64 ((a7.map e_L1I).length : Int))), (65, (.int .i64 e26))], ⟨5, [(4, .tail 2 1), (3, .rw [(.int .i64 (IntKind.i64.wrap (y4 + (1 : Int))))]), (2, .rw [(.int .i64 y1.1), (.int .i64 y1.2.1), (VS 4 (y1.2.2.1.map e_SIII)), (.int .i64 y1.2.2.2.1), (.int .i64 y1.2.2.2.2.1), (.int .i64 y1.2.2.2.2.2.1), (VS 3 (y1.2.2.2.2.2.2.1.map e_III))]), (1, .rw [(.int .i64 a3), (.int .i64 a4), (.int .i64 a5), (VS 3 (a6.map e_III))]), (0, .rw [(.int .i64 a0), (.int .i64 a1), (VS 4 (a2.map e_SIII))])], false⟩⟩) h31 ?_ (fun _ => Nat.le_of_ble_eq_true rfl) ?_
                · exact .sub' (Nat.le_of_ble_eq_true rfl) (.cons rfl (.cons rfl (.cons rfl (.cons rfl (.cons rfl (.cons rfl (.cons rfl (.cons rfl (.cons rfl .nil)))))))))
                · intro e36 x37 h38;refine pw_seq ?_;refine pw_so ?_;refine po_all ?_;(conv=>whnf);refine pw_cond ?_;(conv=>whnf);refine pbr_oite h38 (fun g39 h38 => ?_) (fun g39 h38 => ?_)
                  · (conv=>whnf);refine pw_skip ?_;(conv=>whnf);obtain ⟨r40, h41, h42, h43⟩ := obndS_some h38;refine pw_joinS (ρ := Unit) (fun e => ⟨[(2, (VS 1 (a7.map e_L1I))), (4, (.pointer (some ⟨1, 0, none⟩))), (8, (.pointer (some ⟨2, 0, none⟩))), (13, (.int .i64 e26)), (14, (VS 1 (x35.map eI))), (15, (.int .i64 e36)), (63, (VS 1 (a7.map e_L1I))), (64, (.int .i64 ((a7.map e_L1I).length : Int))), (65, (.int .i64 e26))], ⟨5, [(4, .tail 2 1), (3, .rw [(.int .i64 (IntKind.i64.wrap (y4 + (1 : Int))))]), (2, .rw [(.int .i64 y1.1), (.int .i64 y1.2.1), (VS 4 (y1.2.2.1.map e_SIII)), (.int .i64 y1.2.2.2.1), (.int .i64 y1.2.2.2.2.1), (.int .i64 y1.2.2.2.2.2.1), (VS 3 (y1.2.2.2.2.2.2.1.map e_III))]), (1, .rw [(.int .i64 a3), (.int .i64 a4), (.int .i64 a5), (VS 3 (a6.map e_III))]), (0, .rw [(.int .i64 a0), (.int .i64 a1), (VS 4 (a2.map e_SIII))])], false⟩⟩) r40 ?_ ?_
                    · refine pw_block ?_;refine pw_so ?_;refine po_all ?_;(conv=>whnf);refine pw_block ?_;refine pw_loop (τ := Int) (fun e => ⟨[(2, (VS 1 (a7.map e_L1I))), (4, (.pointer (some ⟨1, 0, none⟩))), (8, (.pointer (some ⟨2, 0, none⟩))), (13, (.int .i64 e26)), (14, (VS 1 (x35.map eI))), (15, (.int .i64 e36)), (63, (VS 1 (a7.map e_L1I))), (64, (.int .i64 ((a7.map e_L1I).length : Int))), (65, (.int .i64 e26)), (83, (.int .i64 ((y1.2.2.1.map e_SIII).length : Int))), (84, (.int .i64 e))], ⟨5, [(4, .tail 2 1), (3, .rw [(.int .i64 (IntKind.i64.wrap (y4 + (1 : Int))))]), (2, .rw [(.int .i64 y1.1), (.int .i64 y1.2.1), (VS 4 (y1.2.2.1.map e_SIII)), (.int .i64 y1.2.2.2.1), (.int .i64 y1.2.2.2.2.1), (.int .i64 y1.2.2.2.2.2.1), (VS 3 (y1.2.2.2.2.2.2.1.map e_III))]), (1, .rw [(.int .i64 a3), (.int .i64 a4), (.int .i64 a5), (VS 3 (a6.map e_III))]), (0, .rw [(.int .i64 a0), (.int .i64 a1), (VS 4 (a2.map e_SIII))])], false⟩⟩) h41 ?_ (fun _ => Nat.le_of_ble_eq_true rfl) ?_
                      · exact .sub' (Nat.le_of_ble_eq_true rfl) (.cons rfl (.cons rfl (.cons rfl (.cons rfl (.cons rfl (.cons rfl (.cons rfl (.cons rfl (.cons rfl (.cons rfl (.cons rfl .nil)))))))))))
                      · intro e44 x45 h46;refine pw_so ?_;refine po_all ?_;(conv=>whnf);refine pw_seq ?_;refine pw_cond ?_;(conv=>whnf);refine pbr_oite h46 (fun g47 h46 => ?_) (fun g47 h46 => ?_)
                        · (conv=>whnf);refine pw_skip ?_;(conv=>whnf);refine pw_seq ?_;refine pw_block ?_;refine pw_so ?_;refine po_all ?_;(conv=>whnf);refine pw_sd ?_;(conv=>whnf);refine ⟨?_, trivial⟩;(conv=>whnf);obtain ⟨y48, h49, h46⟩ := obnd_some h46;refine (c234 h49).go ?_;(conv=>whnf);refine ⟨by repeat (first | exact trivial | refine And.intro rfl ?_), ?_⟩;(conv=>whnf);refine pbr_ogrd h46 (fun g50 h46 => ?_);(conv=>whnf);refine nth_o (l := x35) h46 (fun x51 _ h46 => ?_);(conv=>whnf);refine ⟨?_, trivial⟩;(conv=>whnf);obtain ⟨y52, h53, h46⟩ := obnd_some h46;refine (c361 h53).go ?_;(conv=>whnf);refine ⟨by repeat (first | exact trivial | refine And.intro rfl ?_), ?_⟩
                          (conv=>whnf);refine pw_cond ?_;(conv=>whnf);refine pbr_oite h46 (fun g54 h46 => ?_) (fun g54 h46 => ?_)
                          · (conv=>whnf);refine pw_so ?_;refine po_all ?_;(conv=>whnf);refine pw_ret ?_;(conv=>whnf);cases h46;refine ⟨_, rfl, ?_⟩; rintro rfl;(conv=>whnf);obtain rfl := h43 _ rfl;refine ⟨_, rfl, ?_⟩; rintro rfl;(conv=>whnf);obtain rfl := h33 _ rfl;refine ⟨_, rfl, ?_⟩; rintro rfl;(conv=>whnf);obtain rfl := h25 _ rfl; rfl
                          · (conv=>whnf);refine pw_skip ?_;(conv=>whnf);refine pw_ops ?_;refine po_all ?_;(conv=>whnf);cases h46;refine ⟨_, rfl, ?_⟩;exact .sub' (Nat.le_of_ble_eq_true rfl) (.cons rfl (.cons rfl (.cons rfl (.cons rfl (.cons rfl (.cons rfl (.cons rfl (.cons rfl (.cons rfl (.cons rfl (.cons rfl .nil)))))))))))
                        · (conv=>whnf);refine pw_exit ?_;(conv=>whnf);cases h46;refine ⟨_, rfl, ?_⟩; rintro rfl;(conv=>whnf);exact ⟨_, rfl, ⟨(.cons rfl (.cons rfl (.cons rfl (.cons rfl (.cons rfl (.cons rfl (.cons rfl (.cons rfl (.cons rfl .nil))))))))), rfl⟩⟩
                    · intro r59 hr; have h38 := h42 _ hr;refine pw_ops ?_;refine po_all ?_;(conv=>whnf);cases h38;refine ⟨_, rfl, ?_⟩;exact .sub' (Nat.le_of_ble_eq_true rfl) (.cons rfl (.cons rfl (.cons rfl (.cons rfl (.cons rfl (.cons rfl (.cons rfl (.cons rfl (.cons rfl .nil)))))))))
                  · (conv=>whnf);refine pw_exit ?_;(conv=>whnf);cases h38;refine ⟨_, rfl, ?_⟩; rintro rfl;(conv=>whnf);exact ⟨_, rfl, ⟨(.cons rfl (.cons rfl (.cons rfl (.cons rfl (.cons rfl (.cons rfl .nil)))))), rfl⟩⟩
              · intro r61 hr; have h28 := h32 _ hr;refine pw_ops ?_;refine po_all ?_;(conv=>whnf);cases h28;refine ⟨_, rfl, ?_⟩;exact .sub' (Nat.le_of_ble_eq_true rfl) (.cons rfl (.cons rfl (.cons rfl (.cons rfl (.cons rfl (.cons rfl .nil))))))
            · (conv=>whnf);refine pw_exit ?_;(conv=>whnf);cases h28;refine ⟨_, rfl, ?_⟩; rintro rfl;(conv=>whnf);exact ⟨_, rfl, ⟨(.cons rfl (.cons rfl (.cons rfl .nil))), rfl⟩⟩
        · intro r63 hr; have H := h24 _ hr;refine pw_sd ?_;(conv=>whnf);refine nth_o (l := a7) H (fun x64 _ H => ?_);(conv=>whnf);refine ⟨?_, trivial⟩;(conv=>whnf);obtain ⟨y65, h66, H⟩ := obnd_some H;refine (c234 h66).go ?_;(conv=>whnf);refine ⟨by repeat (first | exact trivial | refine And.intro rfl ?_), ?_⟩;(conv=>whnf);refine pbr_ogrd H (fun g67 H => ?_);(conv=>whnf);refine nth_o (l := x64) H (fun x68 _ H => ?_);(conv=>whnf);refine pw_ret ?_;(conv=>whnf);cases H; rfl

/-- guidevane/guidevanebase.Within -/
noncomputable def f15  (a0 : Int) (a1 : Int) (a2 : Int) : Option Bool :=
  obnd (
   oite ((ile a1 a0)) (
    some (ile a0 a2)
     ) (
    some false
     )
    ) fun (r1 : Bool) =>
  some r1
set_option maxHeartbeats 1000000 in
theorem c15  {a0 : Int} {a1 : Int} {a2 : Int} {x : Bool} (H : f15 a0 a1 a2 = some x) : ICalls E 15 [(.int .i64 a0), (.int .i64 a1), (.int .i64 a2)] AHeap.none fun v _ => v = (.bool x) := by
  refine icalls_fn (pfnw ?_); unfold f15 at H;(conv=>whnf);refine pw_so ?_;refine po_all ?_;(conv=>whnf);refine pw_so ?_;refine po_ops 4 ?_;(conv=>whnf);obtain ⟨r1, h2, H⟩ := obnd_some H;refine po_seg (τ := Bool) 4 (fun e => ⟨[(14, (.bool e))], ⟨0, [], false⟩⟩) r1 ?_ ?_
  · refine po_all ?_;(conv=>whnf);refine pbr_oite h2 (fun g3 h2 => ?_) (fun g3 h2 => ?_)
    · (conv=>whnf);refine pbr_t g3 ?_;(conv=>whnf);refine pbr_t g3 ?_;(conv=>whnf);refine pbr_t g3 ?_;(conv=>whnf);cases h2;exact ⟨(.cons rfl .nil), rfl⟩
    · (conv=>whnf);refine pbr_f g3 ?_;(conv=>whnf);refine pbr_f g3 ?_;(conv=>whnf);refine pbr_f g3 ?_;(conv=>whnf);cases h2;exact ⟨(.cons rfl .nil), rfl⟩
  · refine po_all ?_;(conv=>whnf);refine pw_ret ?_;(conv=>whnf);cases H; rfl

/-- guidevane/guidevanebase.IsName -/
noncomputable def f91 [LO]  (a0 : ByteArray) : Option Bool :=
  obnd (
   oite ((ilt (a0.size : Int) (1 : Int))) (
    some true
     ) (
    some (ilt (12 : Int) (a0.size : Int))
     )
    ) fun (r1 : Bool) =>
  oite r1 (
   some false
    ) (
   obndS (
    oloop (τ := Int) (ρ := (Unit) ⊕ Bool) (fun e11 =>
     oite ((ilt e11 (a0.size : Int))) (
      ogrd ((ile 0 e11)) (
      obnd (a0.data.toList[e11.toNat]?) fun (x16 : UInt8) =>
      obnd (
       oite ((ile (97 : Int) (x16.toNat : Int))) (
        some (ile (x16.toNat : Int) (122 : Int))
         ) (
        some false
         )
        ) fun (r17 : Bool) =>
      obnd (
       oite r17 (
        some true
         ) (
        oite ((ile (65 : Int) (x16.toNat : Int))) (
         some (ile (x16.toNat : Int) (90 : Int))
          ) (
         some false
          )
         )
        ) fun (r20 : Bool) =>
      obnd (
       oite (!r20) (
        obnd (
         oite ((ieq e11 (0 : Int))) (
          some true
           ) (
          oite ((!(ieq (x16.toNat : Int) (45 : Int)))) (
           oite ((ilt (x16.toNat : Int) (48 : Int))) (
            some true
             ) (
            some (ilt (57 : Int) (x16.toNat : Int))
             )
            ) (
           some false
            )
           )
          ) fun (r29 : Bool) =>
        some r29
         ) (
        some false
         )
        ) fun (r24 : Bool) =>
      oite r24 (
       some (.inr (.inr (false)))
        ) (
       some (.inl (IntKind.i64.wrap (e11 + (1 : Int))))
        )
      )
       ) (
      some (.inr (.inl ()))
       )
      ) (0 : Int)
     ) fun (_ : Unit) =>
   some true
    )
set_option maxHeartbeats 1000000 in
theorem c91 [LO]  {a0 : ByteArray} {x : Bool} (H : f91 a0 = some x) : ICalls E 91 [(.string a0)] AHeap.none fun v _ => v = (.bool x) := by
  refine icalls_fn (pfnw ?_); unfold f91 at H;(conv=>whnf);refine pw_so ?_;refine po_all ?_;(conv=>whnf);refine pw_seq ?_;obtain ⟨r1, h2, H⟩ := obnd_some H;refine pw_join (ρ := Bool) (fun e => ⟨[(0, (.string a0)), (13, (.bool e))], ⟨0, [], false⟩⟩) r1 ?_ ?_
  · refine pw_ops ?_;refine po_all ?_;(conv=>whnf);refine pbr_oite h2 (fun g5 h2 => ?_) (fun g5 h2 => ?_)
    · (conv=>whnf);refine pbr_t g5 ?_;(conv=>whnf);refine pbr_t g5 ?_;(conv=>whnf);refine pbr_t g5 ?_;(conv=>whnf);cases h2;exact ⟨(.cons rfl (.cons rfl .nil)), rfl⟩
    · (conv=>whnf);refine pbr_f g5 ?_;(conv=>whnf);refine pbr_f g5 ?_;(conv=>whnf);refine pbr_f g5 ?_;(conv=>whnf);cases h2;exact ⟨(.cons rfl (.cons rfl .nil)), rfl⟩
  · refine pw_cond ?_;(conv=>whnf);refine pbr_oite H (fun g6 H => ?_) (fun g6 H => ?_)
    · (conv=>whnf);refine pw_so ?_;refine po_all ?_;(conv=>whnf);refine pw_ret ?_;(conv=>whnf);cases H; rfl
    · (conv=>whnf);refine pw_skip ?_;(conv=>whnf);obtain ⟨r7, h8, h9, h10⟩ := obndS_some H;refine pw_joinS (ρ := Unit) (fun e => ⟨[], ⟨0, [], false⟩⟩) r7 ?_ ?_
      · refine pw_so ?_;refine po_all ?_;(conv=>whnf);refine pw_block ?_;refine pw_loop (τ := Int) (fun e => ⟨[(0, (.string a0)), (3, (.int .i64 e))], ⟨0, [], false⟩⟩) h8 ?_ (fun _ => Nat.le_of_ble_eq_true rfl) ?_
        · exact .sub' (Nat.le_of_ble_eq_true rfl) (.cons rfl (.cons rfl .nil))
        · intro e11 x12 h13;refine pw_seq ?_;refine pw_so ?_;refine po_all ?_;(conv=>whnf);refine pw_cond ?_;(conv=>whnf);refine pbr_oite h13 (fun g14 h13 => ?_) (fun g14 h13 => ?_)
          · (conv=>whnf);refine pw_skip ?_;(conv=>whnf);refine pw_seq ?_;refine pw_block ?_;refine pw_so ?_;refine po_all ?_;(conv=>whnf);refine pbr_ogrd h13 (fun g15 h13 => ?_);(conv=>whnf);refine get_o h13 (fun x16 _ h13 => ?_);(conv=>whnf);refine pw_so ?_;refine po_ops 3 ?_;(conv=>whnf);obtain ⟨r17, h18, h13⟩ := obnd_some h13;refine po_seg (τ := Bool) 3 (fun e => ⟨[(0, (.string a0)), (3, (.int .i64 e11)), (4, (.int .u8 (x16.toNat : Int))), (28, (.bool e))], ⟨0, [], false⟩⟩) r17 ?_ ?_
            · refine po_all ?_;(conv=>whnf);refine pbr_oite h18 (fun g19 h18 => ?_) (fun g19 h18 => ?_)
              · (conv=>whnf);refine pbr_t g19 ?_;(conv=>whnf);refine pbr_t g19 ?_;(conv=>whnf);cases h18;exact ⟨(.cons rfl (.cons rfl (.cons rfl (.cons rfl .nil)))), rfl⟩
              · (conv=>whnf);refine pbr_f g19 ?_;(conv=>whnf);refine pbr_f g19 ?_;(conv=>whnf);cases h18;exact ⟨(.cons rfl (.cons rfl (.cons rfl (.cons rfl .nil)))), rfl⟩
            · refine po_ops 1 ?_;(conv=>whnf);obtain ⟨r20, h21, h13⟩ := obnd_some h13;refine po_seg (τ := Bool) 7 (fun e => ⟨[(0, (.string a0)), (3, (.int .i64 e11)), (4, (.int .u8 (x16.toNat : Int))), (36, (.bool e))], ⟨0, [], false⟩⟩) r20 ?_ ?_
              · refine po_all ?_;(conv=>whnf);refine pbr_oite h21 (fun g22 h21 => ?_) (fun g22 h21 => ?_)
                · (conv=>whnf);refine pbr_t g22 ?_;(conv=>whnf);refine pbr_t g22 ?_;(conv=>whnf);refine pbr_t g22 ?_;(conv=>whnf);refine pbr_t g22 ?_;(conv=>whnf);cases h21;exact ⟨(.cons rfl (.cons rfl (.cons rfl (.cons rfl .nil)))), rfl⟩
                · (conv=>whnf);refine pbr_f g22 ?_;(conv=>whnf);refine pbr_f g22 ?_;(conv=>whnf);refine pbr_oite h21 (fun g23 h21 => ?_) (fun g23 h21 => ?_)
                  · (conv=>whnf);refine pbr_t g23 ?_;(conv=>whnf);refine pbr_f g22 ?_;(conv=>whnf);refine pbr_t g23 ?_;(conv=>whnf);refine pbr_f g22 ?_;(conv=>whnf);cases h21;exact ⟨(.cons rfl (.cons rfl (.cons rfl (.cons rfl .nil)))), rfl⟩
                  · (conv=>whnf);refine pbr_f g23 ?_;(conv=>whnf);refine pbr_f g22 ?_;(conv=>whnf);refine pbr_f g23 ?_;(conv=>whnf);refine pbr_f g22 ?_;(conv=>whnf);cases h21;exact ⟨(.cons rfl (.cons rfl (.cons rfl (.cons rfl .nil)))), rfl⟩
              · refine po_all ?_;(conv=>whnf);obtain ⟨r24, h25, h13⟩ := obnd_some h13;refine pw_join (ρ := Bool) (fun e => ⟨[(0, (.string a0)), (3, (.int .i64 e11)), (54, (.bool e))], ⟨0, [], false⟩⟩) r24 ?_ ?_
                · refine pw_ops ?_;refine po_ops 6 ?_;(conv=>whnf);refine pbr_oite h25 (fun g28 h25 => ?_) (fun g28 h25 => ?_)
                  · (conv=>whnf);refine pbr_t g28 ?_;(conv=>whnf);refine pbr_t g28 ?_;(conv=>whnf);obtain ⟨r29, h30, h25⟩ := obnd_some h25;refine po_seg (τ := Bool) 11 (fun e => ⟨[(0, (.string a0)), (3, (.int .i64 e11)), (39, (.bool (!r20))), (40, (.int .i64 e11)), (41, (.bool (ieq e11 (0 : Int)))), (42, (.bool (ieq e11 (0 : Int)))), (53, (.bool e))], ⟨0, [], false⟩⟩) r29 ?_ ?_
                    · refine po_all ?_;(conv=>whnf);refine pbr_oite h30 (fun g31 h30 => ?_) (fun g31 h30 => ?_)
                      · (conv=>whnf);refine pbr_t g31 ?_;(conv=>whnf);refine pbr_t g31 ?_;(conv=>whnf);refine pbr_t g31 ?_;(conv=>whnf);refine pbr_t g28 ?_;(conv=>whnf);refine pbr_t g31 ?_;(conv=>whnf);cases h30;exact ⟨(.cons rfl (.cons rfl (.cons rfl (.cons rfl (.cons rfl (.cons rfl (.cons rfl .nil))))))), rfl⟩
                      · (conv=>whnf);refine pbr_f g31 ?_;(conv=>whnf);refine pbr_f g31 ?_;(conv=>whnf);refine pbr_oite h30 (fun g32 h30 => ?_) (fun g32 h30 => ?_)
                        · (conv=>whnf);refine pbr_t g32 ?_;(conv=>whnf);refine pbr_t g32 ?_;(conv=>whnf);refine pbr_oite h30 (fun g33 h30 => ?_) (fun g33 h30 => ?_)
                          · (conv=>whnf);refine pbr_t g33 ?_;(conv=>whnf);refine pbr_t g32 ?_;(conv=>whnf);refine pbr_t g33 ?_;(conv=>whnf);refine pbr_f g31 ?_;(conv=>whnf);refine pbr_t g32 ?_;(conv=>whnf);refine pbr_t g28 ?_;(conv=>whnf);refine pbr_f g31 ?_;(conv=>whnf);cases h30;exact ⟨(.cons rfl (.cons rfl (.cons rfl (.cons rfl (.cons rfl (.cons rfl (.cons rfl .nil))))))), rfl⟩
                          · (conv=>whnf);refine pbr_f g33 ?_;(conv=>whnf);refine pbr_t g32 ?_;(conv=>whnf);refine pbr_f g33 ?_;(conv=>whnf);refine pbr_f g31 ?_;(conv=>whnf);refine pbr_t g32 ?_;(conv=>whnf);refine pbr_t g28 ?_;(conv=>whnf);refine pbr_f g31 ?_;(conv=>whnf);cases h30;exact ⟨(.cons rfl (.cons rfl (.cons rfl (.cons rfl (.cons rfl (.cons rfl (.cons rfl .nil))))))), rfl⟩
                        · (conv=>whnf);refine pbr_f g32 ?_;(conv=>whnf);refine pbr_f g32 ?_;(conv=>whnf);refine pbr_f g32 ?_;(conv=>whnf);refine pbr_f g31 ?_;(conv=>whnf);refine pbr_f g32 ?_;(conv=>whnf);refine pbr_t g28 ?_;(conv=>whnf);refine pbr_f g31 ?_;(conv=>whnf);cases h30;exact ⟨(.cons rfl (.cons rfl (.cons rfl (.cons rfl (.cons rfl (.cons rfl (.cons rfl .nil))))))), rfl⟩
                    · refine po_all ?_;(conv=>whnf);refine pbr_t g28 ?_;(conv=>whnf);cases h25;exact ⟨(.cons rfl (.cons rfl (.cons rfl .nil))), rfl⟩
                  · (conv=>whnf);refine pbr_f g28 ?_;(conv=>whnf);refine pbr_f g28 ?_;(conv=>whnf);refine po_ops 11 ?_;(conv=>whnf);refine pbr_f g28 ?_;(conv=>whnf);refine po_all ?_;(conv=>whnf);refine pbr_f g28 ?_;(conv=>whnf);cases h25;exact ⟨(.cons rfl (.cons rfl (.cons rfl .nil))), rfl⟩
                · refine pw_cond ?_;(conv=>whnf);refine pbr_oite h13 (fun g34 h13 => ?_) (fun g34 h13 => ?_)
                  · (conv=>whnf);refine pw_so ?_;refine po_all ?_;(conv=>whnf);refine pw_ret ?_;(conv=>whnf);cases h13;refine ⟨_, rfl, ?_⟩; rintro rfl;(conv=>whnf);obtain rfl := h10 _ rfl; rfl
                  · (conv=>whnf);refine pw_skip ?_;(conv=>whnf);refine pw_ops ?_;refine po_all ?_;(conv=>whnf);cases h13;refine ⟨_, rfl, ?_⟩;exact .sub' (Nat.le_of_ble_eq_true rfl) (.cons rfl (.cons rfl .nil))
          · (conv=>whnf);refine pw_exit ?_;(conv=>whnf);cases h13;refine ⟨_, rfl, ?_⟩; rintro rfl;(conv=>whnf);exact ⟨_, rfl, ⟨.nil, rfl⟩⟩
      · intro r37 hr; have H := h9 _ hr;refine pw_so ?_;refine po_all ?_;(conv=>whnf);refine pw_ret ?_;(conv=>whnf);cases H; rfl

/-- guidevane/guidevanebase.HasText -/
noncomputable def f364 [LO]  (a0 : List ByteArray) (a1 : ByteArray) : Option Bool :=
  obndS (
   oloop (τ := Int) (ρ := (Unit) ⊕ Bool) (fun e5 =>
    oite ((ilt e5 ((a0.map eS).length : Int))) (
     ogrd ((ile 0 e5)) (
     obnd (a0[e5.toNat]?) fun (x10 : ByteArray) =>
     oite ((x10.toList == a1.toList)) (
      some (.inr (.inr (true)))
       ) (
      some (.inl (IntKind.i64.wrap (e5 + (1 : Int))))
       )
     )
      ) (
     some (.inr (.inl ()))
      )
     ) (0 : Int)
    ) fun (_ : Unit) =>
  some false
set_option maxHeartbeats 1000000 in
theorem c364 [LO]  {a0 : List ByteArray} {a1 : ByteArray} {x : Bool} (H : f364 a0 a1 = some x) : ICalls E 364 [(VS 1 (a0.map eS)), (.string a1)] AHeap.none fun v _ => v = (.bool x) := by
  refine icalls_fn (pfnw ?_); unfold f364 at H;(conv=>whnf);refine pw_so ?_;refine po_all ?_;(conv=>whnf);obtain ⟨r1, h2, h3, h4⟩ := obndS_some H;refine pw_joinS (ρ := Unit) (fun e => ⟨[], ⟨0, [], false⟩⟩) r1 ?_ ?_
  · refine pw_so ?_;refine po_all ?_;(conv=>whnf);refine pw_block ?_;refine pw_loop (τ := Int) (fun e => ⟨[(0, (VS 1 (a0.map eS))), (1, (.string a1)), (5, (.int .i64 e))], ⟨0, [], false⟩⟩) h2 ?_ (fun _ => Nat.le_of_ble_eq_true rfl) ?_
    · exact .sub' (Nat.le_of_ble_eq_true rfl) (.cons rfl (.cons rfl (.cons rfl .nil)))
    · intro e5 x6 h7;refine pw_seq ?_;refine pw_so ?_;refine po_all ?_;(conv=>whnf);refine pw_cond ?_;(conv=>whnf);refine pbr_oite h7 (fun g8 h7 => ?_) (fun g8 h7 => ?_)
      · (conv=>whnf);refine pw_skip ?_;(conv=>whnf);refine pw_seq ?_;refine pw_block ?_;refine pw_so ?_;refine po_all ?_;(conv=>whnf);refine pbr_ogrd h7 (fun g9 h7 => ?_);(conv=>whnf);refine nth_o (l := a0) h7 (fun x10 _ h7 => ?_);(conv=>whnf);refine pw_cond ?_;(conv=>whnf);refine pbr_oite h7 (fun g11 h7 => ?_) (fun g11 h7 => ?_)
        · (conv=>whnf);refine pw_so ?_;refine po_all ?_;(conv=>whnf);refine pw_ret ?_;(conv=>whnf);cases h7;refine ⟨_, rfl, ?_⟩; rintro rfl;(conv=>whnf);obtain rfl := h4 _ rfl; rfl
        · (conv=>whnf);refine pw_skip ?_;(conv=>whnf);refine pw_ops ?_;refine po_all ?_;(conv=>whnf);cases h7;refine ⟨_, rfl, ?_⟩;exact .sub' (Nat.le_of_ble_eq_true rfl) (.cons rfl (.cons rfl (.cons rfl .nil)))
      · (conv=>whnf);refine pw_exit ?_;(conv=>whnf);cases h7;refine ⟨_, rfl, ?_⟩; rintro rfl;(conv=>whnf);exact ⟨_, rfl, ⟨.nil, rfl⟩⟩
  · intro r14 hr; have H := h3 _ hr;refine pw_so ?_;refine po_all ?_;(conv=>whnf);refine pw_ret ?_;(conv=>whnf);cases H; rfl

/-- guidevane/guidevaneref08.modeErr -/
noncomputable def f354 [LO]  (a0 : ByteArray) (a1 : Int) (a2 : Int) (a3 : Int) (a4 : List ByteArray) : Option Int :=
  obnd (f91 a0) fun (y1 : Bool) =>
  oite (!y1) (
   some (4 : Int)
    ) (
   obnd (f364 a4 a0) fun (y4 : Bool) =>
   oite y4 (
    some (5 : Int)
     ) (
    obnd (
     obnd (f15 a1 (-10000 : Int) (10000 : Int)) fun (y11 : Bool) =>
     obnd (
      oite (!y11) (
       some true
        ) (
       obnd (f15 a2 (-10000 : Int) (10000 : Int)) fun (y16 : Bool) =>
       some (!y16)
        )
       ) fun (r13 : Bool) =>
     oite r13 (
      some true
       ) (
      obnd (f15 a3 (0 : Int) (10000 : Int)) fun (y19 : Bool) =>
      some (!y19)
       )
      ) fun (r7 : Bool) =>
    oite r7 (
     some (2 : Int)
      ) (
     some (0 : Int)
      )
     )
    )
set_option maxHeartbeats 1000000 in
theorem c354 [LO]  {a0 : ByteArray} {a1 : Int} {a2 : Int} {a3 : Int} {a4 : List ByteArray} {x : Int} (H : f354 a0 a1 a2 a3 a4 = some x) : ICalls E 354 [(.agg ⟨[(.string a0), (.int .i64 a1), (.int .i64 a2), (.int .i64 a3)]⟩), (VS 1 (a4.map eS))] AHeap.none fun v _ => v = (.int .i64 x) := by
  refine icalls_fn (pfnw ?_); unfold f354 at H;(conv=>whnf);refine pw_so ?_;refine po_all ?_;(conv=>whnf);refine pw_seq ?_;refine pw_so ?_;refine po_all ?_;(conv=>whnf);obtain ⟨y1, h2, H⟩ := obnd_some H;refine (c91 h2).go ?_;(conv=>whnf);refine pw_cond ?_;(conv=>whnf);refine pbr_oite H (fun g3 H => ?_) (fun g3 H => ?_)
  · (conv=>whnf);refine pw_so ?_;refine po_all ?_;(conv=>whnf);refine pw_ret ?_;(conv=>whnf);cases H; rfl
  · (conv=>whnf);refine pw_skip ?_;(conv=>whnf);refine pw_seq ?_;refine pw_so ?_;refine po_all ?_;(conv=>whnf);obtain ⟨y4, h5, H⟩ := obnd_some H;refine (c364 h5).go ?_;(conv=>whnf);refine pw_cond ?_;(conv=>whnf);refine pbr_oite H (fun g6 H => ?_) (fun g6 H => ?_)
    · (conv=>whnf);refine pw_so ?_;refine po_all ?_;(conv=>whnf);refine pw_ret ?_;(conv=>whnf);cases H; rfl
    · (conv=>whnf);refine pw_skip ?_;(conv=>whnf);refine pw_seq ?_;obtain ⟨r7, h8, H⟩ := obnd_some H;refine pw_join (ρ := Bool) (fun e => ⟨[(28, (.bool e))], ⟨1, [(0, .rw [(.string a0), (.int .i64 a1), (.int .i64 a2), (.int .i64 a3)])], false⟩⟩) r7 ?_ ?_
      · refine pw_ops ?_;refine po_ops 5 ?_;(conv=>whnf);obtain ⟨y11, h12, h8⟩ := obnd_some h8;refine (c15 h12).go ?_;(conv=>whnf);obtain ⟨r13, h14, h8⟩ := obnd_some h8;refine po_seg (τ := Bool) 5 (fun e => ⟨[(2, (.pointer (some ⟨0, 0, none⟩))), (22, (.bool e))], ⟨1, [(0, .rw [(.string a0), (.int .i64 a1), (.int .i64 a2), (.int .i64 a3)])], false⟩⟩) r13 ?_ ?_
        · refine po_all ?_;(conv=>whnf);refine pbr_oite h14 (fun g15 h14 => ?_) (fun g15 h14 => ?_)
          · (conv=>whnf);refine pbr_t g15 ?_;(conv=>whnf);refine pbr_t g15 ?_;(conv=>whnf);refine pbr_t g15 ?_;(conv=>whnf);refine pbr_t g15 ?_;(conv=>whnf);cases h14;exact ⟨(.cons rfl (.cons rfl .nil)), rfl⟩
          · (conv=>whnf);refine pbr_f g15 ?_;(conv=>whnf);refine pbr_f g15 ?_;(conv=>whnf);obtain ⟨y16, h17, h14⟩ := obnd_some h14;refine (c15 h17).go ?_;(conv=>whnf);refine pbr_f g15 ?_;(conv=>whnf);refine pbr_f g15 ?_;(conv=>whnf);cases h14;exact ⟨(.cons rfl (.cons rfl .nil)), rfl⟩
        · refine po_all ?_;(conv=>whnf);refine pbr_oite h8 (fun g18 h8 => ?_) (fun g18 h8 => ?_)
          · (conv=>whnf);refine pbr_t g18 ?_;(conv=>whnf);refine pbr_t g18 ?_;(conv=>whnf);refine pbr_t g18 ?_;(conv=>whnf);refine pbr_t g18 ?_;(conv=>whnf);cases h8;exact ⟨(.cons rfl .nil), rfl⟩
          · (conv=>whnf);refine pbr_f g18 ?_;(conv=>whnf);refine pbr_f g18 ?_;(conv=>whnf);obtain ⟨y19, h20, h8⟩ := obnd_some h8;refine (c15 h20).go ?_;(conv=>whnf);refine pbr_f g18 ?_;(conv=>whnf);refine pbr_f g18 ?_;(conv=>whnf);cases h8;exact ⟨(.cons rfl .nil), rfl⟩
      · refine pw_cond ?_;(conv=>whnf);refine pbr_oite H (fun g21 H => ?_) (fun g21 H => ?_)
        · (conv=>whnf);refine pw_so ?_;refine po_all ?_;(conv=>whnf);refine pw_ret ?_;(conv=>whnf);cases H; rfl
        · (conv=>whnf);refine pw_skip ?_;(conv=>whnf);refine pw_so ?_;refine po_all ?_;(conv=>whnf);refine pw_ret ?_;(conv=>whnf);cases H; rfl

/-- guidevane/guidevaneref08.CheckPlant -/
noncomputable def f325 [LO]  (a0 : Int) (a1 : Int) (a2 : List (ByteArray × Int × Int × Int)) : Option (Int × Int) :=
  obnd (
   obnd (f15 a0 (0 : Int) (1000000 : Int)) fun (y5 : Bool) =>
   oite (!y5) (
    some true
     ) (
    obnd (f15 a1 (0 : Int) (1000000 : Int)) fun (y8 : Bool) =>
    some (!y8)
     )
    ) fun (r1 : Bool) =>
  oite r1 (
   some ((0 : Int), (2 : Int))
    ) (
   oite ((ilt a1 a0)) (
    some ((0 : Int), (9 : Int))
     ) (
    oite ((ile (40 : Int) (IntKind.i64.wrap (a1 - a0)))) (
     some ((0 : Int), (8 : Int))
      ) (
     oite ((ieq ((a2.map e_SIII).length : Int) (0 : Int))) (
      some ((0 : Int), (10 : Int))
       ) (
      oite ((ilt (5 : Int) ((a2.map e_SIII).length : Int))) (
       some ((0 : Int), (8 : Int))
        ) (
       obndS (
        oloop (τ := (List ByteArray) × Int) (ρ := (Unit) ⊕ (Int × Int)) (fun e19 =>
         oite ((ilt e19.2 ((a2.map e_SIII).length : Int))) (
          ogrd ((ile 0 e19.2)) (
          obnd (a2[e19.2.toNat]?) fun (x24 : ByteArray × Int × Int × Int) =>
          obnd (f354 x24.1 x24.2.1 x24.2.2.1 x24.2.2.2 e19.1) fun (y25 : Int) =>
          oite ((!(ieq y25 (0 : Int)))) (
           some (.inr (.inr ((e19.2, y25))))
            ) (
           obnd (a2[e19.2.toNat]?) fun (x29 : ByteArray × Int × Int × Int) =>
           ogrd (fits 16 (e19.1.length + ([x29.1] : List ByteArray).length)) (
           some (.inl (((e19.1 ++ ([x29.1] : List ByteArray)), (IntKind.i64.wrap (e19.2 + (1 : Int))))))
           )
            )
          )
           ) (
          some (.inr (.inl ()))
           )
          ) ((([] : List ByteArray), (0 : Int)))
         ) fun (_ : Unit) =>
       some ((0 : Int), (0 : Int))
        )
       )
      )
     )
    )
set_option maxHeartbeats 1000000 in
theorem c325 [LO]  {a0 : Int} {a1 : Int} {a2 : List (ByteArray × Int × Int × Int)} {x : Int × Int} (H : f325 a0 a1 a2 = some x) : ICalls E 325 [(.agg ⟨[(.int .i64 a0), (.int .i64 a1), (VS 4 (a2.map e_SIII))]⟩)] AHeap.none fun v _ => v = (.tuple ⟨[(.int .i64 x.1), (.int .i64 x.2)]⟩) := by
  refine icalls_fn (pfnw ?_); unfold f325 at H;(conv=>whnf);refine pw_so ?_;refine po_all ?_;(conv=>whnf);refine pw_seq ?_;obtain ⟨r1, h2, H⟩ := obnd_some H;refine pw_join (ρ := Bool) (fun e => ⟨[(1, (.pointer (some ⟨0, 0, none⟩))), (16, (.bool e))], ⟨1, [(0, .rw [(.int .i64 a0), (.int .i64 a1), (VS 4 (a2.map e_SIII))])], false⟩⟩) r1 ?_ ?_
  · refine pw_ops ?_;refine po_all ?_;(conv=>whnf);obtain ⟨y5, h6, h2⟩ := obnd_some h2;refine (c15 h6).go ?_;(conv=>whnf);refine pbr_oite h2 (fun g7 h2 => ?_) (fun g7 h2 => ?_)
    · (conv=>whnf);refine pbr_t g7 ?_;(conv=>whnf);refine pbr_t g7 ?_;(conv=>whnf);refine pbr_t g7 ?_;(conv=>whnf);refine pbr_t g7 ?_;(conv=>whnf);cases h2;exact ⟨(.cons rfl (.cons rfl .nil)), rfl⟩
    · (conv=>whnf);refine pbr_f g7 ?_;(conv=>whnf);refine pbr_f g7 ?_;(conv=>whnf);obtain ⟨y8, h9, h2⟩ := obnd_some h2;refine (c15 h9).go ?_;(conv=>whnf);refine pbr_f g7 ?_;(conv=>whnf);refine pbr_f g7 ?_;(conv=>whnf);cases h2;exact ⟨(.cons rfl (.cons rfl .nil)), rfl⟩
  · refine pw_cond ?_;(conv=>whnf);refine pbr_oite H (fun g10 H => ?_) (fun g10 H => ?_)
    · (conv=>whnf);refine pw_so ?_;refine po_all ?_;(conv=>whnf);refine pw_ret ?_;(conv=>whnf);cases H; rfl
    · (conv=>whnf);refine pw_skip ?_;(conv=>whnf);refine pw_seq ?_;refine pw_so ?_;refine po_all ?_;(conv=>whnf);refine pw_cond ?_;(conv=>whnf);refine pbr_oite H (fun g11 H => ?_) (fun g11 H => ?_)
      · (conv=>whnf);refine pw_so ?_;refine po_all ?_;(conv=>whnf);refine pw_ret ?_;(conv=>whnf);cases H; rfl
      · (conv=>whnf);refine pw_skip ?_;(conv=>whnf);refine pw_seq ?_;refine pw_so ?_;refine po_all ?_;(conv=>whnf);refine pw_cond ?_;(conv=>whnf);refine pbr_oite H (fun g12 H => ?_) (fun g12 H => ?_)
        · (conv=>whnf);refine pw_so ?_;refine po_all ?_;(conv=>whnf);refine pw_ret ?_;(conv=>whnf);cases H; rfl
        · (conv=>whnf);refine pw_skip ?_;(conv=>whnf);refine pw_seq ?_;refine pw_so ?_;refine po_all ?_;(conv=>whnf);refine pw_cond ?_;(conv=>whnf);refine pbr_oite H (fun g13 H => ?_) (fun g13 H => ?_)
          · (conv=>whnf);refine pw_so ?_;refine po_all ?_;(conv=>whnf);refine pw_ret ?_;(conv=>whnf);cases H; rfl
          · (conv=>whnf);refine pw_skip ?_;(conv=>whnf);refine pw_seq ?_;refine pw_so ?_;refine po_all ?_;(conv=>whnf);refine pw_cond ?_;(conv=>whnf);refine pbr_oite H (fun g14 H => ?_) (fun g14 H => ?_)
            · (conv=>whnf);refine pw_so ?_;refine po_all ?_;(conv=>whnf);refine pw_ret ?_;(conv=>whnf);cases H; rfl
            · (conv=>whnf);refine pw_skip ?_;(conv=>whnf);refine pw_so ?_;refine po_all ?_;(conv=>whnf);obtain ⟨r15, h16, h17, h18⟩ := obndS_some H;refine pw_joinSR (ρ := Unit) (fun e => ⟨[], ⟨1, [(0, .rw [(.int .i64 a0), (.int .i64 a1), (VS 4 (a2.map e_SIII))])], false⟩⟩) r15 ?_ ?_
              · refine pw_so ?_;refine po_all ?_;(conv=>whnf);refine pw_block ?_;refine pw_loop (τ := (List ByteArray) × Int) (fun e => ⟨[(1, (.pointer (some ⟨0, 0, none⟩))), (4, (VT 1 (e.1.map eS) 1)), (5, (.int .i64 e.2))], ⟨2, [(1, .tail (e.1.map eS).length 1), (0, .rw [(.int .i64 a0), (.int .i64 a1), (VS 4 (a2.map e_SIII))])], false⟩⟩) h16 ?_ (fun _ => Nat.le_of_ble_eq_true rfl) ?_
                · exact (Recast.nilTs 1 (Nat.le_of_ble_eq_true rfl) (.same rfl (.turn rfl (.same rfl .nil))))
                · intro e19 x20 h21;refine pw_seq ?_;refine pw_so ?_;refine po_all ?_;(conv=>whnf);refine pw_cond ?_;(conv=>whnf);refine pbr_oite h21 (fun g22 h21 => ?_) (fun g22 h21 => ?_)
                  · (conv=>whnf);refine pw_skip ?_;(conv=>whnf);refine pw_seq ?_;refine pw_block ?_;refine pw_seq ?_;refine pw_so ?_;refine po_all ?_;(conv=>whnf);refine pbr_ogrd h21 (fun g23 h21 => ?_);(conv=>whnf);refine nth_o (l := a2) h21 (fun x24 _ h21 => ?_);(conv=>whnf);obtain ⟨y25, h26, h21⟩ := obnd_some h21;refine ICalls.goW (c354 h26) (.cons (.refl _) (.cons (.vt _ _ _) .nil)) ?_;(conv=>whnf);refine pw_so ?_;refine po_all ?_;(conv=>whnf);refine pw_cond ?_;(conv=>whnf);refine pbr_oite h21 (fun g27 h21 => ?_) (fun g27 h21 => ?_)
                    · (conv=>whnf);refine pw_so ?_;refine po_all ?_;(conv=>whnf);refine pw_ret ?_;(conv=>whnf);cases h21;refine ⟨_, rfl, ?_⟩; rintro rfl;(conv=>whnf);obtain rfl := h18 _ rfl; rfl
                    · (conv=>whnf);refine pw_skip ?_;(conv=>whnf);refine pw_ops ?_;refine po_all ?_;(conv=>whnf);refine pbr_t g23 ?_;(conv=>whnf);refine nth_o (l := a2) h21 (fun x29 _ h21 => ?_);(conv=>whnf);refine app_o (l := e19.1) (m := ([x29.1] : List ByteArray)) (f := eS) h21 (by rfl) (by rfl) (by rfl) (fun h21 => ?_);(conv=>whnf);refine pw_ops ?_;refine po_all ?_;(conv=>whnf);cases h21;refine ⟨_, rfl, ?_⟩;refine Recast.trunc (Nat.le_of_ble_eq_true rfl) ?_ ?_
                      · repeat (first | exact .nil | refine .cons rfl (by first | exact OBnd.rwc (Nat.le_of_ble_eq_true rfl) rfl | exact OBnd.tail (Nat.le_of_ble_eq_true rfl) | trivial) ?_)
                      · repeat (first | exact .nil | refine .cons rfl (by first | exact Bnd.ptr (Nat.le_of_ble_eq_true rfl) | exact Bnd.vt (Nat.le_of_ble_eq_true rfl) | exact Bnd.cl) ?_)
                  · (conv=>whnf);refine pw_exit ?_;(conv=>whnf);cases h21;refine ⟨_, rfl, ?_⟩; rintro rfl;(conv=>whnf);refine ⟨_, rfl, ?_⟩;exact Recast.fz (fun _ => false) (Nat.le_of_ble_eq_true rfl) (.cons (.same rfl rfl (OBnd.rwl (Nat.le_of_ble_eq_true rfl) rfl (.cons .cl (.cons .cl (.cons .cl .nil))))) .nil) .nil
              · intro r31 hr; have H := h17 _ hr;refine pw_so ?_;refine po_all ?_;(conv=>whnf);refine pw_ret ?_;(conv=>whnf);cases H; rfl

/-- guidevane/guidevaneref08.PlantErr -/
noncomputable def f347 [LO]  (a0 : Int) (a1 : Int) (a2 : List (ByteArray × Int × Int × Int)) : Option Int :=
  obnd (f325 a0 a1 a2) fun (y1 : Int × Int) =>
  some y1.2
set_option maxHeartbeats 1000000 in
theorem c347 [LO]  {a0 : Int} {a1 : Int} {a2 : List (ByteArray × Int × Int × Int)} {x : Int} (H : f347 a0 a1 a2 = some x) : ICalls E 347 [(.agg ⟨[(.int .i64 a0), (.int .i64 a1), (VS 4 (a2.map e_SIII))]⟩)] AHeap.none fun v _ => v = (.int .i64 x) := by
  refine icalls_fn (pfnw ?_); unfold f347 at H;(conv=>whnf);refine pw_so ?_;refine po_all ?_;(conv=>whnf);refine pw_so ?_;refine po_all ?_;(conv=>whnf);obtain ⟨y1, h2, H⟩ := obnd_some H;refine (c325 h2).go ?_;(conv=>whnf);refine pw_so ?_;refine po_all ?_;(conv=>whnf);refine pw_ret ?_;(conv=>whnf);cases H; rfl

/-- guidevane/guidevaneref08.isPrice -/
noncomputable def f355  (a0 : Int) : Option Bool :=
  obnd (f15 a0 (-10000 : Int) (10000 : Int)) fun (y1 : Bool) =>
  some y1
set_option maxHeartbeats 1000000 in
theorem c355  {a0 : Int} {x : Bool} (H : f355 a0 = some x) : ICalls E 355 [(.int .i64 a0)] AHeap.none fun v _ => v = (.bool x) := by
  refine icalls_fn (pfnw ?_); unfold f355 at H;(conv=>whnf);refine pw_so ?_;refine po_all ?_;(conv=>whnf);refine pw_so ?_;refine po_all ?_;(conv=>whnf);obtain ⟨y1, h2, H⟩ := obnd_some H;refine (c15 h2).go ?_;(conv=>whnf);refine pw_ret ?_;(conv=>whnf);cases H; rfl

/-- guidevane/guidevaneref08.CheckTask -/
noncomputable def f326 [LO]  (a0 : Int) (a1 : Int) (a2 : List (ByteArray × Int × Int × Int)) (a3 : Int) (a4 : Int) (a5 : Int) (a6 : List (Int × Int × Int)) : Option (Int × Int) :=
  obnd (f347 a0 a1 a2) fun (y1 : Int) =>
  oite ((!(ieq y1 (0 : Int)))) (
   some ((0 : Int), y1)
    ) (
   obnd (f15 a3 a0 a1) fun (y4 : Bool) =>
   oite (!y4) (
    some ((0 : Int), (2 : Int))
     ) (
    obnd (f15 a4 (0 : Int) ((IntKind.i64.wrap (((a2.map e_SIII).length : Int) - (1 : Int))))) fun (y7 : Bool) =>
    oite (!y7) (
     some ((0 : Int), (6 : Int))
      ) (
     obnd (f355 a5) fun (y10 : Bool) =>
     oite (!y10) (
      some ((0 : Int), (2 : Int))
       ) (
      oite ((ieq ((a6.map e_III).length : Int) (0 : Int))) (
       some ((0 : Int), (10 : Int))
        ) (
       oite ((ilt (10 : Int) ((a6.map e_III).length : Int))) (
        some ((0 : Int), (8 : Int))
         ) (
        obndS (
         oloop (τ := Int) (ρ := (Unit) ⊕ (Int × Int)) (fun e19 =>
          oite ((ilt e19 ((a6.map e_III).length : Int))) (
           ogrd ((ile 0 e19)) (
           obnd (a6[e19.toNat]?) fun (x24 : Int × Int × Int) =>
           obnd (
            obnd (f355 x24.1) fun (y29 : Bool) =>
            obnd (
             oite (!y29) (
              some true
               ) (
              obnd (f355 x24.2.1) fun (y34 : Bool) =>
              some (!y34)
               )
              ) fun (r31 : Bool) =>
            oite r31 (
             some true
              ) (
             obnd (f355 x24.2.2) fun (y37 : Bool) =>
             some (!y37)
              )
             ) fun (r25 : Bool) =>
           oite r25 (
            some (.inr (.inr ((e19, (2 : Int)))))
             ) (
            oite ((ilt x24.1 x24.2.1)) (
             some (.inr (.inr ((e19, (9 : Int)))))
              ) (
             some (.inl (IntKind.i64.wrap (e19 + (1 : Int))))
              )
             )
           )
            ) (
           some (.inr (.inl ()))
            )
           ) (0 : Int)
          ) fun (_ : Unit) =>
        some ((0 : Int), (0 : Int))
         )
        )
       )
      )
     )
    )
set_option maxHeartbeats 1000000 in
theorem c326 [LO]  {a0 : Int} {a1 : Int} {a2 : List (ByteArray × Int × Int × Int)} {a3 : Int} {a4 : Int} {a5 : Int} {a6 : List (Int × Int × Int)} {x : Int × Int} (H : f326 a0 a1 a2 a3 a4 a5 a6 = some x) : ICalls E 326 [(.agg ⟨[(.int .i64 a0), (.int .i64 a1), (VS 4 (a2.map e_SIII))]⟩), (.agg ⟨[(.int .i64 a3), (.int .i64 a4), (.int .i64 a5), (VS 3 (a6.map e_III))]⟩)] AHeap.none fun v _ => v = (.tuple ⟨[(.int .i64 x.1), (.int .i64 x.2)]⟩) := by
  refine icalls_fn (pfnw ?_); unfold f326 at H;(conv=>whnf);refine pw_so ?_;refine po_all ?_;(conv=>whnf);refine pw_seq ?_;refine pw_so ?_;refine po_all ?_;(conv=>whnf);obtain ⟨y1, h2, H⟩ := obnd_some H;refine (c347 h2).go ?_;(conv=>whnf);refine pw_so ?_;refine po_all ?_;(conv=>whnf);refine pw_cond ?_;(conv=>whnf);refine pbr_oite H (fun g3 H => ?_) (fun g3 H => ?_)
  · (conv=>whnf);refine pw_so ?_;refine po_all ?_;(conv=>whnf);refine pw_ret ?_;(conv=>whnf);cases H; rfl
  · (conv=>whnf);refine pw_skip ?_;(conv=>whnf);refine pw_seq ?_;refine pw_so ?_;refine po_all ?_;(conv=>whnf);obtain ⟨y4, h5, H⟩ := obnd_some H;refine (c15 h5).go ?_;(conv=>whnf);refine pw_cond ?_;(conv=>whnf);refine pbr_oite H (fun g6 H => ?_) (fun g6 H => ?_)
    · (conv=>whnf);refine pw_so ?_;refine po_all ?_;(conv=>whnf);refine pw_ret ?_;(conv=>whnf);cases H; rfl
    · (conv=>whnf);refine pw_skip ?_;(conv=>whnf);refine pw_seq ?_;refine pw_so ?_;refine po_all ?_;(conv=>whnf);obtain ⟨y7, h8, H⟩ := obnd_some H;refine (c15 h8).go ?_;(conv=>whnf);refine pw_cond ?_;(conv=>whnf);refine pbr_oite H (fun g9 H => ?_) (fun g9 H => ?_)
      · (conv=>whnf);refine pw_so ?_;refine po_all ?_;(conv=>whnf);refine pw_ret ?_;(conv=>whnf);cases H; rfl
      · (conv=>whnf);refine pw_skip ?_;(conv=>whnf);refine pw_seq ?_;refine pw_so ?_;refine po_all ?_;(conv=>whnf);obtain ⟨y10, h11, H⟩ := obnd_some H;refine (c355 h11).go ?_;(conv=>whnf);refine pw_cond ?_;(conv=>whnf);refine pbr_oite H (fun g12 H => ?_) (fun g12 H => ?_)
        · (conv=>whnf);refine pw_so ?_;refine po_all ?_;(conv=>whnf);refine pw_ret ?_;(conv=>whnf);cases H; rfl
        · (conv=>whnf);refine pw_skip ?_;(conv=>whnf);refine pw_seq ?_;refine pw_so ?_;refine po_all ?_;(conv=>whnf);refine pw_cond ?_;(conv=>whnf);refine pbr_oite H (fun g13 H => ?_) (fun g13 H => ?_)
          · (conv=>whnf);refine pw_so ?_;refine po_all ?_;(conv=>whnf);refine pw_ret ?_;(conv=>whnf);cases H; rfl
          · (conv=>whnf);refine pw_skip ?_;(conv=>whnf);refine pw_seq ?_;refine pw_so ?_;refine po_all ?_;(conv=>whnf);refine pw_cond ?_;(conv=>whnf);refine pbr_oite H (fun g14 H => ?_) (fun g14 H => ?_)
            · (conv=>whnf);refine pw_so ?_;refine po_all ?_;(conv=>whnf);refine pw_ret ?_;(conv=>whnf);cases H; rfl
            · (conv=>whnf);refine pw_skip ?_;(conv=>whnf);obtain ⟨r15, h16, h17, h18⟩ := obndS_some H;refine pw_joinS (ρ := Unit) (fun e => ⟨[], ⟨2, [(1, .rw [(.int .i64 a3), (.int .i64 a4), (.int .i64 a5), (VS 3 (a6.map e_III))]), (0, .rw [(.int .i64 a0), (.int .i64 a1), (VS 4 (a2.map e_SIII))])], false⟩⟩) r15 ?_ ?_
              · refine pw_so ?_;refine po_all ?_;(conv=>whnf);refine pw_block ?_;refine pw_loop (τ := Int) (fun e => ⟨[(3, (.pointer (some ⟨1, 0, none⟩))), (7, (.int .i64 e))], ⟨2, [(1, .rw [(.int .i64 a3), (.int .i64 a4), (.int .i64 a5), (VS 3 (a6.map e_III))]), (0, .rw [(.int .i64 a0), (.int .i64 a1), (VS 4 (a2.map e_SIII))])], false⟩⟩) h16 ?_ (fun _ => Nat.le_of_ble_eq_true rfl) ?_
                · exact .sub' (Nat.le_of_ble_eq_true rfl) (.cons rfl (.cons rfl .nil))
                · intro e19 x20 h21;refine pw_seq ?_;refine pw_so ?_;refine po_all ?_;(conv=>whnf);refine pw_cond ?_;(conv=>whnf);refine pbr_oite h21 (fun g22 h21 => ?_) (fun g22 h21 => ?_)
                  · (conv=>whnf);refine pw_skip ?_;(conv=>whnf);refine pw_seq ?_;refine pw_block ?_;refine pw_so ?_;refine po_all ?_;(conv=>whnf);refine pbr_ogrd h21 (fun g23 h21 => ?_);(conv=>whnf);refine nth_o (l := a6) h21 (fun x24 _ h21 => ?_);(conv=>whnf);refine pw_seq ?_;obtain ⟨r25, h26, h21⟩ := obnd_some h21;refine pw_join (ρ := Bool) (fun e => ⟨[(3, (.pointer (some ⟨1, 0, none⟩))), (7, (.int .i64 e19)), (8, (.pointer (some ⟨2, 0, none⟩))), (69, (.bool e))], ⟨3, [(2, .rw [(.int .i64 x24.1), (.int .i64 x24.2.1), (.int .i64 x24.2.2)]), (1, .rw [(.int .i64 a3), (.int .i64 a4), (.int .i64 a5), (VS 3 (a6.map e_III))]), (0, .rw [(.int .i64 a0), (.int .i64 a1), (VS 4 (a2.map e_SIII))])], false⟩⟩) r25 ?_ ?_
                    · refine pw_ops ?_;refine po_ops 5 ?_;(conv=>whnf);obtain ⟨y29, h30, h26⟩ := obnd_some h26;refine (c355 h30).go ?_;(conv=>whnf);obtain ⟨r31, h32, h26⟩ := obnd_some h26;refine po_seg (τ := Bool) 5 (fun e => ⟨[(3, (.pointer (some ⟨1, 0, none⟩))), (7, (.int .i64 e19)), (8, (.pointer (some ⟨2, 0, none⟩))), (63, (.bool e))], ⟨3, [(2, .rw [(.int .i64 x24.1), (.int .i64 x24.2.1), (.int .i64 x24.2.2)]), (1, .rw [(.int .i64 a3), (.int .i64 a4), (.int .i64 a5), (VS 3 (a6.map e_III))]), (0, .rw [(.int .i64 a0), (.int .i64 a1), (VS 4 (a2.map e_SIII))])], false⟩⟩) r31 ?_ ?_
                      · refine po_all ?_;(conv=>whnf);refine pbr_oite h32 (fun g33 h32 => ?_) (fun g33 h32 => ?_)
                        · (conv=>whnf);refine pbr_t g33 ?_;(conv=>whnf);refine pbr_t g33 ?_;(conv=>whnf);refine pbr_t g33 ?_;(conv=>whnf);refine pbr_t g33 ?_;(conv=>whnf);cases h32;exact ⟨(.cons rfl (.cons rfl (.cons rfl (.cons rfl .nil)))), rfl⟩
                        · (conv=>whnf);refine pbr_f g33 ?_;(conv=>whnf);refine pbr_f g33 ?_;(conv=>whnf);obtain ⟨y34, h35, h32⟩ := obnd_some h32;refine (c355 h35).go ?_;(conv=>whnf);refine pbr_f g33 ?_;(conv=>whnf);refine pbr_f g33 ?_;(conv=>whnf);cases h32;exact ⟨(.cons rfl (.cons rfl (.cons rfl (.cons rfl .nil)))), rfl⟩
                      · refine po_all ?_;(conv=>whnf);refine pbr_oite h26 (fun g36 h26 => ?_) (fun g36 h26 => ?_)
                        · (conv=>whnf);refine pbr_t g36 ?_;(conv=>whnf);refine pbr_t g36 ?_;(conv=>whnf);refine pbr_t g36 ?_;(conv=>whnf);refine pbr_t g36 ?_;(conv=>whnf);cases h26;exact ⟨(.cons rfl (.cons rfl (.cons rfl (.cons rfl .nil)))), rfl⟩
                        · (conv=>whnf);refine pbr_f g36 ?_;(conv=>whnf);refine pbr_f g36 ?_;(conv=>whnf);obtain ⟨y37, h38, h26⟩ := obnd_some h26;refine (c355 h38).go ?_;(conv=>whnf);refine pbr_f g36 ?_;(conv=>whnf);refine pbr_f g36 ?_;(conv=>whnf);cases h26;exact ⟨(.cons rfl (.cons rfl (.cons rfl (.cons rfl .nil)))), rfl⟩
                    · refine pw_cond ?_;(conv=>whnf);refine pbr_oite h21 (fun g39 h21 => ?_) (fun g39 h21 => ?_)
                      · (conv=>whnf);refine pw_so ?_;refine po_all ?_;(conv=>whnf);refine pw_ret ?_;(conv=>whnf);cases h21;refine ⟨_, rfl, ?_⟩; rintro rfl;(conv=>whnf);obtain rfl := h18 _ rfl; rfl
                      · (conv=>whnf);refine pw_skip ?_;(conv=>whnf);refine pw_so ?_;refine po_all ?_;(conv=>whnf);refine pw_cond ?_;(conv=>whnf);refine pbr_oite h21 (fun g41 h21 => ?_) (fun g41 h21 => ?_)
                        · (conv=>whnf);refine pw_so ?_;refine po_all ?_;(conv=>whnf);refine pw_ret ?_;(conv=>whnf);cases h21;refine ⟨_, rfl, ?_⟩; rintro rfl;(conv=>whnf);obtain rfl := h18 _ rfl; rfl
                        · (conv=>whnf);refine pw_skip ?_;(conv=>whnf);refine pw_ops ?_;refine po_all ?_;(conv=>whnf);cases h21;refine ⟨_, rfl, ?_⟩;refine Recast.trunc (Nat.le_of_ble_eq_true rfl) ?_ ?_
                          · repeat (first | exact .nil | refine .cons rfl (by first | exact OBnd.rwc (Nat.le_of_ble_eq_true rfl) rfl | exact OBnd.tail (Nat.le_of_ble_eq_true rfl) | trivial) ?_)
                          · repeat (first | exact .nil | refine .cons rfl (by first | exact Bnd.ptr (Nat.le_of_ble_eq_true rfl) | exact Bnd.vt (Nat.le_of_ble_eq_true rfl) | exact Bnd.cl) ?_)
                  · (conv=>whnf);refine pw_exit ?_;(conv=>whnf);cases h21;refine ⟨_, rfl, ?_⟩; rintro rfl;(conv=>whnf);exact ⟨_, rfl, ⟨.nil, rfl⟩⟩
              · intro r44 hr; have H := h17 _ hr;refine pw_so ?_;refine po_all ?_;(conv=>whnf);refine pw_ret ?_;(conv=>whnf);cases H; rfl

/-- guidevane/guidevaneref08.TaskErr -/
noncomputable def f311 [LO]  (a0 : Int) (a1 : Int) (a2 : List (ByteArray × Int × Int × Int)) (a3 : Int) (a4 : Int) (a5 : Int) (a6 : List (Int × Int × Int)) : Option Int :=
  obnd (f326 a0 a1 a2 a3 a4 a5 a6) fun (y1 : Int × Int) =>
  some y1.2
set_option maxHeartbeats 1000000 in
theorem c311 [LO]  {a0 : Int} {a1 : Int} {a2 : List (ByteArray × Int × Int × Int)} {a3 : Int} {a4 : Int} {a5 : Int} {a6 : List (Int × Int × Int)} {x : Int} (H : f311 a0 a1 a2 a3 a4 a5 a6 = some x) : ICalls E 311 [(.agg ⟨[(.int .i64 a0), (.int .i64 a1), (VS 4 (a2.map e_SIII))]⟩), (.agg ⟨[(.int .i64 a3), (.int .i64 a4), (.int .i64 a5), (VS 3 (a6.map e_III))]⟩)] AHeap.none fun v _ => v = (.int .i64 x) := by
  refine icalls_fn (pfnw ?_); unfold f311 at H;(conv=>whnf);refine pw_so ?_;refine po_all ?_;(conv=>whnf);refine pw_so ?_;refine po_all ?_;(conv=>whnf);obtain ⟨y1, h2, H⟩ := obnd_some H;refine (c326 h2).go ?_;(conv=>whnf);refine pw_so ?_;refine po_all ?_;(conv=>whnf);refine pw_ret ?_;(conv=>whnf);cases H; rfl

/-- guidevane/guidevaneref08.Revenue -/
noncomputable def f350  (_ : Int) (_ : Int) (a2 : List (ByteArray × Int × Int × Int)) (a3 : Int) (a4 : Int) (_ : Int) (a6 : Int) (a7 : Int) : Option Int :=
  ogrd ((ile 0 a6)) (
  obnd (a2[a6.toNat]?) fun (x2 : ByteArray × Int × Int × Int) =>
  obnd (
   oite ((ilt (0 : Int) x2.2.2.1)) (
    some (IntKind.i64.wrap (x2.2.2.1 * a4))
     ) (
    some (IntKind.i64.wrap (x2.2.2.1 * a3))
     )
    ) fun (r3 : Int) =>
  oite ((!(ieq a6 a7))) (
   some (IntKind.i64.wrap (r3 - x2.2.2.2))
    ) (
   some r3
    )
  )
set_option maxHeartbeats 1000000 in
theorem c350  {a0 : Int} {a1 : Int} {a2 : List (ByteArray × Int × Int × Int)} {a3 : Int} {a4 : Int} {a5 : Int} {a6 : Int} {a7 : Int} {x : Int} (H : f350 a0 a1 a2 a3 a4 a5 a6 a7 = some x) : ICalls E 350 [(.agg ⟨[(.int .i64 a0), (.int .i64 a1), (VS 4 (a2.map e_SIII))]⟩), (.agg ⟨[(.int .i64 a3), (.int .i64 a4), (.int .i64 a5)]⟩), (.int .i64 a6), (.int .i64 a7)] AHeap.none fun v _ => v = (.int .i64 x) := by
  refine icalls_fn (pfnw ?_); unfold f350 at H;(conv=>whnf);refine pw_so ?_;refine po_all ?_;(conv=>whnf);refine pw_so ?_;refine po_all ?_;(conv=>whnf);refine pbr_ogrd H (fun g1 H => ?_);(conv=>whnf);refine nth_o (l := a2) H (fun x2 _ H => ?_);(conv=>whnf);refine pw_so ?_;refine po_all ?_;(conv=>whnf);obtain ⟨r3, h4, H⟩ := obnd_some H;refine pw_join (ρ := Int) (fun e => ⟨[(2, (.int .i64 a6)), (3, (.int .i64 a7)), (9, (.pointer (some ⟨2, 0, none⟩))), (10, (.int .i64 e))], ⟨3, [(2, .rw [(.string x2.1), (.int .i64 x2.2.1), (.int .i64 x2.2.2.1), (.int .i64 x2.2.2.2)]), (1, .rw [(.int .i64 a3), (.int .i64 a4), (.int .i64 a5)]), (0, .rw [(.int .i64 a0), (.int .i64 a1), (VS 4 (a2.map e_SIII))])], false⟩⟩) r3 ?_ ?_
  · refine pw_so ?_;refine po_all ?_;(conv=>whnf);refine pw_cond ?_;(conv=>whnf);refine pbr_oite h4 (fun g7 h4 => ?_) (fun g7 h4 => ?_)
    · (conv=>whnf);refine pw_ops ?_;refine po_all ?_;(conv=>whnf);cases h4;exact ⟨(.cons rfl (.cons rfl (.cons rfl (.cons rfl .nil)))), rfl⟩
    · (conv=>whnf);refine pw_skip ?_;(conv=>whnf);cases h4;exact ⟨(.cons rfl (.cons rfl (.cons rfl (.cons rfl .nil)))), rfl⟩
  · refine pw_seq ?_;refine pw_so ?_;refine po_all ?_;(conv=>whnf);refine pw_cond ?_;(conv=>whnf);refine pbr_oite H (fun g8 H => ?_) (fun g8 H => ?_)
    · (conv=>whnf);refine pw_ops ?_;refine po_all ?_;(conv=>whnf);refine pw_so ?_;refine po_all ?_;(conv=>whnf);refine pw_ret ?_;(conv=>whnf);cases H; rfl
    · (conv=>whnf);refine pw_skip ?_;(conv=>whnf);refine pw_so ?_;refine po_all ?_;(conv=>whnf);refine pw_ret ?_;(conv=>whnf);cases H; rfl

/-- guidevane/guidevaneref08.Cell -/
noncomputable def f349  (a0 : Int) (_ : Int) (a2 : List (ByteArray × Int × Int × Int)) (a3 : Int) (a4 : Int) : Option Int :=
  some (IntKind.i64.wrap ((IntKind.i64.wrap ((IntKind.i64.wrap (a3 - a0)) * ((a2.map e_SIII).length : Int))) + a4))
set_option maxHeartbeats 1000000 in
theorem c349  {a0 : Int} {a1 : Int} {a2 : List (ByteArray × Int × Int × Int)} {a3 : Int} {a4 : Int} {x : Int} (H : f349 a0 a1 a2 a3 a4 = some x) : ICalls E 349 [(.agg ⟨[(.int .i64 a0), (.int .i64 a1), (VS 4 (a2.map e_SIII))]⟩), (.int .i64 a3), (.int .i64 a4)] AHeap.none fun v _ => v = (.int .i64 x) := by
  refine icalls_fn (pfnw ?_); unfold f349 at H;(conv=>whnf);refine pw_so ?_;refine po_all ?_;(conv=>whnf);refine pw_so ?_;refine po_all ?_;(conv=>whnf);refine pw_ret ?_;(conv=>whnf);cases H; rfl

/-- guidevane/guidevaneref08.CheckBound -/
noncomputable def f333 [LO]  (a0 : Int) (a1 : Int) (a2 : List (ByteArray × Int × Int × Int)) (a3 : Int) (a4 : Int) (a5 : Int) (a6 : List (Int × Int × Int)) (a7 : List ((List Int))) : Option (Int × Int) :=
  oite ((!(ieq ((a7.map e_L1I).length : Int) (IntKind.i64.wrap (((a6.map e_III).length : Int) + (1 : Int)))))) (
   some ((0 : Int), (10 : Int))
    ) (
   obndS (
    oloop (τ := Int) (ρ := (Unit) ⊕ (Int × Int)) (fun e6 =>
     oite ((ilt e6 ((a7.map e_L1I).length : Int))) (
      ogrd ((ile 0 e6)) (
      obnd (a7[e6.toNat]?) fun (x11 : (List Int)) =>
      oite ((!(ieq ((x11.map eI).length : Int) (IntKind.i64.wrap ((IntKind.i64.wrap ((IntKind.i64.wrap (a1 - a0)) + (1 : Int))) * ((a2.map e_SIII).length : Int)))))) (
       some (.inr (.inr (((0 : Int), (10 : Int)))))
        ) (
       some (.inl (IntKind.i64.wrap (e6 + (1 : Int))))
        )
      )
       ) (
      some (.inr (.inl ()))
       )
      ) (0 : Int)
     ) fun (_ : Unit) =>
   obndS (
    oloop (τ := Int) (ρ := (Unit) ⊕ (Int × Int)) (fun e20 =>
     oite ((ilt e20 ((a7.map e_L1I).length : Int))) (
      obndS (
       oloop (τ := Int) (ρ := (Unit) ⊕ ((Int) ⊕ ((Unit) ⊕ (Int × Int)))) (fun e28 =>
        oite ((ilt e28 (IntKind.i64.wrap ((IntKind.i64.wrap ((IntKind.i64.wrap (a1 - a0)) + (1 : Int))) * ((a2.map e_SIII).length : Int))))) (
         ogrd ((ile 0 e20)) (
         obnd (a7[e20.toNat]?) fun (x33 : (List Int)) =>
         ogrd ((ile 0 e28)) (
         obnd (x33[e28.toNat]?) fun (x35 : Int) =>
         obnd (f15 x35 (-1000000000000 : Int) (1000000000000 : Int)) fun (y36 : Bool) =>
         oite (!y36) (
          some (.inr (.inr (.inr (.inr (((0 : Int), (2 : Int)))))))
           ) (
          some (.inl (IntKind.i64.wrap (e28 + (1 : Int))))
           )
         )
         )
          ) (
         some (.inr (.inl ()))
          )
         ) (0 : Int)
        ) fun (_ : Unit) =>
      some (.inl (IntKind.i64.wrap (e20 + (1 : Int))))
       ) (
      some (.inr (.inl ()))
       )
      ) (0 : Int)
     ) fun (_ : Unit) =>
   obndS (
    oloop (τ := Int) (ρ := (Unit) ⊕ (Int × Int)) (fun e49 =>
     oite ((ilt e49 ((a7.map e_L1I).length : Int))) (
      obndS (
       oloop (τ := Int) (ρ := (Unit) ⊕ ((Int) ⊕ ((Unit) ⊕ (Int × Int)))) (fun e57 =>
        oite ((ilt e57 (IntKind.i64.wrap ((IntKind.i64.wrap ((IntKind.i64.wrap (a1 - a0)) + (1 : Int))) * ((a2.map e_SIII).length : Int))))) (
         obndS (
          ogrd (!((ieq ((a2.map e_SIII).length : Int) 0))) (
          oite ((ieq e49 ((a6.map e_III).length : Int))) (
           ogrd ((ile 0 e49)) (
           obnd (a7[e49.toNat]?) fun (x68 : (List Int)) =>
           ogrd ((ile 0 e57)) (
           obnd (x68[e57.toNat]?) fun (x70 : Int) =>
           oite ((ilt x70 (IntKind.i64.wrap (a5 * (IntKind.i64.wrap (a0 + (IntKind.i64.wrap (e57.tdiv ((a2.map e_SIII).length : Int))))))))) (
            some (.inr (.inr (.inr (.inr (.inr (((0 : Int), (19 : Int))))))))
             ) (
            some (.inl ())
             )
           )
           )
            ) (
           oloop (τ := Int) (ρ := (Unit) ⊕ ((Int) ⊕ ((Unit) ⊕ ((Int) ⊕ ((Unit) ⊕ (Int × Int)))))) (fun e74 =>
            oite ((ilt e74 ((a2.map e_SIII).length : Int))) (
             ogrd ((ile 0 e49)) (
             obnd (a6[e49.toNat]?) fun (x79 : Int × Int × Int) =>
             ogrd ((ile 0 e74)) (
             obnd (a2[e74.toNat]?) fun (x81 : ByteArray × Int × Int × Int) =>
             obnd (
              obnd (f15 (IntKind.i64.wrap ((IntKind.i64.wrap ((IntKind.i64.wrap (a0 + (IntKind.i64.wrap (e57.tdiv ((a2.map e_SIII).length : Int))))) + x79.2.2)) + x81.2.1)) a0 a1) fun (y86 : Bool) =>
              oite y86 (
               obnd (a7[e49.toNat]?) fun (x89 : (List Int)) =>
               ogrd ((ile 0 e57)) (
               obnd (x89[e57.toNat]?) fun (x91 : Int) =>
               obnd (a6[e49.toNat]?) fun (x92 : Int × Int × Int) =>
               ogrd ((ile 0 (IntKind.i64.wrap (e49 + (1 : Int))))) (
               obnd (a7[(IntKind.i64.wrap (e49 + (1 : Int))).toNat]?) fun (x94 : (List Int)) =>
               obnd (f350 a0 a1 a2 x92.1 x92.2.1 x92.2.2 e74 (e57.tmod ((a2.map e_SIII).length : Int))) fun (y95 : Int) =>
               obnd (f349 a0 a1 a2 (IntKind.i64.wrap ((IntKind.i64.wrap ((IntKind.i64.wrap (a0 + (IntKind.i64.wrap (e57.tdiv ((a2.map e_SIII).length : Int))))) + x79.2.2)) + x81.2.1)) e74) fun (y97 : Int) =>
               ogrd ((ile 0 y97)) (
               obnd (x94[y97.toNat]?) fun (x100 : Int) =>
               some (ilt x91 (IntKind.i64.wrap (y95 + x100)))
               )
               )
               )
                ) (
               some false
                )
               ) fun (r82 : Bool) =>
             oite r82 (
              some (.inr (.inr (.inr (.inr (.inr (.inr (((0 : Int), (19 : Int)))))))))
               ) (
              some (.inl (IntKind.i64.wrap (e74 + (1 : Int))))
               )
             )
             )
              ) (
             some (.inr (.inl ()))
              )
             ) (0 : Int)
            )
          )
           ) fun (_ : Unit) =>
         some (.inl (IntKind.i64.wrap (e57 + (1 : Int))))
          ) (
         some (.inr (.inl ()))
          )
         ) (0 : Int)
        ) fun (_ : Unit) =>
      some (.inl (IntKind.i64.wrap (e49 + (1 : Int))))
       ) (
      some (.inr (.inl ()))
       )
      ) (0 : Int)
     ) fun (_ : Unit) =>
   obnd (a7[(0 : Int).toNat]?) fun (x111 : (List Int)) =>
   obnd (f349 a0 a1 a2 a3 a4) fun (y112 : Int) =>
   ogrd ((ile 0 y112)) (
   obnd (x111[y112.toNat]?) fun (x115 : Int) =>
   some (x115, (0 : Int))
   )
    )
set_option maxHeartbeats 1000000 in
theorem c333 [LO]  {a0 : Int} {a1 : Int} {a2 : List (ByteArray × Int × Int × Int)} {a3 : Int} {a4 : Int} {a5 : Int} {a6 : List (Int × Int × Int)} {a7 : List ((List Int))} {x : Int × Int} (H : f333 a0 a1 a2 a3 a4 a5 a6 a7 = some x) : ICalls E 333 [(.agg ⟨[(.int .i64 a0), (.int .i64 a1), (VS 4 (a2.map e_SIII))]⟩), (.agg ⟨[(.int .i64 a3), (.int .i64 a4), (.int .i64 a5), (VS 3 (a6.map e_III))]⟩), (VS 1 (a7.map e_L1I))] AHeap.none fun v _ => v = (.tuple ⟨[(.int .i64 x.1), (.int .i64 x.2)]⟩) := by
  refine icalls_fn (pfnw ?_); unfold f333 at H;(conv=>whnf);refine pw_so ?_;refine po_all ?_;(conv=>whnf);refine pw_seq ?_;refine pw_so ?_;refine po_all ?_;(conv=>whnf);refine pw_cond ?_;(conv=>whnf);refine pbr_oite H (fun g1 H => ?_) (fun g1 H => ?_)
  · (conv=>whnf);refine pw_so ?_;refine po_all ?_;(conv=>whnf);refine pw_ret ?_;(conv=>whnf);cases H; rfl
  · (conv=>whnf);refine pw_skip ?_;(conv=>whnf);refine pw_so ?_;refine po_all ?_;(conv=>whnf);obtain ⟨r2, h3, h4, h5⟩ := obndS_some H;refine pw_joinS (ρ := Unit) (fun e => ⟨[(2, (VS 1 (a7.map e_L1I))), (3, (.pointer (some ⟨0, 0, none⟩))), (4, (.pointer (some ⟨1, 0, none⟩))), (8, (.int .i64 (IntKind.i64.wrap ((IntKind.i64.wrap ((IntKind.i64.wrap (a1 - a0)) + (1 : Int))) * ((a2.map e_SIII).length : Int)))))], ⟨2, [(1, .rw [(.int .i64 a3), (.int .i64 a4), (.int .i64 a5), (VS 3 (a6.map e_III))]), (0, .rw [(.int .i64 a0), (.int .i64 a1), (VS 4 (a2.map e_SIII))])], false⟩⟩) r2 ?_ ?_
    · refine pw_so ?_;refine po_all ?_;(conv=>whnf);refine pw_block ?_;refine pw_loop (τ := Int) (fun e => ⟨[(2, (VS 1 (a7.map e_L1I))), (3, (.pointer (some ⟨0, 0, none⟩))), (4, (.pointer (some ⟨1, 0, none⟩))), (8, (.int .i64 (IntKind.i64.wrap ((IntKind.i64.wrap ((IntKind.i64.wrap (a1 - a0)) + (1 : Int))) * ((a2.map e_SIII).length : Int))))), (9, (.int .i64 e))], ⟨2, [(1, .rw [(.int .i64 a3), (.int .i64 a4), (.int .i64 a5), (VS 3 (a6.map e_III))]), (0, .rw [(.int .i64 a0), (.int .i64 a1), (VS 4 (a2.map e_SIII))])], false⟩⟩) h3 ?_ (fun _ => Nat.le_of_ble_eq_true rfl) ?_
      · exact .sub' (Nat.le_of_ble_eq_true rfl) (.cons rfl (.cons rfl (.cons rfl (.cons rfl (.cons rfl .nil)))))
      · intro e6 x7 h8;refine pw_seq ?_;refine pw_so ?_;refine po_all ?_;(conv=>whnf);refine pw_cond ?_;(conv=>whnf);refine pbr_oite h8 (fun g9 h8 => ?_) (fun g9 h8 => ?_)
        · (conv=>whnf);refine pw_skip ?_;(conv=>whnf);refine pw_seq ?_;refine pw_block ?_;refine pw_so ?_;refine po_all ?_;(conv=>whnf);refine pbr_ogrd h8 (fun g10 h8 => ?_);(conv=>whnf);refine nth_o (l := a7) h8 (fun x11 _ h8 => ?_);(conv=>whnf);refine pw_cond ?_;(conv=>whnf);refine pbr_oite h8 (fun g12 h8 => ?_) (fun g12 h8 => ?_)
          · (conv=>whnf);refine pw_so ?_;refine po_all ?_;(conv=>whnf);refine pw_ret ?_;(conv=>whnf);cases h8;refine ⟨_, rfl, ?_⟩; rintro rfl;(conv=>whnf);obtain rfl := h5 _ rfl; rfl
          · (conv=>whnf);refine pw_skip ?_;(conv=>whnf);refine pw_ops ?_;refine po_all ?_;(conv=>whnf);cases h8;refine ⟨_, rfl, ?_⟩;exact .sub' (Nat.le_of_ble_eq_true rfl) (.cons rfl (.cons rfl (.cons rfl (.cons rfl (.cons rfl .nil)))))
        · (conv=>whnf);refine pw_exit ?_;(conv=>whnf);cases h8;refine ⟨_, rfl, ?_⟩; rintro rfl;(conv=>whnf);exact ⟨_, rfl, ⟨(.cons rfl (.cons rfl (.cons rfl (.cons rfl .nil)))), rfl⟩⟩
    · intro r15 hr; have H := h4 _ hr;obtain ⟨r16, h17, h18, h19⟩ := obndS_some H;refine pw_joinS (ρ := Unit) (fun e => ⟨[(2, (VS 1 (a7.map e_L1I))), (3, (.pointer (some ⟨0, 0, none⟩))), (4, (.pointer (some ⟨1, 0, none⟩))), (8, (.int .i64 (IntKind.i64.wrap ((IntKind.i64.wrap ((IntKind.i64.wrap (a1 - a0)) + (1 : Int))) * ((a2.map e_SIII).length : Int)))))], ⟨2, [(1, .rw [(.int .i64 a3), (.int .i64 a4), (.int .i64 a5), (VS 3 (a6.map e_III))]), (0, .rw [(.int .i64 a0), (.int .i64 a1), (VS 4 (a2.map e_SIII))])], false⟩⟩) r16 ?_ ?_
      · refine pw_so ?_;refine po_all ?_;(conv=>whnf);refine pw_block ?_;refine pw_loop (τ := Int) (fun e => ⟨[(2, (VS 1 (a7.map e_L1I))), (3, (.pointer (some ⟨0, 0, none⟩))), (4, (.pointer (some ⟨1, 0, none⟩))), (8, (.int .i64 (IntKind.i64.wrap ((IntKind.i64.wrap ((IntKind.i64.wrap (a1 - a0)) + (1 : Int))) * ((a2.map e_SIII).length : Int))))), (10, (.int .i64 e))], ⟨2, [(1, .rw [(.int .i64 a3), (.int .i64 a4), (.int .i64 a5), (VS 3 (a6.map e_III))]), (0, .rw [(.int .i64 a0), (.int .i64 a1), (VS 4 (a2.map e_SIII))])], false⟩⟩) h17 ?_ (fun _ => Nat.le_of_ble_eq_true rfl) ?_
        · exact .sub' (Nat.le_of_ble_eq_true rfl) (.cons rfl (.cons rfl (.cons rfl (.cons rfl (.cons rfl .nil)))))
        · intro e20 x21 h22;refine pw_seq ?_;refine pw_so ?_;refine po_all ?_;(conv=>whnf);refine pw_cond ?_;(conv=>whnf);refine pbr_oite h22 (fun g23 h22 => ?_) (fun g23 h22 => ?_)
          · (conv=>whnf);refine pw_skip ?_;(conv=>whnf);obtain ⟨r24, h25, h26, h27⟩ := obndS_some h22;refine pw_joinS (ρ := Unit) (fun e => ⟨[(2, (VS 1 (a7.map e_L1I))), (3, (.pointer (some ⟨0, 0, none⟩))), (4, (.pointer (some ⟨1, 0, none⟩))), (8, (.int .i64 (IntKind.i64.wrap ((IntKind.i64.wrap ((IntKind.i64.wrap (a1 - a0)) + (1 : Int))) * ((a2.map e_SIII).length : Int))))), (10, (.int .i64 e20))], ⟨2, [(1, .rw [(.int .i64 a3), (.int .i64 a4), (.int .i64 a5), (VS 3 (a6.map e_III))]), (0, .rw [(.int .i64 a0), (.int .i64 a1), (VS 4 (a2.map e_SIII))])], false⟩⟩) r24 ?_ ?_
            · refine pw_block ?_;refine pw_so ?_;refine po_all ?_;(conv=>whnf);refine pw_block ?_;refine pw_loop (τ := Int) (fun e => ⟨[(2, (VS 1 (a7.map e_L1I))), (3, (.pointer (some ⟨0, 0, none⟩))), (4, (.pointer (some ⟨1, 0, none⟩))), (8, (.int .i64 (IntKind.i64.wrap ((IntKind.i64.wrap ((IntKind.i64.wrap (a1 - a0)) + (1 : Int))) * ((a2.map e_SIII).length : Int))))), (10, (.int .i64 e20)), (11, (.int .i64 e))], ⟨2, [(1, .rw [(.int .i64 a3), (.int .i64 a4), (.int .i64 a5), (VS 3 (a6.map e_III))]), (0, .rw [(.int .i64 a0), (.int .i64 a1), (VS 4 (a2.map e_SIII))])], false⟩⟩) h25 ?_ (fun _ => Nat.le_of_ble_eq_true rfl) ?_
              · exact .sub' (Nat.le_of_ble_eq_true rfl) (.cons rfl (.cons rfl (.cons rfl (.cons rfl (.cons rfl (.cons rfl .nil))))))
              · intro e28 x29 h30;refine pw_seq ?_;refine pw_so ?_;refine po_all ?_;(conv=>whnf);refine pw_cond ?_;(conv=>whnf);refine pbr_oite h30 (fun g31 h30 => ?_) (fun g31 h30 => ?_)
                · (conv=>whnf);refine pw_skip ?_;(conv=>whnf);refine pw_seq ?_;refine pw_block ?_;refine pw_so ?_;refine po_all ?_;(conv=>whnf);refine pbr_ogrd h30 (fun g32 h30 => ?_);(conv=>whnf);refine nth_o (l := a7) h30 (fun x33 _ h30 => ?_);(conv=>whnf);refine pbr_ogrd h30 (fun g34 h30 => ?_);(conv=>whnf);refine nth_o (l := x33) h30 (fun x35 _ h30 => ?_);(conv=>whnf);obtain ⟨y36, h37, h30⟩ := obnd_some h30;refine (c15 h37).go ?_;(conv=>whnf);refine pw_cond ?_;(conv=>whnf);refine pbr_oite h30 (fun g38 h30 => ?_) (fun g38 h30 => ?_)
                  · (conv=>whnf);refine pw_so ?_;refine po_all ?_;(conv=>whnf);refine pw_ret ?_;(conv=>whnf);cases h30;refine ⟨_, rfl, ?_⟩; rintro rfl;(conv=>whnf);obtain rfl := h27 _ rfl;refine ⟨_, rfl, ?_⟩; rintro rfl;(conv=>whnf);obtain rfl := h19 _ rfl; rfl
                  · (conv=>whnf);refine pw_skip ?_;(conv=>whnf);refine pw_ops ?_;refine po_all ?_;(conv=>whnf);cases h30;refine ⟨_, rfl, ?_⟩;exact .sub' (Nat.le_of_ble_eq_true rfl) (.cons rfl (.cons rfl (.cons rfl (.cons rfl (.cons rfl (.cons rfl .nil))))))
                · (conv=>whnf);refine pw_exit ?_;(conv=>whnf);cases h30;refine ⟨_, rfl, ?_⟩; rintro rfl;(conv=>whnf);exact ⟨_, rfl, ⟨(.cons rfl (.cons rfl (.cons rfl (.cons rfl (.cons rfl .nil))))), rfl⟩⟩
            · intro r42 hr; have h22 := h26 _ hr;refine pw_ops ?_;refine po_all ?_;(conv=>whnf);cases h22;refine ⟨_, rfl, ?_⟩;exact .sub' (Nat.le_of_ble_eq_true rfl) (.cons rfl (.cons rfl (.cons rfl (.cons rfl (.cons rfl .nil)))))
          · (conv=>whnf);refine pw_exit ?_;(conv=>whnf);cases h22;refine ⟨_, rfl, ?_⟩; rintro rfl;(conv=>whnf);exact ⟨_, rfl, ⟨(.cons rfl (.cons rfl (.cons rfl (.cons rfl .nil)))), rfl⟩⟩
      · intro r44 hr; have H := h18 _ hr;obtain ⟨r45, h46, h47, h48⟩ := obndS_some H;refine pw_joinS (ρ := Unit) (fun e => ⟨[(2, (VS 1 (a7.map e_L1I))), (3, (.pointer (some ⟨0, 0, none⟩))), (4, (.pointer (some ⟨1, 0, none⟩)))], ⟨2, [(1, .rw [(.int .i64 a3), (.int .i64 a4), (.int .i64 a5), (VS 3 (a6.map e_III))]), (0, .rw [(.int .i64 a0), (.int .i64 a1), (VS 4 (a2.map e_SIII))])], false⟩⟩) r45 ?_ ?_
        · refine pw_so ?_;refine po_all ?_;(conv=>whnf);refine pw_block ?_;refine pw_loop (τ := Int) (fun e => ⟨[(2, (VS 1 (a7.map e_L1I))), (3, (.pointer (some ⟨0, 0, none⟩))), (4, (.pointer (some ⟨1, 0, none⟩))), (8, (.int .i64 (IntKind.i64.wrap ((IntKind.i64.wrap ((IntKind.i64.wrap (a1 - a0)) + (1 : Int))) * ((a2.map e_SIII).length : Int))))), (12, (.int .i64 e))], ⟨2, [(1, .rw [(.int .i64 a3), (.int .i64 a4), (.int .i64 a5), (VS 3 (a6.map e_III))]), (0, .rw [(.int .i64 a0), (.int .i64 a1), (VS 4 (a2.map e_SIII))])], false⟩⟩) h46 ?_ (fun _ => Nat.le_of_ble_eq_true rfl) ?_
          · exact .sub' (Nat.le_of_ble_eq_true rfl) (.cons rfl (.cons rfl (.cons rfl (.cons rfl (.cons rfl .nil)))))
          · intro e49 x50 h51;refine pw_seq ?_;refine pw_so ?_;refine po_all ?_;(conv=>whnf);refine pw_cond ?_;(conv=>whnf);refine pbr_oite h51 (fun g52 h51 => ?_) (fun g52 h51 => ?_)
            · (conv=>whnf);refine pw_skip ?_;(conv=>whnf);obtain ⟨r53, h54, h55, h56⟩ := obndS_some h51;refine pw_joinS (ρ := Unit) (fun e => ⟨[(2, (VS 1 (a7.map e_L1I))), (3, (.pointer (some ⟨0, 0, none⟩))), (4, (.pointer (some ⟨1, 0, none⟩))), (8, (.int .i64 (IntKind.i64.wrap ((IntKind.i64.wrap ((IntKind.i64.wrap (a1 - a0)) + (1 : Int))) * ((a2.map e_SIII).length : Int))))), (12, (.int .i64 e49))], ⟨2, [(1, .rw [(.int .i64 a3), (.int .i64 a4), (.int .i64 a5), (VS 3 (a6.map e_III))]), (0, .rw [(.int .i64 a0), (.int .i64 a1), (VS 4 (a2.map e_SIII))])], false⟩⟩) r53 ?_ ?_
              · refine pw_block ?_;refine pw_so ?_;refine po_all ?_;(conv=>whnf);refine pw_block ?_;refine pw_loop (τ := Int) (fun e => ⟨[(2, (VS 1 (a7.map e_L1I))), (3, (.pointer (some ⟨0, 0, none⟩))), (4, (.pointer (some ⟨1, 0, none⟩))), (8, (.int .i64 (IntKind.i64.wrap ((IntKind.i64.wrap ((IntKind.i64.wrap (a1 - a0)) + (1 : Int))) * ((a2.map e_SIII).length : Int))))), (12, (.int .i64 e49)), (13, (.int .i64 e))], ⟨2, [(1, .rw [(.int .i64 a3), (.int .i64 a4), (.int .i64 a5), (VS 3 (a6.map e_III))]), (0, .rw [(.int .i64 a0), (.int .i64 a1), (VS 4 (a2.map e_SIII))])], false⟩⟩) h54 ?_ (fun _ => Nat.le_of_ble_eq_true rfl) ?_
                · exact .sub' (Nat.le_of_ble_eq_true rfl) (.cons rfl (.cons rfl (.cons rfl (.cons rfl (.cons rfl (.cons rfl .nil))))))
                · intro e57 x58 h59;refine pw_seq ?_;refine pw_so ?_;refine po_all ?_;(conv=>whnf);refine pw_cond ?_;(conv=>whnf);refine pbr_oite h59 (fun g60 h59 => ?_) (fun g60 h59 => ?_)
                  · (conv=>whnf);refine pw_skip ?_;(conv=>whnf);obtain ⟨r61, h62, h63, h64⟩ := obndS_some h59;refine pw_joinS (ρ := Unit) (fun e => ⟨[(2, (VS 1 (a7.map e_L1I))), (3, (.pointer (some ⟨0, 0, none⟩))), (4, (.pointer (some ⟨1, 0, none⟩))), (8, (.int .i64 (IntKind.i64.wrap ((IntKind.i64.wrap ((IntKind.i64.wrap (a1 - a0)) + (1 : Int))) * ((a2.map e_SIII).length : Int))))), (12, (.int .i64 e49)), (13, (.int .i64 e57))], ⟨2, [(1, .rw [(.int .i64 a3), (.int .i64 a4), (.int .i64 a5), (VS 3 (a6.map e_III))]), (0, .rw [(.int .i64 a0), (.int .i64 a1), (VS 4 (a2.map e_SIII))])], false⟩⟩) r61 ?_ ?_
                    · refine pw_block ?_;refine pw_sd ?_;(conv=>whnf);refine pbr_ogrdn h62 (fun g65 h62 => ?_);(conv=>whnf);refine pbr_f g65 ?_;(conv=>whnf);refine pw_seq ?_;refine pw_so ?_;refine po_all ?_;(conv=>whnf);refine pw_cond ?_;(conv=>whnf);refine pbr_oite h62 (fun g66 h62 => ?_) (fun g66 h62 => ?_)
                      · (conv=>whnf);refine pw_seq ?_;refine pw_sd ?_;(conv=>whnf);refine pbr_ogrd h62 (fun g67 h62 => ?_);(conv=>whnf);refine nth_o (l := a7) h62 (fun x68 _ h62 => ?_);(conv=>whnf);refine pbr_ogrd h62 (fun g69 h62 => ?_);(conv=>whnf);refine nth_o (l := x68) h62 (fun x70 _ h62 => ?_);(conv=>whnf);refine pw_cond ?_;(conv=>whnf);refine pbr_oite h62 (fun g71 h62 => ?_) (fun g71 h62 => ?_)
                        · (conv=>whnf);refine pw_so ?_;refine po_all ?_;(conv=>whnf);refine pw_ret ?_;(conv=>whnf);cases h62;obtain rfl := h64 _ rfl;refine ⟨_, rfl, ?_⟩; rintro rfl;(conv=>whnf);obtain rfl := h56 _ rfl;refine ⟨_, rfl, ?_⟩; rintro rfl;(conv=>whnf);obtain rfl := h48 _ rfl; rfl
                        · (conv=>whnf);refine pw_skip ?_;(conv=>whnf);refine pw_exit ?_;(conv=>whnf);cases h62;exact ⟨_, rfl, ⟨(.cons rfl (.cons rfl (.cons rfl (.cons rfl (.cons rfl (.cons rfl .nil)))))), rfl⟩⟩
                      · (conv=>whnf);refine pw_skip ?_;(conv=>whnf);refine pw_so ?_;refine po_all ?_;(conv=>whnf);refine pw_block ?_;refine pw_loop (τ := Int) (fun e => ⟨[(2, (VS 1 (a7.map e_L1I))), (3, (.pointer (some ⟨0, 0, none⟩))), (4, (.pointer (some ⟨1, 0, none⟩))), (8, (.int .i64 (IntKind.i64.wrap ((IntKind.i64.wrap ((IntKind.i64.wrap (a1 - a0)) + (1 : Int))) * ((a2.map e_SIII).length : Int))))), (12, (.int .i64 e49)), (13, (.int .i64 e57)), (14, (.int .i64 (IntKind.i64.wrap (a0 + (IntKind.i64.wrap (e57.tdiv ((a2.map e_SIII).length : Int))))))), (15, (.int .i64 (e57.tmod ((a2.map e_SIII).length : Int)))), (16, (.int .i64 e))], ⟨2, [(1, .rw [(.int .i64 a3), (.int .i64 a4), (.int .i64 a5), (VS 3 (a6.map e_III))]), (0, .rw [(.int .i64 a0), (.int .i64 a1), (VS 4 (a2.map e_SIII))])], false⟩⟩) h62 ?_ (fun _ => Nat.le_of_ble_eq_true rfl) ?_
                        · exact .sub' (Nat.le_of_ble_eq_true rfl) (.cons rfl (.cons rfl (.cons rfl (.cons rfl (.cons rfl (.cons rfl (.cons rfl (.cons rfl (.cons rfl .nil)))))))))
                        · intro e74 x75 h76;refine pw_seq ?_;refine pw_so ?_;refine po_all ?_;(conv=>whnf);refine pw_cond ?_;(conv=>whnf);refine pbr_oite h76 (fun g77 h76 => ?_) (fun g77 h76 => ?_)
                          · (conv=>whnf);refine pw_skip ?_;(conv=>whnf);refine pw_seq ?_;refine pw_block ?_;refine pw_sd ?_;(conv=>whnf);refine pbr_ogrd h76 (fun g78 h76 => ?_);(conv=>whnf);refine nth_o (l := a6) h76 (fun x79 _ h76 => ?_);(conv=>whnf);refine pbr_ogrd h76 (fun g80 h76 => ?_);(conv=>whnf);refine nth_o (l := a2) h76 (fun x81 _ h76 => ?_);(conv=>whnf);obtain ⟨r82, h83, h76⟩ := obnd_some h76;refine pw_join (ρ := Bool) (fun e => ⟨[(2, (VS 1 (a7.map e_L1I))), (3, (.pointer (some ⟨0, 0, none⟩))), (4, (.pointer (some ⟨1, 0, none⟩))), (8, (.int .i64 (IntKind.i64.wrap ((IntKind.i64.wrap ((IntKind.i64.wrap (a1 - a0)) + (1 : Int))) * ((a2.map e_SIII).length : Int))))), (12, (.int .i64 e49)), (13, (.int .i64 e57)), (14, (.int .i64 (IntKind.i64.wrap (a0 + (IntKind.i64.wrap (e57.tdiv ((a2.map e_SIII).length : Int))))))), (15, (.int .i64 (e57.tmod ((a2.map e_SIII).length : Int)))), (16, (.int .i64 e74)), (167, (.bool e))], ⟨2, [(1, .rw [(.int .i64 a3), (.int .i64 a4), (.int .i64 a5), (VS 3 (a6.map e_III))]), (0, .rw [(.int .i64 a0), (.int .i64 a1), (VS 4 (a2.map e_SIII))])], false⟩⟩) r82 ?_ ?_
                            · refine pw_draw ?_;(conv=>whnf);refine ⟨?_, trivial⟩;(conv=>whnf);obtain ⟨y86, h87, h83⟩ := obnd_some h83;refine (c15 h87).go ?_;(conv=>whnf);refine ⟨by repeat (first | exact trivial | refine And.intro rfl ?_), ?_⟩;(conv=>whnf);refine pbr_oite h83 (fun g88 h83 => ?_) (fun g88 h83 => ?_)
                              · (conv=>whnf);refine pbr_t g88 ?_;(conv=>whnf);refine pbr_t g88 ?_;(conv=>whnf);refine pbr_t g78 ?_;(conv=>whnf);refine nth_o (l := a7) h83 (fun x89 _ h83 => ?_);(conv=>whnf);refine pbr_t g88 ?_;(conv=>whnf);refine pbr_t g88 ?_;(conv=>whnf);refine pbr_t g88 ?_;(conv=>whnf);refine pbr_ogrd h83 (fun g90 h83 => ?_);(conv=>whnf);refine nth_o (l := x89) h83 (fun x91 _ h83 => ?_);(conv=>whnf);refine pbr_t g88 ?_;(conv=>whnf);refine pbr_t g88 ?_;(conv=>whnf);refine pbr_t g88 ?_;(conv=>whnf);refine pbr_t g88 ?_;(conv=>whnf);refine pbr_t g88 ?_;(conv=>whnf);refine pbr_t g88 ?_;(conv=>whnf);refine pbr_t g78 ?_
                                (conv=>whnf);refine nth_o (l := a6) h83 (fun x92 _ h83 => ?_);(conv=>whnf);refine pbr_t g88 ?_;(conv=>whnf);refine pbr_t g88 ?_;(conv=>whnf);refine pbr_t g88 ?_;(conv=>whnf);refine pbr_t g88 ?_;(conv=>whnf);refine pbr_t g88 ?_;(conv=>whnf);refine pbr_t g88 ?_;(conv=>whnf);refine pbr_t g88 ?_;(conv=>whnf);refine pbr_ogrd h83 (fun g93 h83 => ?_);(conv=>whnf);refine nth_o (l := a7) h83 (fun x94 _ h83 => ?_);(conv=>whnf);refine pbr_t g88 ?_;(conv=>whnf);refine pbr_t g88 ?_;(conv=>whnf);refine pbr_t g88 ?_;(conv=>whnf);refine pbr_t g88 ?_;(conv=>whnf);refine ⟨?_, trivial⟩;(conv=>whnf);refine pbr_t g88 ?_
                                (conv=>whnf);obtain ⟨y95, h96, h83⟩ := obnd_some h83;refine (c350 h96).go ?_;(conv=>whnf);refine ⟨by repeat (first | exact trivial | refine And.intro rfl ?_), ?_⟩;(conv=>whnf);refine ⟨?_, trivial⟩;(conv=>whnf);refine pbr_t g88 ?_;(conv=>whnf);obtain ⟨y97, h98, h83⟩ := obnd_some h83;refine (c349 h98).go ?_;(conv=>whnf);refine ⟨by repeat (first | exact trivial | refine And.intro rfl ?_), ?_⟩;(conv=>whnf);refine pbr_t g88 ?_;(conv=>whnf);refine pbr_ogrd h83 (fun g99 h83 => ?_);(conv=>whnf);refine nth_o (l := x94) h83 (fun x100 _ h83 => ?_);(conv=>whnf);refine pbr_t g88 ?_;(conv=>whnf);refine pbr_t g88 ?_
                                (conv=>whnf);refine pbr_t g88 ?_;(conv=>whnf);refine pbr_t g88 ?_;(conv=>whnf);cases h83;exact ⟨(.cons rfl (.cons rfl (.cons rfl (.cons rfl (.cons rfl (.cons rfl (.cons rfl (.cons rfl (.cons rfl (.cons rfl .nil)))))))))), rfl⟩
                              · (conv=>whnf);refine pbr_f g88 ?_;(conv=>whnf);refine pbr_f g88 ?_;(conv=>whnf);refine pbr_f g88 ?_;(conv=>whnf);refine pbr_f g88 ?_;(conv=>whnf);refine pbr_f g88 ?_;(conv=>whnf);refine pbr_f g88 ?_;(conv=>whnf);refine pbr_f g88 ?_;(conv=>whnf);refine pbr_f g88 ?_;(conv=>whnf);refine pbr_f g88 ?_;(conv=>whnf);refine pbr_f g88 ?_;(conv=>whnf);refine pbr_f g88 ?_;(conv=>whnf);refine pbr_f g88 ?_;(conv=>whnf);refine pbr_f g88 ?_;(conv=>whnf);refine pbr_f g88 ?_;(conv=>whnf);refine pbr_f g88 ?_;(conv=>whnf);refine pbr_f g88 ?_;(conv=>whnf);refine pbr_f g88 ?_;(conv=>whnf);refine pbr_f g88 ?_;(conv=>whnf)
                                refine pbr_f g88 ?_;(conv=>whnf);refine pbr_f g88 ?_;(conv=>whnf);refine pbr_f g88 ?_;(conv=>whnf);refine pbr_f g88 ?_;(conv=>whnf);refine ⟨?_, trivial⟩;(conv=>whnf);refine pbr_f g88 ?_;(conv=>whnf);refine ⟨?_, trivial⟩;(conv=>whnf);refine pbr_f g88 ?_;(conv=>whnf);refine pbr_f g88 ?_;(conv=>whnf);refine pbr_f g88 ?_;(conv=>whnf);refine pbr_f g88 ?_;(conv=>whnf);refine pbr_f g88 ?_;(conv=>whnf);refine pbr_f g88 ?_;(conv=>whnf);cases h83;exact ⟨(.cons rfl (.cons rfl (.cons rfl (.cons rfl (.cons rfl (.cons rfl (.cons rfl (.cons rfl (.cons rfl (.cons rfl .nil)))))))))), rfl⟩
                            · refine pw_cond ?_;(conv=>whnf);refine pbr_oite h76 (fun g101 h76 => ?_) (fun g101 h76 => ?_)
                              · (conv=>whnf);refine pw_so ?_;refine po_all ?_;(conv=>whnf);refine pw_ret ?_;(conv=>whnf);cases h76;refine ⟨_, rfl, ?_⟩; rintro rfl;(conv=>whnf);obtain rfl := h64 _ rfl;refine ⟨_, rfl, ?_⟩; rintro rfl;(conv=>whnf);obtain rfl := h56 _ rfl;refine ⟨_, rfl, ?_⟩; rintro rfl;(conv=>whnf);obtain rfl := h48 _ rfl; rfl
                              · (conv=>whnf);refine pw_skip ?_;(conv=>whnf);refine pw_ops ?_;refine po_all ?_;(conv=>whnf);cases h76;refine ⟨_, rfl, ?_⟩;exact .sub' (Nat.le_of_ble_eq_true rfl) (.cons rfl (.cons rfl (.cons rfl (.cons rfl (.cons rfl (.cons rfl (.cons rfl (.cons rfl (.cons rfl .nil)))))))))
                          · (conv=>whnf);refine pw_exit ?_;(conv=>whnf);cases h76;refine ⟨_, rfl, ?_⟩; rintro rfl;(conv=>whnf);exact ⟨_, rfl, ⟨(.cons rfl (.cons rfl (.cons rfl (.cons rfl (.cons rfl (.cons rfl .nil)))))), rfl⟩⟩
                    · intro r106 hr; have h59 := h63 _ hr;refine pw_ops ?_;refine po_all ?_;(conv=>whnf);cases h59;refine ⟨_, rfl, ?_⟩;exact .sub' (Nat.le_of_ble_eq_true rfl) (.cons rfl (.cons rfl (.cons rfl (.cons rfl (.cons rfl (.cons rfl .nil))))))
                  · (conv=>whnf);refine pw_exit ?_;(conv=>whnf);cases h59;refine ⟨_, rfl, ?_⟩; rintro rfl;(conv=>whnf);exact ⟨_, rfl, ⟨(.cons rfl (.cons rfl (.cons rfl (.cons rfl (.cons rfl .nil))))), rfl⟩⟩
              · intro r108 hr; have h51 := h55 _ hr;refine pw_ops ?_;refine po_all ?_;(conv=>whnf);cases h51;refine ⟨_, rfl, ?_⟩;exact .sub' (Nat.le_of_ble_eq_true rfl) (.cons rfl (.cons rfl (.cons rfl (.cons rfl (.cons rfl .nil)))))
            · (conv=>whnf);refine pw_exit ?_;(conv=>whnf);cases h51;refine ⟨_, rfl, ?_⟩; rintro rfl;(conv=>whnf);exact ⟨_, rfl, ⟨(.cons rfl (.cons rfl (.cons rfl .nil))), rfl⟩⟩
        · intro r110 hr; have H := h47 _ hr;refine pw_sd ?_;(conv=>whnf);refine nth_o (l := a7) H (fun x111 _ H => ?_);(conv=>whnf);refine ⟨?_, trivial⟩;(conv=>whnf);obtain ⟨y112, h113, H⟩ := obnd_some H;refine (c349 h113).go ?_;(conv=>whnf);refine ⟨by repeat (first | exact trivial | refine And.intro rfl ?_), ?_⟩;(conv=>whnf);refine pbr_ogrd H (fun g114 H => ?_);(conv=>whnf);refine nth_o (l := x111) H (fun x115 _ H => ?_);(conv=>whnf);refine pw_ret ?_;(conv=>whnf);cases H; rfl

/-- guidevane/guidevanelaw08.DispatchBounds -/
noncomputable def l303_1 [LO] (a7 : List ((List Int))) (e21 : Int) : Option ((Int) ⊕ ((Unit) ⊕ Bool)) :=
  oite ((ilt e21 ((a7.map e_L1I).length : Int))) (
   ogrd ((ile 0 e21)) (
   obnd (a7[e21.toNat]?) fun (x26 : (List Int)) =>
   oite ((ilt (210 : Int) ((x26.map eI).length : Int))) (
    some (.inr (.inr (true)))
     ) (
    some (.inl (IntKind.i64.wrap (e21 + (1 : Int))))
     )
   )
    ) (
   some (.inr (.inl ()))
    )
noncomputable def f303 [LO]  (a0 : Int) (a1 : Int) (a2 : List (ByteArray × Int × Int × Int)) (a3 : Int) (a4 : Int) (a5 : Int) (a6 : List (Int × Int × Int)) (a7 : List ((List Int))) : Option Bool :=
  obnd (f198) fun (y1 : Bool) =>
  oite (!y1) (
   some false
    ) (
   obnd (
    obnd (f307 a0 a1 a2) fun (y8 : Bool) =>
    obnd (
     oite (!y8) (
      some true
       ) (
      obnd (f308 a3 a4 a5 a6) fun (y13 : Bool) =>
      some (!y13)
       )
      ) fun (r10 : Bool) =>
    oite r10 (
     some true
      ) (
     some (ilt (13 : Int) ((a7.map e_L1I).length : Int))
      )
     ) fun (r4 : Bool) =>
   oite r4 (
    some true
     ) (
    obndS (
     oloop (τ := Int) (ρ := (Unit) ⊕ Bool) (l303_1 a7) (0 : Int)
      ) fun (_ : Unit) =>
    obnd (f309 a0 a1 a2) fun (y31 : Int × Int × (List (ByteArray × Int × Int × Int))) =>
    obnd (f310 a3 a4 a5 a6) fun (y33 : Int × Int × Int × (List (Int × Int × Int))) =>
    obnd (f332 a7) fun (y35 : (List ((List Int)))) =>
    obnd (f331 y31.1 y31.2.1 y31.2.2 y33.1 y33.2.1 y33.2.2.1 y33.2.2.2 y35) fun (y37 : Int × Int) =>
    obnd (f311 a0 a1 a2 a3 a4 a5 a6) fun (y39 : Int) =>
    oite ((!(ieq y39 (0 : Int)))) (
     obnd (
      oite ((ieq y37.2 y39)) (
       some (ieq y37.1 (0 : Int))
        ) (
       some false
        )
       ) fun (r42 : Bool) =>
     some r42
      ) (
     obnd (f333 a0 a1 a2 a3 a4 a5 a6 a7) fun (y45 : Int × Int) =>
     obnd (
      oite ((ieq y37.2 y45.2)) (
       some (ieq y37.1 y45.1)
        ) (
       some false
        )
       ) fun (r47 : Bool) =>
     some r47
      )
     )
    )
set_option maxHeartbeats 1000000 in
theorem c303 [LO]  {a0 : Int} {a1 : Int} {a2 : List (ByteArray × Int × Int × Int)} {a3 : Int} {a4 : Int} {a5 : Int} {a6 : List (Int × Int × Int)} {a7 : List ((List Int))} {x : Bool} (H : f303 a0 a1 a2 a3 a4 a5 a6 a7 = some x) : ICalls E 303 [(.agg ⟨[(.int .i64 a0), (.int .i64 a1), (VS 4 (a2.map e_SIII))]⟩), (.agg ⟨[(.int .i64 a3), (.int .i64 a4), (.int .i64 a5), (VS 3 (a6.map e_III))]⟩), (VS 1 (a7.map e_L1I))] AHeap.none fun v _ => v = (.bool x) := by
  refine icalls_fn (pfnw ?_); unfold f303 at H;(conv=>whnf);refine pw_so ?_;refine po_all ?_;(conv=>whnf);refine pw_seq ?_;refine pw_so ?_;refine po_all ?_;(conv=>whnf);obtain ⟨y1, h2, H⟩ := obnd_some H;refine (c198 h2).go ?_;(conv=>whnf);refine pw_cond ?_;(conv=>whnf);refine pbr_oite H (fun g3 H => ?_) (fun g3 H => ?_)
  · (conv=>whnf);refine pw_so ?_;refine po_all ?_;(conv=>whnf);refine pw_ret ?_;(conv=>whnf);cases H; rfl
  · (conv=>whnf);refine pw_skip ?_;(conv=>whnf);refine pw_seq ?_;obtain ⟨r4, h5, H⟩ := obnd_some H;refine pw_join (ρ := Bool) (fun e => ⟨[(2, (VS 1 (a7.map e_L1I))), (3, (.pointer (some ⟨0, 0, none⟩))), (4, (.pointer (some ⟨1, 0, none⟩))), (27, (.bool e))], ⟨2, [(1, .rw [(.int .i64 a3), (.int .i64 a4), (.int .i64 a5), (VS 3 (a6.map e_III))]), (0, .rw [(.int .i64 a0), (.int .i64 a1), (VS 4 (a2.map e_SIII))])], false⟩⟩) r4 ?_ ?_
    · refine pw_ops ?_;refine po_ops 4 ?_;(conv=>whnf);obtain ⟨y8, h9, h5⟩ := obnd_some h5;refine (c307 h9).go ?_;(conv=>whnf);obtain ⟨r10, h11, h5⟩ := obnd_some h5;refine po_seg (τ := Bool) 4 (fun e => ⟨[(2, (VS 1 (a7.map e_L1I))), (3, (.pointer (some ⟨0, 0, none⟩))), (4, (.pointer (some ⟨1, 0, none⟩))), (22, (.bool e))], ⟨2, [(1, .rw [(.int .i64 a3), (.int .i64 a4), (.int .i64 a5), (VS 3 (a6.map e_III))]), (0, .rw [(.int .i64 a0), (.int .i64 a1), (VS 4 (a2.map e_SIII))])], false⟩⟩) r10 ?_ ?_
      · refine po_all ?_;(conv=>whnf);refine pbr_oite h11 (fun g12 h11 => ?_) (fun g12 h11 => ?_)
        · (conv=>whnf);refine pbr_t g12 ?_;(conv=>whnf);refine pbr_t g12 ?_;(conv=>whnf);refine pbr_t g12 ?_;(conv=>whnf);cases h11;exact ⟨(.cons rfl (.cons rfl (.cons rfl (.cons rfl .nil)))), rfl⟩
        · (conv=>whnf);refine pbr_f g12 ?_;(conv=>whnf);obtain ⟨y13, h14, h11⟩ := obnd_some h11;refine (c308 h14).go ?_;(conv=>whnf);refine pbr_f g12 ?_;(conv=>whnf);refine pbr_f g12 ?_;(conv=>whnf);cases h11;exact ⟨(.cons rfl (.cons rfl (.cons rfl (.cons rfl .nil)))), rfl⟩
      · refine po_all ?_;(conv=>whnf);refine pbr_oite h5 (fun g15 h5 => ?_) (fun g15 h5 => ?_)
        · (conv=>whnf);refine pbr_t g15 ?_;(conv=>whnf);refine pbr_t g15 ?_;(conv=>whnf);refine pbr_t g15 ?_;(conv=>whnf);cases h5;exact ⟨(.cons rfl (.cons rfl (.cons rfl (.cons rfl .nil)))), rfl⟩
        · (conv=>whnf);refine pbr_f g15 ?_;(conv=>whnf);refine pbr_f g15 ?_;(conv=>whnf);refine pbr_f g15 ?_;(conv=>whnf);cases h5;exact ⟨(.cons rfl (.cons rfl (.cons rfl (.cons rfl .nil)))), rfl⟩
    · refine pw_cond ?_;(conv=>whnf);refine pbr_oite H (fun g16 H => ?_) (fun g16 H => ?_)
      · (conv=>whnf);refine pw_so ?_;refine po_all ?_;(conv=>whnf);refine pw_ret ?_;(conv=>whnf);cases H; rfl
      · (conv=>whnf);refine pw_skip ?_;(conv=>whnf);obtain ⟨r17, h18, h19, h20⟩ := obndS_some H;refine pw_joinS (ρ := Unit) (fun e => ⟨[(2, (VS 1 (a7.map e_L1I))), (3, (.pointer (some ⟨0, 0, none⟩))), (4, (.pointer (some ⟨1, 0, none⟩)))], ⟨2, [(1, .rw [(.int .i64 a3), (.int .i64 a4), (.int .i64 a5), (VS 3 (a6.map e_III))]), (0, .rw [(.int .i64 a0), (.int .i64 a1), (VS 4 (a2.map e_SIII))])], false⟩⟩) r17 ?_ ?_
        · refine pw_so ?_;refine po_all ?_;(conv=>whnf);refine pw_block ?_;refine pw_loop (τ := Int) (fun e => ⟨[(2, (VS 1 (a7.map e_L1I))), (3, (.pointer (some ⟨0, 0, none⟩))), (4, (.pointer (some ⟨1, 0, none⟩))), (7, (.int .i64 e))], ⟨2, [(1, .rw [(.int .i64 a3), (.int .i64 a4), (.int .i64 a5), (VS 3 (a6.map e_III))]), (0, .rw [(.int .i64 a0), (.int .i64 a1), (VS 4 (a2.map e_SIII))])], false⟩⟩) h18 ?_ (fun _ => Nat.le_of_ble_eq_true rfl) ?_
          · exact .sub' (Nat.le_of_ble_eq_true rfl) (.cons rfl (.cons rfl (.cons rfl (.cons rfl .nil))))
          · intro e21 x22 h23; unfold l303_1 at h23;refine pw_seq ?_;refine pw_so ?_;refine po_all ?_;(conv=>whnf);refine pw_cond ?_;(conv=>whnf);refine pbr_oite h23 (fun g24 h23 => ?_) (fun g24 h23 => ?_)
            · (conv=>whnf);refine pw_skip ?_;(conv=>whnf);refine pw_seq ?_;refine pw_block ?_;refine pw_so ?_;refine po_all ?_;(conv=>whnf);refine pbr_ogrd h23 (fun g25 h23 => ?_);(conv=>whnf);refine nth_o (l := a7) h23 (fun x26 _ h23 => ?_);(conv=>whnf);refine pw_cond ?_;(conv=>whnf);refine pbr_oite h23 (fun g27 h23 => ?_) (fun g27 h23 => ?_)
              · (conv=>whnf);refine pw_so ?_;refine po_all ?_;(conv=>whnf);refine pw_ret ?_;(conv=>whnf);cases h23;refine ⟨_, rfl, ?_⟩; rintro rfl;(conv=>whnf);obtain rfl := h20 _ rfl; rfl
              · (conv=>whnf);refine pw_skip ?_;(conv=>whnf);refine pw_ops ?_;refine po_all ?_;(conv=>whnf);cases h23;refine ⟨_, rfl, ?_⟩;exact .sub' (Nat.le_of_ble_eq_true rfl) (.cons rfl (.cons rfl (.cons rfl (.cons rfl .nil))))
            · (conv=>whnf);refine pw_exit ?_;(conv=>whnf);cases h23;refine ⟨_, rfl, ?_⟩; rintro rfl;(conv=>whnf);exact ⟨_, rfl, ⟨(.cons rfl (.cons rfl (.cons rfl .nil))), rfl⟩⟩
        · intro r30 hr; have H := h19 _ hr;refine pw_sd ?_;(conv=>whnf);refine ⟨?_, trivial⟩;(conv=>whnf);obtain ⟨y31, h32, H⟩ := obnd_some H;refine (c309 h32).go ?_;(conv=>whnf);refine ⟨by repeat (first | exact trivial | refine And.intro rfl ?_), ?_⟩;(conv=>whnf);refine ⟨?_, trivial⟩;(conv=>whnf);obtain ⟨y33, h34, H⟩ := obnd_some H;refine (c310 h34).go ?_;(conv=>whnf);refine ⟨by repeat (first | exact trivial | refine And.intro rfl ?_), ?_⟩;(conv=>whnf);refine ⟨?_, trivial⟩;(conv=>whnf);obtain ⟨y35, h36, H⟩ := obnd_some H;refine (c332 h36).go ?_;(conv=>whnf);refine ⟨by repeat (first | exact trivial | refine And.intro rfl ?_), ?_⟩
          (conv=>whnf);refine ⟨?_, trivial⟩;(conv=>whnf);obtain ⟨y37, h38, H⟩ := obnd_some H;refine (c331 h38).go ?_;(conv=>whnf);refine ⟨by repeat (first | exact trivial | refine And.intro rfl ?_), ?_⟩;(conv=>whnf);refine pw_seq ?_;refine pw_so ?_;refine po_all ?_;(conv=>whnf);obtain ⟨y39, h40, H⟩ := obnd_some H;refine (c311 h40).go ?_;(conv=>whnf);refine pw_so ?_;refine po_all ?_;(conv=>whnf);refine pw_cond ?_;(conv=>whnf);refine pbr_oite H (fun g41 H => ?_) (fun g41 H => ?_)
          · (conv=>whnf);refine pw_so ?_;refine po_ops 4 ?_;(conv=>whnf);obtain ⟨r42, h43, H⟩ := obnd_some H;refine po_seg (τ := Bool) 3 (fun e => ⟨[(61, (.bool e))], ⟨2, [(1, .rw [(.int .i64 a3), (.int .i64 a4), (.int .i64 a5), (VS 3 (a6.map e_III))]), (0, .rw [(.int .i64 a0), (.int .i64 a1), (VS 4 (a2.map e_SIII))])], false⟩⟩) r42 ?_ ?_
            · refine po_all ?_;(conv=>whnf);refine pbr_oite h43 (fun g44 h43 => ?_) (fun g44 h43 => ?_)
              · (conv=>whnf);refine pbr_t g44 ?_;(conv=>whnf);refine pbr_t g44 ?_;(conv=>whnf);cases h43;exact ⟨(.cons rfl .nil), rfl⟩
              · (conv=>whnf);refine pbr_f g44 ?_;(conv=>whnf);refine pbr_f g44 ?_;(conv=>whnf);cases h43;exact ⟨(.cons rfl .nil), rfl⟩
            · refine po_all ?_;(conv=>whnf);refine pw_ret ?_;(conv=>whnf);cases H; rfl
          · (conv=>whnf);refine pw_skip ?_;(conv=>whnf);refine pw_so ?_;refine po_all ?_;(conv=>whnf);obtain ⟨y45, h46, H⟩ := obnd_some H;refine (c333 h46).go ?_;(conv=>whnf);refine pw_so ?_;refine po_ops 4 ?_;(conv=>whnf);obtain ⟨r47, h48, H⟩ := obnd_some H;refine po_seg (τ := Bool) 4 (fun e => ⟨[(76, (.bool e))], ⟨2, [(1, .rw [(.int .i64 a3), (.int .i64 a4), (.int .i64 a5), (VS 3 (a6.map e_III))]), (0, .rw [(.int .i64 a0), (.int .i64 a1), (VS 4 (a2.map e_SIII))])], false⟩⟩) r47 ?_ ?_
            · refine po_all ?_;(conv=>whnf);refine pbr_oite h48 (fun g49 h48 => ?_) (fun g49 h48 => ?_)
              · (conv=>whnf);refine pbr_t g49 ?_;(conv=>whnf);refine pbr_t g49 ?_;(conv=>whnf);refine pbr_t g49 ?_;(conv=>whnf);cases h48;exact ⟨(.cons rfl .nil), rfl⟩
              · (conv=>whnf);refine pbr_f g49 ?_;(conv=>whnf);refine pbr_f g49 ?_;(conv=>whnf);refine pbr_f g49 ?_;(conv=>whnf);cases h48;exact ⟨(.cons rfl .nil), rfl⟩
            · refine po_all ?_;(conv=>whnf);refine pw_ret ?_;(conv=>whnf);cases H; rfl

end Go.Proofs.YtmbekcealcjabaaGreat.AM
