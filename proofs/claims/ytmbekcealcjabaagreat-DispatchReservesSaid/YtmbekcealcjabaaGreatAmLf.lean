/- Computations of functions, and that the functions do them (printed by tools/lift.py). Conditions: none. -/
import Derived.Test.YtmbekcealcjabaaGreatAmMan
namespace Go.Proofs.YtmbekcealcjabaaGreat.AM
set_option linter.unusedSimpArgs false
set_option linter.unusedVariables false
open Go Go.RowKit
attribute [local irreducible] ICallV ICalls Recast rng

/-- guidevane/guidevanelaw08.Few -/
noncomputable def f307 [LO]  (_ : Int) (_ : Int) (a2 : List (ByteArray × Int × Int × Int)) : Option Bool :=
  oite ((ilt (7 : Int) ((a2.map e_SIII).length : Int))) (
   some false
    ) (
   obndS (
    oloop (τ := Int) (ρ := (Unit) ⊕ Bool) (fun e6 =>
     oite ((ilt e6 ((a2.map e_SIII).length : Int))) (
      ogrd ((ile 0 e6)) (
      obnd (a2[e6.toNat]?) fun (x11 : ByteArray × Int × Int × Int) =>
      oite ((ilt (20 : Int) (x11.1.size : Int))) (
       some (.inr (.inr (false)))
        ) (
       some (.inl (IntKind.i64.wrap (e6 + (1 : Int))))
        )
      )
       ) (
      some (.inr (.inl ()))
       )
      ) (0 : Int)
     ) fun (_ : Unit) =>
   some true
    )
set_option maxHeartbeats 1000000 in
theorem c307 [LO]  {a0 : Int} {a1 : Int} {a2 : List (ByteArray × Int × Int × Int)} {x : Bool} (H : f307 a0 a1 a2 = some x) : ICalls E 307 [(.agg ⟨[(.int .i64 a0), (.int .i64 a1), (VS 4 (a2.map e_SIII))]⟩)] AHeap.none fun v _ => v = (.bool x) := by
  refine icalls_fn (pfnw ?_); unfold f307 at H;(conv=>whnf);refine pw_so ?_;refine po_all ?_;(conv=>whnf);refine pw_seq ?_;refine pw_so ?_;refine po_all ?_;(conv=>whnf);refine pw_cond ?_;(conv=>whnf);refine pbr_oite H (fun g1 H => ?_) (fun g1 H => ?_)
  · (conv=>whnf);refine pw_so ?_;refine po_all ?_;(conv=>whnf);refine pw_ret ?_;(conv=>whnf);cases H; rfl
  · (conv=>whnf);refine pw_skip ?_;(conv=>whnf);obtain ⟨r2, h3, h4, h5⟩ := obndS_some H;refine pw_joinS (ρ := Unit) (fun e => ⟨[], ⟨1, [(0, .rw [(.int .i64 a0), (.int .i64 a1), (VS 4 (a2.map e_SIII))])], false⟩⟩) r2 ?_ ?_
    · refine pw_so ?_;refine po_all ?_;(conv=>whnf);refine pw_block ?_;refine pw_loop (τ := Int) (fun e => ⟨[(1, (.pointer (some ⟨0, 0, none⟩))), (3, (.int .i64 e))], ⟨1, [(0, .rw [(.int .i64 a0), (.int .i64 a1), (VS 4 (a2.map e_SIII))])], false⟩⟩) h3 ?_ (fun _ => Nat.le_of_ble_eq_true rfl) ?_
      · exact .sub' (Nat.le_of_ble_eq_true rfl) (.cons rfl (.cons rfl .nil))
      · intro e6 x7 h8;refine pw_seq ?_;refine pw_so ?_;refine po_all ?_;(conv=>whnf);refine pw_cond ?_;(conv=>whnf);refine pbr_oite h8 (fun g9 h8 => ?_) (fun g9 h8 => ?_)
        · (conv=>whnf);refine pw_skip ?_;(conv=>whnf);refine pw_seq ?_;refine pw_block ?_;refine pw_so ?_;refine po_all ?_;(conv=>whnf);refine pbr_ogrd h8 (fun g10 h8 => ?_);(conv=>whnf);refine nth_o (l := a2) h8 (fun x11 _ h8 => ?_);(conv=>whnf);refine pw_cond ?_;(conv=>whnf);refine pbr_oite h8 (fun g12 h8 => ?_) (fun g12 h8 => ?_)
          · (conv=>whnf);refine pw_so ?_;refine po_all ?_;(conv=>whnf);refine pw_ret ?_;(conv=>whnf);cases h8;refine ⟨_, rfl, ?_⟩; rintro rfl;(conv=>whnf);obtain rfl := h5 _ rfl; rfl
          · (conv=>whnf);refine pw_skip ?_;(conv=>whnf);refine pw_ops ?_;refine po_all ?_;(conv=>whnf);cases h8;refine ⟨_, rfl, ?_⟩;exact .sub' (Nat.le_of_ble_eq_true rfl) (.cons rfl (.cons rfl .nil))
        · (conv=>whnf);refine pw_exit ?_;(conv=>whnf);cases h8;refine ⟨_, rfl, ?_⟩; rintro rfl;(conv=>whnf);exact ⟨_, rfl, ⟨.nil, rfl⟩⟩
    · intro r15 hr; have H := h4 _ hr;refine pw_so ?_;refine po_all ?_;(conv=>whnf);refine pw_ret ?_;(conv=>whnf);cases H; rfl

/-- guidevane/guidevanelaw08.Short -/
noncomputable def f308  (_ : Int) (_ : Int) (_ : Int) (a3 : List (Int × Int × Int)) : Option Bool :=
  some (ile ((a3.map e_III).length : Int) (12 : Int))
set_option maxHeartbeats 1000000 in
theorem c308  {a0 : Int} {a1 : Int} {a2 : Int} {a3 : List (Int × Int × Int)} {x : Bool} (H : f308 a0 a1 a2 a3 = some x) : ICalls E 308 [(.agg ⟨[(.int .i64 a0), (.int .i64 a1), (.int .i64 a2), (VS 3 (a3.map e_III))]⟩)] AHeap.none fun v _ => v = (.bool x) := by
  refine icalls_fn (pfnw ?_); unfold f308 at H;(conv=>whnf);refine pw_so ?_;refine po_all ?_;(conv=>whnf);refine pw_so ?_;refine po_all ?_;(conv=>whnf);refine pw_ret ?_;(conv=>whnf);cases H; rfl

/-- guidevane/guidevaneref08.CopyPlant -/
noncomputable def f309  (a0 : Int) (a1 : Int) (a2 : List (ByteArray × Int × Int × Int)) : Option (Int × Int × (List (ByteArray × Int × Int × Int))) :=
  ogrd (fits 40 (([] : List (ByteArray × Int × Int × Int)).length + a2.length)) (
  some (a0, a1, (([] : List (ByteArray × Int × Int × Int)) ++ a2))
  )
set_option maxHeartbeats 1000000 in
theorem c309  {a0 : Int} {a1 : Int} {a2 : List (ByteArray × Int × Int × Int)} {x : Int × Int × (List (ByteArray × Int × Int × Int))} (H : f309 a0 a1 a2 = some x) : ICalls E 309 [(.agg ⟨[(.int .i64 a0), (.int .i64 a1), (VS 4 (a2.map e_SIII))]⟩)] AHeap.none fun v _ => v = (.agg ⟨[(.int .i64 x.1), (.int .i64 x.2.1), (VS 4 (x.2.2.map e_SIII))]⟩) := by
  refine ICalls.frz ?_;refine icalls_fn (pfnw ?_); unfold f309 at H;(conv=>whnf);refine pw_so ?_;refine po_all ?_;(conv=>whnf);refine pw_so ?_;refine po_all ?_;(conv=>whnf);refine app_o (l := ([] : List (ByteArray × Int × Int × Int))) (m := a2) (f := e_SIII) H (by rfl) (by rfl) (by rfl) (fun H => ?_);(conv=>whnf);refine pw_so ?_;refine po_all ?_;(conv=>whnf);refine pw_ret ?_;(conv=>whnf);cases H; show ∃ D, Fz _ D 0 (.agg ⟨[(.int .i64 a0), (.int .i64 a1), (VT 4 _ 2)]⟩) _;exact ⟨fun _ => false, .aggl (.cons .cl (.cons .cl (.cons .vtc (.nil))))⟩

/-- guidevane/guidevaneref08.CopyTask -/
noncomputable def f310  (a0 : Int) (a1 : Int) (a2 : Int) (a3 : List (Int × Int × Int)) : Option (Int × Int × Int × (List (Int × Int × Int))) :=
  ogrd (fits 24 (([] : List (Int × Int × Int)).length + a3.length)) (
  some (a0, a1, a2, (([] : List (Int × Int × Int)) ++ a3))
  )
set_option maxHeartbeats 1000000 in
theorem c310  {a0 : Int} {a1 : Int} {a2 : Int} {a3 : List (Int × Int × Int)} {x : Int × Int × Int × (List (Int × Int × Int))} (H : f310 a0 a1 a2 a3 = some x) : ICalls E 310 [(.agg ⟨[(.int .i64 a0), (.int .i64 a1), (.int .i64 a2), (VS 3 (a3.map e_III))]⟩)] AHeap.none fun v _ => v = (.agg ⟨[(.int .i64 x.1), (.int .i64 x.2.1), (.int .i64 x.2.2.1), (VS 3 (x.2.2.2.map e_III))]⟩) := by
  refine ICalls.frz ?_;refine icalls_fn (pfnw ?_); unfold f310 at H;(conv=>whnf);refine pw_so ?_;refine po_all ?_;(conv=>whnf);refine pw_so ?_;refine po_all ?_;(conv=>whnf);refine app_o (l := ([] : List (Int × Int × Int))) (m := a3) (f := e_III) H (by rfl) (by rfl) (by rfl) (fun H => ?_);(conv=>whnf);refine pw_so ?_;refine po_all ?_;(conv=>whnf);refine pw_ret ?_;(conv=>whnf);cases H; show ∃ D, Fz _ D 0 (.agg ⟨[(.int .i64 a0), (.int .i64 a1), (.int .i64 a2), (VT 3 _ 2)]⟩) _;exact ⟨fun _ => false, .aggl (.cons .cl (.cons .cl (.cons .cl (.cons .vtc (.nil)))))⟩

/-- guidevane/guidevanebase.CopyInts -/
noncomputable def f38  (a0 : List Int) : Option ((List Int)) :=
  ogrd (fits 8 (([] : List Int).length + a0.length)) (
  some (([] : List Int) ++ a0)
  )
set_option maxHeartbeats 1000000 in
theorem c38  {a0 : List Int} {x : (List Int)} (H : f38 a0 = some x) : ICalls E 38 [(VS 1 (a0.map eI))] AHeap.none fun v _ => v = (VS 1 (x.map eI)) := by
  refine ICalls.frz ?_;refine icalls_fn (pfnw ?_); unfold f38 at H;(conv=>whnf);refine pw_so ?_;refine po_all ?_;(conv=>whnf);refine pw_so ?_;refine po_all ?_;(conv=>whnf);refine app_o (l := ([] : List Int)) (m := a0) (f := eI) H (by rfl) (by rfl) (by rfl) (fun H => ?_);(conv=>whnf);refine pw_ret ?_;(conv=>whnf);cases H; show ∃ D, Fz _ D 0 (VT 1 _ 0) _;exact ⟨fun _ => false, .vtc⟩

/-- guidevane/dispatch.VolumesOf -/
noncomputable def f322  (a0 : Int) (a1 : Int) (a2 : List (ByteArray × Int × Int × Int)) (a3 : Int) (a4 : Int) (a5 : Int) (a6 : List (Int × Int × Int)) (a7 : List Int) : Option ((List Int) × Int) :=
  obnd (f221 a0 a1 a2 a3 a4 a5 a6 a7) fun (y1 : Int × Int × (List (ByteArray × Int × Int × Int)) × Int × Int × Int × (List (Int × Int × Int)) × (List Int) × Int) =>
  some (y1.2.2.2.2.2.2.2.1, y1.2.2.2.2.2.2.2.2)
set_option maxHeartbeats 1000000 in
theorem c322  {a0 : Int} {a1 : Int} {a2 : List (ByteArray × Int × Int × Int)} {a3 : Int} {a4 : Int} {a5 : Int} {a6 : List (Int × Int × Int)} {a7 : List Int} {x : (List Int) × Int} (H : f322 a0 a1 a2 a3 a4 a5 a6 a7 = some x) : ICalls E 322 [(.agg ⟨[(.int .i64 a0), (.int .i64 a1), (VS 4 (a2.map e_SIII))]⟩), (.agg ⟨[(.int .i64 a3), (.int .i64 a4), (.int .i64 a5), (VS 3 (a6.map e_III))]⟩), (VS 1 (a7.map eI))] AHeap.none fun v _ => v = (.tuple ⟨[(VS 1 (x.1.map eI)), (.int .i64 x.2)]⟩) := by
  refine ICalls.frz ?_;refine icalls_fn (pfnw ?_); unfold f322 at H;(conv=>whnf);refine pw_so ?_;refine po_all ?_;(conv=>whnf);refine pw_so ?_;refine po_all ?_;(conv=>whnf);obtain ⟨y1, h2, H⟩ := obnd_some H;refine (c221 h2).go ?_;(conv=>whnf);refine pw_so ?_;refine po_all ?_;(conv=>whnf);refine pw_ret ?_;(conv=>whnf);cases H; show ∃ D, Fz _ D 0 (.tuple ⟨[(VS 1 _), (.int .i64 y1.2.2.2.2.2.2.2.2)]⟩) _;exact ⟨fun _ => false, .tuplel (.cons .cl (.cons .cl (.nil)))⟩

/-- (guidevane/dispatch.work).value -/
noncomputable def f352 [LO]  (a0 : Int) (a1 : Int) (a2 : List (ByteArray × Int × Int × Int)) (a3 : Int) (a4 : Int) (a5 : Int) (a6 : List (Int × Int × Int)) (a7 : List Int) (a8 : List Int) : Option Int :=
  ogrd ((ile 0 (IntKind.i64.wrap (((a8.map eI).length : Int) - (1 : Int))))) (
  obnd (a8[(IntKind.i64.wrap (((a8.map eI).length : Int) - (1 : Int))).toNat]?) fun (x2 : Int) =>
  obnd (
   oloop (τ := Int × Int × Int) (ρ := Int) (fun e7 =>
    oite ((ilt e7.2.1 ((a7.map eI).length : Int))) (
     ogrd ((ile 0 e7.2.1)) (
     obnd (a7[e7.2.1.toNat]?) fun (x12 : Int) =>
     obnd (f239 a0 a1 a2 a3 a4 a5 a6 e7.2.1 e7.1 x12) fun (y13 : Int) =>
     some (.inl ((x12, (IntKind.i64.wrap (e7.2.1 + (1 : Int))), (IntKind.i64.wrap (e7.2.2 + y13)))))
     )
      ) (
     some (.inr (e7.2.2))
      )
     ) ((a4, (0 : Int), (IntKind.i64.wrap (a5 * x2))))
    ) fun (r3 : Int) =>
  some r3
  )
set_option maxHeartbeats 1000000 in
theorem c352 [LO]  {a0 : Int} {a1 : Int} {a2 : List (ByteArray × Int × Int × Int)} {a3 : Int} {a4 : Int} {a5 : Int} {a6 : List (Int × Int × Int)} {a7 : List Int} {a8 : List Int} {x : Int} (H : f352 a0 a1 a2 a3 a4 a5 a6 a7 a8 = some x) : ICalls E 352 [(.agg ⟨[(.int .i64 a0), (.int .i64 a1), (VS 4 (a2.map e_SIII)), (.int .i64 a3), (.int .i64 a4), (.int .i64 a5), (VS 3 (a6.map e_III))]⟩), (VS 1 (a7.map eI)), (VS 1 (a8.map eI))] AHeap.none fun v _ => v = (.int .i64 x) := by
  refine icalls_fn (pfnw ?_); unfold f352 at H;(conv=>whnf);refine pw_so ?_;refine po_all ?_;(conv=>whnf);refine pw_sd ?_;(conv=>whnf);refine pbr_ogrd H (fun g1 H => ?_);(conv=>whnf);refine nth_o (l := a8) H (fun x2 _ H => ?_);(conv=>whnf);refine ⟨?_, trivial⟩;(conv=>whnf);refine ⟨by repeat (first | exact trivial | refine And.intro rfl ?_), ?_⟩;(conv=>whnf);refine ⟨?_, trivial⟩;(conv=>whnf);refine ⟨by repeat (first | exact trivial | refine And.intro rfl ?_), ?_⟩;(conv=>whnf);obtain ⟨r3, h4, H⟩ := obnd_some H;refine pw_join (ρ := Int) (fun e => ⟨[(7, (.pointer (some ⟨1, 0, none⟩)))], ⟨5, [(4, .dead), (3, .rw [(VS 1 (a7.map eI))]), (2, .rw [(.int .i64 a0), (.int .i64 a1), (VS 4 (a2.map e_SIII)), (.int .i64 a3), (.int .i64 a4), (.int .i64 a5), (VS 3 (a6.map e_III))]), (1, .rw [(.int .i64 e)]), (0, .rw [(.int .i64 a0), (.int .i64 a1), (VS 4 (a2.map e_SIII)), (.int .i64 a3), (.int .i64 a4), (.int .i64 a5), (VS 3 (a6.map e_III))])], false⟩⟩) r3 ?_ ?_
  · refine pw_so ?_;refine po_all ?_;(conv=>whnf);refine pcalls_in ?_;(conv=>whnf);refine pw_so ?_;refine po_all ?_;(conv=>whnf);refine pw_so ?_;refine po_all ?_;(conv=>whnf);refine pw_ret ?_;(conv=>whnf);refine pw_block ?_;refine pw_range [3, 7, 22] ?_;(conv=>whnf);refine pcallv_in ?_;(conv=>whnf);refine pw_so ?_;refine po_all ?_;(conv=>whnf);refine pw_so ?_;refine po_all ?_;(conv=>whnf);refine pw_block ?_;refine pw_loop (τ := Int × Int × Int) (fun e => ⟨[(0, (.func (.yield 4) #[] #[])), (4, (.int .i64 e.1)), (10, (VS 1 (a7.map eI))), (11, (.int .i64 ((a7.map eI).length : Int))), (12, (.int .i64 e.2.1))], ⟨5, [(4, .loop ⟨.ready, none, [(3, (.pointer (some ⟨0, 0, none⟩))), (7, (.pointer (some ⟨1, 0, none⟩))), (22, (.func (.func (E.id 367)) ⟨[]⟩ ⟨[(.pointer (some ⟨2, 0, none⟩)), (.pointer (some ⟨3, 0, none⟩))]⟩))], 35, #[23, 24], (rng 92 0).1, (rng 92 0).2⟩), (3, .rw [(VS 1 (a7.map eI))]), (2, .rw [(.int .i64 a0), (.int .i64 a1), (VS 4 (a2.map e_SIII)), (.int .i64 a3), (.int .i64 a4), (.int .i64 a5), (VS 3 (a6.map e_III))]), (1, .rw [(.int .i64 e.2.2)]), (0, .rw [(.int .i64 a0), (.int .i64 a1), (VS 4 (a2.map e_SIII)), (.int .i64 a3), (.int .i64 a4), (.int .i64 a5), (VS 3 (a6.map e_III))])], false⟩⟩) h4 ?_ (fun _ => Nat.le_of_ble_eq_true rfl) ?_
    · exact .sub' (Nat.le_of_ble_eq_true rfl) (.cons rfl (.cons rfl (.cons rfl (.cons rfl (.cons rfl .nil)))))
    · intro e7 x8 h9;refine pw_so ?_;refine po_all ?_;(conv=>whnf);refine pw_seq ?_;refine pw_cond ?_;(conv=>whnf);refine pbr_oite h9 (fun g10 h9 => ?_) (fun g10 h9 => ?_)
      · (conv=>whnf);refine pw_skip ?_;(conv=>whnf);refine pw_seq ?_;refine pw_block ?_;refine pw_so ?_;refine po_all ?_;(conv=>whnf);refine pbr_ogrd h9 (fun g11 h9 => ?_);(conv=>whnf);refine nth_o (l := a7) h9 (fun x12 _ h9 => ?_);(conv=>whnf);refine pw_seq ?_;refine pw_so ?_;refine po_all ?_;(conv=>whnf);refine pcallv_yield ir352a0 ir352b0 rfl rfl ra352_0 rb352_0 ⟨_, _, _, _, rfl⟩ ?_;(conv=>whnf);refine pw_so ?_;refine po_all ?_;(conv=>whnf);refine pw_ops ?_;refine po_all ?_;(conv=>whnf);refine pw_block ?_;refine pw_draw ?_;(conv=>whnf);refine ⟨?_, trivial⟩;(conv=>whnf);obtain ⟨y13, h14, h9⟩ := obnd_some h9
        refine (c239 h14).go ?_;(conv=>whnf);refine ⟨by repeat (first | exact trivial | refine And.intro rfl ?_), ?_⟩;(conv=>whnf);refine ⟨?_, trivial⟩;(conv=>whnf);refine ⟨by repeat (first | exact trivial | refine And.intro rfl ?_), ?_⟩;(conv=>whnf);refine pw_cond ?_;(conv=>whnf);refine pw_skip ?_;(conv=>whnf);refine pw_ops ?_;refine po_all ?_;(conv=>whnf);refine pw_ops ?_;refine po_all ?_;(conv=>whnf);cases h9;refine ⟨_, rfl, ?_⟩;exact Recast.fz (fun _ => false) (Nat.le_of_ble_eq_true rfl) (.cons (.same rfl rfl (OBnd.loop (Nat.le_of_ble_eq_true rfl) (.cons (.ptr (Nat.le_of_ble_eq_true rfl)) (.cons (.ptr (Nat.le_of_ble_eq_true rfl)) (.cons (.funcl .nil (.cons (.ptr (Nat.le_of_ble_eq_true rfl)) (.cons (.ptr (Nat.le_of_ble_eq_true rfl)) .nil))) .nil))))) (.cons (.same rfl rfl (OBnd.rwl (Nat.le_of_ble_eq_true rfl) rfl (.cons .cl .nil))) (.cons (.same rfl rfl (OBnd.rwl (Nat.le_of_ble_eq_true rfl) rfl (.cons .cl (.cons .cl (.cons .cl (.cons .cl (.cons .cl (.cons .cl (.cons .cl .nil))))))))) (.cons (.same rfl rfl (OBnd.rwl (Nat.le_of_ble_eq_true rfl) rfl (.cons .cl .nil))) (.cons (.same rfl rfl (OBnd.rwl (Nat.le_of_ble_eq_true rfl) rfl (.cons .cl (.cons .cl (.cons .cl (.cons .cl (.cons .cl (.cons .cl (.cons .cl .nil))))))))) .nil))))) (.cons rfl (.same _ (.yield (Nat.le_of_ble_eq_true rfl))) (.cons rfl (.same _ .cl) (.cons rfl (.same _ .cl) (.cons rfl (.same _ .cl) (.cons rfl (.same _ .cl) .nil)))))
      · (conv=>whnf);refine pw_exit ?_;(conv=>whnf);cases h9;refine ⟨_, rfl, ?_⟩; rintro rfl;(conv=>whnf);exact ⟨(.cons rfl .nil), rfl⟩
  · refine pw_so ?_;refine po_all ?_;(conv=>whnf);refine pw_ret ?_;(conv=>whnf);cases H; rfl

/-- guidevane/dispatch.ValueOf -/
noncomputable def f323 [LO]  (a0 : Int) (a1 : Int) (a2 : List (ByteArray × Int × Int × Int)) (a3 : Int) (a4 : Int) (a5 : Int) (a6 : List (Int × Int × Int)) (a7 : List Int) : Option (Int × Int) :=
  obnd (f221 a0 a1 a2 a3 a4 a5 a6 a7) fun (y1 : Int × Int × (List (ByteArray × Int × Int × Int)) × Int × Int × Int × (List (Int × Int × Int)) × (List Int) × Int) =>
  oite ((!(ieq y1.2.2.2.2.2.2.2.2 (0 : Int)))) (
   some ((0 : Int), y1.2.2.2.2.2.2.2.2)
    ) (
   obnd (f352 y1.1 y1.2.1 y1.2.2.1 y1.2.2.2.1 y1.2.2.2.2.1 y1.2.2.2.2.2.1 y1.2.2.2.2.2.2.1 a7 y1.2.2.2.2.2.2.2.1) fun (y4 : Int) =>
   some (y4, (0 : Int))
    )
set_option maxHeartbeats 1000000 in
theorem c323 [LO]  {a0 : Int} {a1 : Int} {a2 : List (ByteArray × Int × Int × Int)} {a3 : Int} {a4 : Int} {a5 : Int} {a6 : List (Int × Int × Int)} {a7 : List Int} {x : Int × Int} (H : f323 a0 a1 a2 a3 a4 a5 a6 a7 = some x) : ICalls E 323 [(.agg ⟨[(.int .i64 a0), (.int .i64 a1), (VS 4 (a2.map e_SIII))]⟩), (.agg ⟨[(.int .i64 a3), (.int .i64 a4), (.int .i64 a5), (VS 3 (a6.map e_III))]⟩), (VS 1 (a7.map eI))] AHeap.none fun v _ => v = (.tuple ⟨[(.int .i64 x.1), (.int .i64 x.2)]⟩) := by
  refine icalls_fn (pfnw ?_); unfold f323 at H;(conv=>whnf);refine pw_so ?_;refine po_all ?_;(conv=>whnf);refine pw_so ?_;refine po_all ?_;(conv=>whnf);obtain ⟨y1, h2, H⟩ := obnd_some H;refine (c221 h2).go ?_;(conv=>whnf);refine pw_seq ?_;refine pw_so ?_;refine po_all ?_;(conv=>whnf);refine pw_cond ?_;(conv=>whnf);refine pbr_oite H (fun g3 H => ?_) (fun g3 H => ?_)
  · (conv=>whnf);refine pw_so ?_;refine po_all ?_;(conv=>whnf);refine pw_ret ?_;(conv=>whnf);cases H; rfl
  · (conv=>whnf);refine pw_skip ?_;(conv=>whnf);refine pw_so ?_;refine po_all ?_;(conv=>whnf);obtain ⟨y4, h5, H⟩ := obnd_some H;refine (c352 h5).go ?_;(conv=>whnf);refine pw_ret ?_;(conv=>whnf);cases H; rfl

/-- guidevane/dispatch.StartsOf -/
noncomputable def f324 [LO]  (a0 : Int) (a1 : Int) (a2 : List (ByteArray × Int × Int × Int)) (a3 : Int) (a4 : Int) (a5 : Int) (a6 : List (Int × Int × Int)) (a7 : List Int) : Option (Int × Int) :=
  obnd (f221 a0 a1 a2 a3 a4 a5 a6 a7) fun (y1 : Int × Int × (List (ByteArray × Int × Int × Int)) × Int × Int × Int × (List (Int × Int × Int)) × (List Int) × Int) =>
  oite ((!(ieq y1.2.2.2.2.2.2.2.2 (0 : Int)))) (
   some ((0 : Int), y1.2.2.2.2.2.2.2.2)
    ) (
   obnd (
    oloop (τ := Int × Int × Int) (ρ := Int) (fun e8 =>
     oite ((ilt e8.2.1 ((a7.map eI).length : Int))) (
      ogrd ((ile 0 e8.2.1)) (
      obnd (a7[e8.2.1.toNat]?) fun (x13 : Int) =>
      oite ((!(ieq e8.1 x13))) (
       some (.inl ((x13, (IntKind.i64.wrap (e8.2.1 + (1 : Int))), (IntKind.i64.wrap (e8.2.2 + (1 : Int))))))
        ) (
       some (.inl (x13, (IntKind.i64.wrap (e8.2.1 + (1 : Int))), e8.2.2))
        )
      )
       ) (
      some (.inr (e8.2.2))
       )
      ) ((y1.2.2.2.2.1, (0 : Int), (0 : Int)))
     ) fun (r4 : Int) =>
   some (r4, (0 : Int))
    )
set_option maxHeartbeats 1000000 in
theorem c324 [LO]  {a0 : Int} {a1 : Int} {a2 : List (ByteArray × Int × Int × Int)} {a3 : Int} {a4 : Int} {a5 : Int} {a6 : List (Int × Int × Int)} {a7 : List Int} {x : Int × Int} (H : f324 a0 a1 a2 a3 a4 a5 a6 a7 = some x) : ICalls E 324 [(.agg ⟨[(.int .i64 a0), (.int .i64 a1), (VS 4 (a2.map e_SIII))]⟩), (.agg ⟨[(.int .i64 a3), (.int .i64 a4), (.int .i64 a5), (VS 3 (a6.map e_III))]⟩), (VS 1 (a7.map eI))] AHeap.none fun v _ => v = (.tuple ⟨[(.int .i64 x.1), (.int .i64 x.2)]⟩) := by
  refine icalls_fn (pfnw ?_); unfold f324 at H;(conv=>whnf);refine pw_so ?_;refine po_all ?_;(conv=>whnf);refine pw_so ?_;refine po_all ?_;(conv=>whnf);obtain ⟨y1, h2, H⟩ := obnd_some H;refine (c221 h2).go ?_;(conv=>whnf);refine pw_seq ?_;refine pw_so ?_;refine po_all ?_;(conv=>whnf);refine pw_cond ?_;(conv=>whnf);refine pbr_oite H (fun g3 H => ?_) (fun g3 H => ?_)
  · (conv=>whnf);refine pw_so ?_;refine po_all ?_;(conv=>whnf);refine pw_ret ?_;(conv=>whnf);cases H; rfl
  · (conv=>whnf);refine pw_skip ?_;(conv=>whnf);refine pw_so ?_;refine po_all ?_;(conv=>whnf);obtain ⟨r4, h5, H⟩ := obnd_some H;refine pw_join (ρ := Int) (fun e => ⟨[(11, (.pointer (some ⟨3, 0, none⟩)))], ⟨7, [(6, .dead), (5, .rw [(VS 1 (a7.map eI))]), (4, .rw [(.int .i64 y1.1), (.int .i64 y1.2.1), (VS 4 (y1.2.2.1.map e_SIII)), (.int .i64 y1.2.2.2.1), (.int .i64 y1.2.2.2.2.1), (.int .i64 y1.2.2.2.2.2.1), (VS 3 (y1.2.2.2.2.2.2.1.map e_III))]), (3, .rw [(.int .i64 e)]), (2, .rw [(.int .i64 y1.1), (.int .i64 y1.2.1), (VS 4 (y1.2.2.1.map e_SIII)), (.int .i64 y1.2.2.2.1), (.int .i64 y1.2.2.2.2.1), (.int .i64 y1.2.2.2.2.2.1), (VS 3 (y1.2.2.2.2.2.2.1.map e_III))]), (1, .rw [(.int .i64 a3), (.int .i64 a4), (.int .i64 a5), (VS 3 (a6.map e_III))]), (0, .rw [(.int .i64 a0), (.int .i64 a1), (VS 4 (a2.map e_SIII))])], false⟩⟩) r4 ?_ ?_
    · refine pw_so ?_;refine po_all ?_;(conv=>whnf);refine pcalls_in ?_;(conv=>whnf);refine pw_so ?_;refine po_all ?_;(conv=>whnf);refine pw_so ?_;refine po_all ?_;(conv=>whnf);refine pw_ret ?_;(conv=>whnf);refine pw_block ?_;refine pw_range [11, 27] ?_;(conv=>whnf);refine pcallv_in ?_;(conv=>whnf);refine pw_so ?_;refine po_all ?_;(conv=>whnf);refine pw_so ?_;refine po_all ?_;(conv=>whnf);refine pw_block ?_;refine pw_loop (τ := Int × Int × Int) (fun e => ⟨[(0, (.func (.yield 6) #[] #[])), (4, (.int .i64 e.1)), (10, (VS 1 (a7.map eI))), (11, (.int .i64 ((a7.map eI).length : Int))), (12, (.int .i64 e.2.1))], ⟨7, [(6, .loop ⟨.ready, none, [(11, (.pointer (some ⟨3, 0, none⟩))), (27, (.func (.func (E.id 367)) ⟨[]⟩ ⟨[(.pointer (some ⟨4, 0, none⟩)), (.pointer (some ⟨5, 0, none⟩))]⟩))], 38, #[28, 29], (rng 38 0).1, (rng 38 0).2⟩), (5, .rw [(VS 1 (a7.map eI))]), (4, .rw [(.int .i64 y1.1), (.int .i64 y1.2.1), (VS 4 (y1.2.2.1.map e_SIII)), (.int .i64 y1.2.2.2.1), (.int .i64 y1.2.2.2.2.1), (.int .i64 y1.2.2.2.2.2.1), (VS 3 (y1.2.2.2.2.2.2.1.map e_III))]), (3, .rw [(.int .i64 e.2.2)]), (2, .rw [(.int .i64 y1.1), (.int .i64 y1.2.1), (VS 4 (y1.2.2.1.map e_SIII)), (.int .i64 y1.2.2.2.1), (.int .i64 y1.2.2.2.2.1), (.int .i64 y1.2.2.2.2.2.1), (VS 3 (y1.2.2.2.2.2.2.1.map e_III))]), (1, .rw [(.int .i64 a3), (.int .i64 a4), (.int .i64 a5), (VS 3 (a6.map e_III))]), (0, .rw [(.int .i64 a0), (.int .i64 a1), (VS 4 (a2.map e_SIII))])], false⟩⟩) h5 ?_ (fun _ => Nat.le_of_ble_eq_true rfl) ?_
      · exact .sub' (Nat.le_of_ble_eq_true rfl) (.cons rfl (.cons rfl (.cons rfl (.cons rfl (.cons rfl .nil)))))
      · intro e8 x9 h10;refine pw_so ?_;refine po_all ?_;(conv=>whnf);refine pw_seq ?_;refine pw_cond ?_;(conv=>whnf);refine pbr_oite h10 (fun g11 h10 => ?_) (fun g11 h10 => ?_)
        · (conv=>whnf);refine pw_skip ?_;(conv=>whnf);refine pw_seq ?_;refine pw_block ?_;refine pw_so ?_;refine po_all ?_;(conv=>whnf);refine pbr_ogrd h10 (fun g12 h10 => ?_);(conv=>whnf);refine nth_o (l := a7) h10 (fun x13 _ h10 => ?_);(conv=>whnf);refine pw_seq ?_;refine pw_so ?_;refine po_all ?_;(conv=>whnf);refine pcallv_yield ir324a0 ir324b0 rfl rfl ra324_0 rb324_0 ⟨_, _, _, _, rfl⟩ ?_;(conv=>whnf);refine pw_ops ?_;refine po_all ?_;(conv=>whnf);refine pw_block ?_;refine pw_so ?_;refine po_all ?_;(conv=>whnf);refine pw_cond ?_;(conv=>whnf);refine pbr_oite h10 (fun g14 h10 => ?_) (fun g14 h10 => ?_)
          · (conv=>whnf);refine pw_ops ?_;refine po_all ?_;(conv=>whnf);refine pw_cond ?_;(conv=>whnf);refine pw_skip ?_;(conv=>whnf);refine pw_ops ?_;refine po_all ?_;(conv=>whnf);refine pw_ops ?_;refine po_all ?_;(conv=>whnf);cases h10;refine ⟨_, rfl, ?_⟩;exact Recast.fz (fun _ => false) (Nat.le_of_ble_eq_true rfl) (.cons (.same rfl rfl (OBnd.loop (Nat.le_of_ble_eq_true rfl) (.cons (.ptr (Nat.le_of_ble_eq_true rfl)) (.cons (.funcl .nil (.cons (.ptr (Nat.le_of_ble_eq_true rfl)) (.cons (.ptr (Nat.le_of_ble_eq_true rfl)) .nil))) .nil)))) (.cons (.same rfl rfl (OBnd.rwl (Nat.le_of_ble_eq_true rfl) rfl (.cons .cl .nil))) (.cons (.same rfl rfl (OBnd.rwl (Nat.le_of_ble_eq_true rfl) rfl (.cons .cl (.cons .cl (.cons .cl (.cons .cl (.cons .cl (.cons .cl (.cons .cl .nil))))))))) (.cons (.same rfl rfl (OBnd.rwl (Nat.le_of_ble_eq_true rfl) rfl (.cons .cl .nil))) (.cons (.same rfl rfl (OBnd.rwl (Nat.le_of_ble_eq_true rfl) rfl (.cons .cl (.cons .cl (.cons .cl (.cons .cl (.cons .cl (.cons .cl (.cons .cl .nil))))))))) (.cons (.same rfl rfl (OBnd.rwl (Nat.le_of_ble_eq_true rfl) rfl (.cons .cl (.cons .cl (.cons .cl (.cons .cl .nil)))))) (.cons (.same rfl rfl (OBnd.rwl (Nat.le_of_ble_eq_true rfl) rfl (.cons .cl (.cons .cl (.cons .cl .nil))))) .nil))))))) (.cons rfl (.same _ (.yield (Nat.le_of_ble_eq_true rfl))) (.cons rfl (.same _ .cl) (.cons rfl (.same _ .cl) (.cons rfl (.same _ .cl) (.cons rfl (.same _ .cl) .nil)))))
          · (conv=>whnf);refine pw_skip ?_;(conv=>whnf);refine pw_cond ?_;(conv=>whnf);refine pw_skip ?_;(conv=>whnf);refine pw_ops ?_;refine po_all ?_;(conv=>whnf);refine pw_ops ?_;refine po_all ?_;(conv=>whnf);cases h10;refine ⟨_, rfl, ?_⟩;exact Recast.fz (fun _ => false) (Nat.le_of_ble_eq_true rfl) (.cons (.same rfl rfl (OBnd.loop (Nat.le_of_ble_eq_true rfl) (.cons (.ptr (Nat.le_of_ble_eq_true rfl)) (.cons (.funcl .nil (.cons (.ptr (Nat.le_of_ble_eq_true rfl)) (.cons (.ptr (Nat.le_of_ble_eq_true rfl)) .nil))) .nil)))) (.cons (.same rfl rfl (OBnd.rwl (Nat.le_of_ble_eq_true rfl) rfl (.cons .cl .nil))) (.cons (.same rfl rfl (OBnd.rwl (Nat.le_of_ble_eq_true rfl) rfl (.cons .cl (.cons .cl (.cons .cl (.cons .cl (.cons .cl (.cons .cl (.cons .cl .nil))))))))) (.cons (.same rfl rfl (OBnd.rwl (Nat.le_of_ble_eq_true rfl) rfl (.cons .cl .nil))) (.cons (.same rfl rfl (OBnd.rwl (Nat.le_of_ble_eq_true rfl) rfl (.cons .cl (.cons .cl (.cons .cl (.cons .cl (.cons .cl (.cons .cl (.cons .cl .nil))))))))) (.cons (.same rfl rfl (OBnd.rwl (Nat.le_of_ble_eq_true rfl) rfl (.cons .cl (.cons .cl (.cons .cl (.cons .cl .nil)))))) (.cons (.same rfl rfl (OBnd.rwl (Nat.le_of_ble_eq_true rfl) rfl (.cons .cl (.cons .cl (.cons .cl .nil))))) .nil))))))) (.cons rfl (.same _ (.yield (Nat.le_of_ble_eq_true rfl))) (.cons rfl (.same _ .cl) (.cons rfl (.same _ .cl) (.cons rfl (.same _ .cl) (.cons rfl (.same _ .cl) .nil)))))
        · (conv=>whnf);refine pw_exit ?_;(conv=>whnf);cases h10;refine ⟨_, rfl, ?_⟩; rintro rfl;(conv=>whnf);exact ⟨(.cons rfl .nil), rfl⟩
    · refine pw_so ?_;refine po_all ?_;(conv=>whnf);refine pw_ret ?_;(conv=>whnf);cases H; rfl

/-- guidevane/guidevanebase.Within -/
noncomputable def f15  (a0 : Int) (a1 : Int) (a2 : Int) : Option Bool :=
  obnd (
   oite ((ile a1 a0)) (
    some (ile a0 a2)
     ) (
    some false
     )
    ) fun (r1 : Bool) =>
  some r1
set_option maxHeartbeats 1000000 in
theorem c15  {a0 : Int} {a1 : Int} {a2 : Int} {x : Bool} (H : f15 a0 a1 a2 = some x) : ICalls E 15 [(.int .i64 a0), (.int .i64 a1), (.int .i64 a2)] AHeap.none fun v _ => v = (.bool x) := by
  refine icalls_fn (pfnw ?_); unfold f15 at H;(conv=>whnf);refine pw_so ?_;refine po_all ?_;(conv=>whnf);refine pw_so ?_;refine po_ops 4 ?_;(conv=>whnf);obtain ⟨r1, h2, H⟩ := obnd_some H;refine po_seg (τ := Bool) 4 (fun e => ⟨[(14, (.bool e))], ⟨0, [], false⟩⟩) r1 ?_ ?_
  · refine po_all ?_;(conv=>whnf);refine pbr_oite h2 (fun g3 h2 => ?_) (fun g3 h2 => ?_)
    · (conv=>whnf);refine pbr_t g3 ?_;(conv=>whnf);refine pbr_t g3 ?_;(conv=>whnf);refine pbr_t g3 ?_;(conv=>whnf);cases h2;exact ⟨(.cons rfl .nil), rfl⟩
    · (conv=>whnf);refine pbr_f g3 ?_;(conv=>whnf);refine pbr_f g3 ?_;(conv=>whnf);refine pbr_f g3 ?_;(conv=>whnf);cases h2;exact ⟨(.cons rfl .nil), rfl⟩
  · refine po_all ?_;(conv=>whnf);refine pw_ret ?_;(conv=>whnf);cases H; rfl

/-- guidevane/guidevanebase.IsName -/
noncomputable def f91 [LO]  (a0 : ByteArray) : Option Bool :=
  obnd (
   oite ((ilt (a0.size : Int) (1 : Int))) (
    some true
     ) (
    some (ilt (12 : Int) (a0.size : Int))
     )
    ) fun (r1 : Bool) =>
  oite r1 (
   some false
    ) (
   obndS (
    oloop (τ := Int) (ρ := (Unit) ⊕ Bool) (fun e11 =>
     oite ((ilt e11 (a0.size : Int))) (
      ogrd ((ile 0 e11)) (
      obnd (a0.data.toList[e11.toNat]?) fun (x16 : UInt8) =>
      obnd (
       oite ((ile (97 : Int) (x16.toNat : Int))) (
        some (ile (x16.toNat : Int) (122 : Int))
         ) (
        some false
         )
        ) fun (r17 : Bool) =>
      obnd (
       oite r17 (
        some true
         ) (
        oite ((ile (65 : Int) (x16.toNat : Int))) (
         some (ile (x16.toNat : Int) (90 : Int))
          ) (
         some false
          )
         )
        ) fun (r20 : Bool) =>
      obnd (
       oite (!r20) (
        obnd (
         oite ((ieq e11 (0 : Int))) (
          some true
           ) (
          oite ((!(ieq (x16.toNat : Int) (45 : Int)))) (
           oite ((ilt (x16.toNat : Int) (48 : Int))) (
            some true
             ) (
            some (ilt (57 : Int) (x16.toNat : Int))
             )
            ) (
           some false
            )
           )
          ) fun (r29 : Bool) =>
        some r29
         ) (
        some false
         )
        ) fun (r24 : Bool) =>
      oite r24 (
       some (.inr (.inr (false)))
        ) (
       some (.inl (IntKind.i64.wrap (e11 + (1 : Int))))
        )
      )
       ) (
      some (.inr (.inl ()))
       )
      ) (0 : Int)
     ) fun (_ : Unit) =>
   some true
    )
set_option maxHeartbeats 1000000 in
theorem c91 [LO]  {a0 : ByteArray} {x : Bool} (H : f91 a0 = some x) : ICalls E 91 [(.string a0)] AHeap.none fun v _ => v = (.bool x) := by
  refine icalls_fn (pfnw ?_); unfold f91 at H;(conv=>whnf);refine pw_so ?_;refine po_all ?_;(conv=>whnf);refine pw_seq ?_;obtain ⟨r1, h2, H⟩ := obnd_some H;refine pw_join (ρ := Bool) (fun e => ⟨[(0, (.string a0)), (13, (.bool e))], ⟨0, [], false⟩⟩) r1 ?_ ?_
  · refine pw_ops ?_;refine po_all ?_;(conv=>whnf);refine pbr_oite h2 (fun g5 h2 => ?_) (fun g5 h2 => ?_)
    · (conv=>whnf);refine pbr_t g5 ?_;(conv=>whnf);refine pbr_t g5 ?_;(conv=>whnf);refine pbr_t g5 ?_;(conv=>whnf);cases h2;exact ⟨(.cons rfl (.cons rfl .nil)), rfl⟩
    · (conv=>whnf);refine pbr_f g5 ?_;(conv=>whnf);refine pbr_f g5 ?_;(conv=>whnf);refine pbr_f g5 ?_;(conv=>whnf);cases h2;exact ⟨(.cons rfl (.cons rfl .nil)), rfl⟩
  · refine pw_cond ?_;(conv=>whnf);refine pbr_oite H (fun g6 H => ?_) (fun g6 H => ?_)
    · (conv=>whnf);refine pw_so ?_;refine po_all ?_;(conv=>whnf);refine pw_ret ?_;(conv=>whnf);cases H; rfl
    · (conv=>whnf);refine pw_skip ?_;(conv=>whnf);obtain ⟨r7, h8, h9, h10⟩ := obndS_some H;refine pw_joinS (ρ := Unit) (fun e => ⟨[], ⟨0, [], false⟩⟩) r7 ?_ ?_
      · refine pw_so ?_;refine po_all ?_;(conv=>whnf);refine pw_block ?_;refine pw_loop (τ := Int) (fun e => ⟨[(0, (.string a0)), (3, (.int .i64 e))], ⟨0, [], false⟩⟩) h8 ?_ (fun _ => Nat.le_of_ble_eq_true rfl) ?_
        · exact .sub' (Nat.le_of_ble_eq_true rfl) (.cons rfl (.cons rfl .nil))
        · intro e11 x12 h13;refine pw_seq ?_;refine pw_so ?_;refine po_all ?_;(conv=>whnf);refine pw_cond ?_;(conv=>whnf);refine pbr_oite h13 (fun g14 h13 => ?_) (fun g14 h13 => ?_)
          · (conv=>whnf);refine pw_skip ?_;(conv=>whnf);refine pw_seq ?_;refine pw_block ?_;refine pw_so ?_;refine po_all ?_;(conv=>whnf);refine pbr_ogrd h13 (fun g15 h13 => ?_);(conv=>whnf);refine get_o h13 (fun x16 _ h13 => ?_);(conv=>whnf);refine pw_so ?_;refine po_ops 3 ?_;(conv=>whnf);obtain ⟨r17, h18, h13⟩ := obnd_some h13;refine po_seg (τ := Bool) 3 (fun e => ⟨[(0, (.string a0)), (3, (.int .i64 e11)), (4, (.int .u8 (x16.toNat : Int))), (28, (.bool e))], ⟨0, [], false⟩⟩) r17 ?_ ?_
            · refine po_all ?_;(conv=>whnf);refine pbr_oite h18 (fun g19 h18 => ?_) (fun g19 h18 => ?_)
              · (conv=>whnf);refine pbr_t g19 ?_;(conv=>whnf);refine pbr_t g19 ?_;(conv=>whnf);cases h18;exact ⟨(.cons rfl (.cons rfl (.cons rfl (.cons rfl .nil)))), rfl⟩
              · (conv=>whnf);refine pbr_f g19 ?_;(conv=>whnf);refine pbr_f g19 ?_;(conv=>whnf);cases h18;exact ⟨(.cons rfl (.cons rfl (.cons rfl (.cons rfl .nil)))), rfl⟩
            · refine po_ops 1 ?_;(conv=>whnf);obtain ⟨r20, h21, h13⟩ := obnd_some h13;refine po_seg (τ := Bool) 7 (fun e => ⟨[(0, (.string a0)), (3, (.int .i64 e11)), (4, (.int .u8 (x16.toNat : Int))), (36, (.bool e))], ⟨0, [], false⟩⟩) r20 ?_ ?_
              · refine po_all ?_;(conv=>whnf);refine pbr_oite h21 (fun g22 h21 => ?_) (fun g22 h21 => ?_)
                · (conv=>whnf);refine pbr_t g22 ?_;(conv=>whnf);refine pbr_t g22 ?_;(conv=>whnf);refine pbr_t g22 ?_;(conv=>whnf);refine pbr_t g22 ?_;(conv=>whnf);cases h21;exact ⟨(.cons rfl (.cons rfl (.cons rfl (.cons rfl .nil)))), rfl⟩
                · (conv=>whnf);refine pbr_f g22 ?_;(conv=>whnf);refine pbr_f g22 ?_;(conv=>whnf);refine pbr_oite h21 (fun g23 h21 => ?_) (fun g23 h21 => ?_)
                  · (conv=>whnf);refine pbr_t g23 ?_;(conv=>whnf);refine pbr_f g22 ?_;(conv=>whnf);refine pbr_t g23 ?_;(conv=>whnf);refine pbr_f g22 ?_;(conv=>whnf);cases h21;exact ⟨(.cons rfl (.cons rfl (.cons rfl (.cons rfl .nil)))), rfl⟩
                  · (conv=>whnf);refine pbr_f g23 ?_;(conv=>whnf);refine pbr_f g22 ?_;(conv=>whnf);refine pbr_f g23 ?_;(conv=>whnf);refine pbr_f g22 ?_;(conv=>whnf);cases h21;exact ⟨(.cons rfl (.cons rfl (.cons rfl (.cons rfl .nil)))), rfl⟩
              · refine po_all ?_;(conv=>whnf);obtain ⟨r24, h25, h13⟩ := obnd_some h13;refine pw_join (ρ := Bool) (fun e => ⟨[(0, (.string a0)), (3, (.int .i64 e11)), (54, (.bool e))], ⟨0, [], false⟩⟩) r24 ?_ ?_
                · refine pw_ops ?_;refine po_ops 6 ?_;(conv=>whnf);refine pbr_oite h25 (fun g28 h25 => ?_) (fun g28 h25 => ?_)
                  · (conv=>whnf);refine pbr_t g28 ?_;(conv=>whnf);refine pbr_t g28 ?_;(conv=>whnf);obtain ⟨r29, h30, h25⟩ := obnd_some h25;refine po_seg (τ := Bool) 11 (fun e => ⟨[(0, (.string a0)), (3, (.int .i64 e11)), (39, (.bool (!r20))), (40, (.int .i64 e11)), (41, (.bool (ieq e11 (0 : Int)))), (42, (.bool (ieq e11 (0 : Int)))), (53, (.bool e))], ⟨0, [], false⟩⟩) r29 ?_ ?_
                    · refine po_all ?_;(conv=>whnf);refine pbr_oite h30 (fun g31 h30 => ?_) (fun g31 h30 => ?_)
                      · (conv=>whnf);refine pbr_t g31 ?_;(conv=>whnf);refine pbr_t g31 ?_;(conv=>whnf);refine pbr_t g31 ?_;(conv=>whnf);refine pbr_t g28 ?_;(conv=>whnf);refine pbr_t g31 ?_;(conv=>whnf);cases h30;exact ⟨(.cons rfl (.cons rfl (.cons rfl (.cons rfl (.cons rfl (.cons rfl (.cons rfl .nil))))))), rfl⟩
                      · (conv=>whnf);refine pbr_f g31 ?_;(conv=>whnf);refine pbr_f g31 ?_;(conv=>whnf);refine pbr_oite h30 (fun g32 h30 => ?_) (fun g32 h30 => ?_)
                        · (conv=>whnf);refine pbr_t g32 ?_;(conv=>whnf);refine pbr_t g32 ?_;(conv=>whnf);refine pbr_oite h30 (fun g33 h30 => ?_) (fun g33 h30 => ?_)
                          · (conv=>whnf);refine pbr_t g33 ?_;(conv=>whnf);refine pbr_t g32 ?_;(conv=>whnf);refine pbr_t g33 ?_;(conv=>whnf);refine pbr_f g31 ?_;(conv=>whnf);refine pbr_t g32 ?_;(conv=>whnf);refine pbr_t g28 ?_;(conv=>whnf);refine pbr_f g31 ?_;(conv=>whnf);cases h30;exact ⟨(.cons rfl (.cons rfl (.cons rfl (.cons rfl (.cons rfl (.cons rfl (.cons rfl .nil))))))), rfl⟩
                          · (conv=>whnf);refine pbr_f g33 ?_;(conv=>whnf);refine pbr_t g32 ?_;(conv=>whnf);refine pbr_f g33 ?_;(conv=>whnf);refine pbr_f g31 ?_;(conv=>whnf);refine pbr_t g32 ?_;(conv=>whnf);refine pbr_t g28 ?_;(conv=>whnf);refine pbr_f g31 ?_;(conv=>whnf);cases h30;exact ⟨(.cons rfl (.cons rfl (.cons rfl (.cons rfl (.cons rfl (.cons rfl (.cons rfl .nil))))))), rfl⟩
                        · (conv=>whnf);refine pbr_f g32 ?_;(conv=>whnf);refine pbr_f g32 ?_;(conv=>whnf);refine pbr_f g32 ?_;(conv=>whnf);refine pbr_f g31 ?_;(conv=>whnf);refine pbr_f g32 ?_;(conv=>whnf);refine pbr_t g28 ?_;(conv=>whnf);refine pbr_f g31 ?_;(conv=>whnf);cases h30;exact ⟨(.cons rfl (.cons rfl (.cons rfl (.cons rfl (.cons rfl (.cons rfl (.cons rfl .nil))))))), rfl⟩
                    · refine po_all ?_;(conv=>whnf);refine pbr_t g28 ?_;(conv=>whnf);cases h25;exact ⟨(.cons rfl (.cons rfl (.cons rfl .nil))), rfl⟩
                  · (conv=>whnf);refine pbr_f g28 ?_;(conv=>whnf);refine pbr_f g28 ?_;(conv=>whnf);refine po_ops 11 ?_;(conv=>whnf);refine pbr_f g28 ?_;(conv=>whnf);refine po_all ?_;(conv=>whnf);refine pbr_f g28 ?_;(conv=>whnf);cases h25;exact ⟨(.cons rfl (.cons rfl (.cons rfl .nil))), rfl⟩
                · refine pw_cond ?_;(conv=>whnf);refine pbr_oite h13 (fun g34 h13 => ?_) (fun g34 h13 => ?_)
                  · (conv=>whnf);refine pw_so ?_;refine po_all ?_;(conv=>whnf);refine pw_ret ?_;(conv=>whnf);cases h13;refine ⟨_, rfl, ?_⟩; rintro rfl;(conv=>whnf);obtain rfl := h10 _ rfl; rfl
                  · (conv=>whnf);refine pw_skip ?_;(conv=>whnf);refine pw_ops ?_;refine po_all ?_;(conv=>whnf);cases h13;refine ⟨_, rfl, ?_⟩;exact .sub' (Nat.le_of_ble_eq_true rfl) (.cons rfl (.cons rfl .nil))
          · (conv=>whnf);refine pw_exit ?_;(conv=>whnf);cases h13;refine ⟨_, rfl, ?_⟩; rintro rfl;(conv=>whnf);exact ⟨_, rfl, ⟨.nil, rfl⟩⟩
      · intro r37 hr; have H := h9 _ hr;refine pw_so ?_;refine po_all ?_;(conv=>whnf);refine pw_ret ?_;(conv=>whnf);cases H; rfl

/-- guidevane/guidevanebase.HasText -/
noncomputable def f364 [LO]  (a0 : List ByteArray) (a1 : ByteArray) : Option Bool :=
  obndS (
   oloop (τ := Int) (ρ := (Unit) ⊕ Bool) (fun e5 =>
    oite ((ilt e5 ((a0.map eS).length : Int))) (
     ogrd ((ile 0 e5)) (
     obnd (a0[e5.toNat]?) fun (x10 : ByteArray) =>
     oite ((x10.toList == a1.toList)) (
      some (.inr (.inr (true)))
       ) (
      some (.inl (IntKind.i64.wrap (e5 + (1 : Int))))
       )
     )
      ) (
     some (.inr (.inl ()))
      )
     ) (0 : Int)
    ) fun (_ : Unit) =>
  some false
set_option maxHeartbeats 1000000 in
theorem c364 [LO]  {a0 : List ByteArray} {a1 : ByteArray} {x : Bool} (H : f364 a0 a1 = some x) : ICalls E 364 [(VS 1 (a0.map eS)), (.string a1)] AHeap.none fun v _ => v = (.bool x) := by
  refine icalls_fn (pfnw ?_); unfold f364 at H;(conv=>whnf);refine pw_so ?_;refine po_all ?_;(conv=>whnf);obtain ⟨r1, h2, h3, h4⟩ := obndS_some H;refine pw_joinS (ρ := Unit) (fun e => ⟨[], ⟨0, [], false⟩⟩) r1 ?_ ?_
  · refine pw_so ?_;refine po_all ?_;(conv=>whnf);refine pw_block ?_;refine pw_loop (τ := Int) (fun e => ⟨[(0, (VS 1 (a0.map eS))), (1, (.string a1)), (5, (.int .i64 e))], ⟨0, [], false⟩⟩) h2 ?_ (fun _ => Nat.le_of_ble_eq_true rfl) ?_
    · exact .sub' (Nat.le_of_ble_eq_true rfl) (.cons rfl (.cons rfl (.cons rfl .nil)))
    · intro e5 x6 h7;refine pw_seq ?_;refine pw_so ?_;refine po_all ?_;(conv=>whnf);refine pw_cond ?_;(conv=>whnf);refine pbr_oite h7 (fun g8 h7 => ?_) (fun g8 h7 => ?_)
      · (conv=>whnf);refine pw_skip ?_;(conv=>whnf);refine pw_seq ?_;refine pw_block ?_;refine pw_so ?_;refine po_all ?_;(conv=>whnf);refine pbr_ogrd h7 (fun g9 h7 => ?_);(conv=>whnf);refine nth_o (l := a0) h7 (fun x10 _ h7 => ?_);(conv=>whnf);refine pw_cond ?_;(conv=>whnf);refine pbr_oite h7 (fun g11 h7 => ?_) (fun g11 h7 => ?_)
        · (conv=>whnf);refine pw_so ?_;refine po_all ?_;(conv=>whnf);refine pw_ret ?_;(conv=>whnf);cases h7;refine ⟨_, rfl, ?_⟩; rintro rfl;(conv=>whnf);obtain rfl := h4 _ rfl; rfl
        · (conv=>whnf);refine pw_skip ?_;(conv=>whnf);refine pw_ops ?_;refine po_all ?_;(conv=>whnf);cases h7;refine ⟨_, rfl, ?_⟩;exact .sub' (Nat.le_of_ble_eq_true rfl) (.cons rfl (.cons rfl (.cons rfl .nil)))
      · (conv=>whnf);refine pw_exit ?_;(conv=>whnf);cases h7;refine ⟨_, rfl, ?_⟩; rintro rfl;(conv=>whnf);exact ⟨_, rfl, ⟨.nil, rfl⟩⟩
  · intro r14 hr; have H := h3 _ hr;refine pw_so ?_;refine po_all ?_;(conv=>whnf);refine pw_ret ?_;(conv=>whnf);cases H; rfl

/-- guidevane/guidevaneref08.modeErr -/
noncomputable def f354 [LO]  (a0 : ByteArray) (a1 : Int) (a2 : Int) (a3 : Int) (a4 : List ByteArray) : Option Int :=
  obnd (f91 a0) fun (y1 : Bool) =>
  oite (!y1) (
   some (4 : Int)
    ) (
   obnd (f364 a4 a0) fun (y4 : Bool) =>
   oite y4 (
    some (5 : Int)
     ) (
    obnd (
     obnd (f15 a1 (-10000 : Int) (10000 : Int)) fun (y11 : Bool) =>
     obnd (
      oite (!y11) (
       some true
        ) (
       obnd (f15 a2 (-10000 : Int) (10000 : Int)) fun (y16 : Bool) =>
       some (!y16)
        )
       ) fun (r13 : Bool) =>
     oite r13 (
      some true
       ) (
      obnd (f15 a3 (0 : Int) (10000 : Int)) fun (y19 : Bool) =>
      some (!y19)
       )
      ) fun (r7 : Bool) =>
    oite r7 (
     some (2 : Int)
      ) (
     some (0 : Int)
      )
     )
    )
set_option maxHeartbeats 1000000 in
theorem c354 [LO]  {a0 : ByteArray} {a1 : Int} {a2 : Int} {a3 : Int} {a4 : List ByteArray} {x : Int} (H : f354 a0 a1 a2 a3 a4 = some x) : ICalls E 354 [(.agg ⟨[(.string a0), (.int .i64 a1), (.int .i64 a2), (.int .i64 a3)]⟩), (VS 1 (a4.map eS))] AHeap.none fun v _ => v = (.int .i64 x) := by
  refine icalls_fn (pfnw ?_); unfold f354 at H;(conv=>whnf);refine pw_so ?_;refine po_all ?_;(conv=>whnf);refine pw_seq ?_;refine pw_so ?_;refine po_all ?_;(conv=>whnf);obtain ⟨y1, h2, H⟩ := obnd_some H;refine (c91 h2).go ?_;(conv=>whnf);refine pw_cond ?_;(conv=>whnf);refine pbr_oite H (fun g3 H => ?_) (fun g3 H => ?_)
  · (conv=>whnf);refine pw_so ?_;refine po_all ?_;(conv=>whnf);refine pw_ret ?_;(conv=>whnf);cases H; rfl
  · (conv=>whnf);refine pw_skip ?_;(conv=>whnf);refine pw_seq ?_;refine pw_so ?_;refine po_all ?_;(conv=>whnf);obtain ⟨y4, h5, H⟩ := obnd_some H;refine (c364 h5).go ?_;(conv=>whnf);refine pw_cond ?_;(conv=>whnf);refine pbr_oite H (fun g6 H => ?_) (fun g6 H => ?_)
    · (conv=>whnf);refine pw_so ?_;refine po_all ?_;(conv=>whnf);refine pw_ret ?_;(conv=>whnf);cases H; rfl
    · (conv=>whnf);refine pw_skip ?_;(conv=>whnf);refine pw_seq ?_;obtain ⟨r7, h8, H⟩ := obnd_some H;refine pw_join (ρ := Bool) (fun e => ⟨[(28, (.bool e))], ⟨1, [(0, .rw [(.string a0), (.int .i64 a1), (.int .i64 a2), (.int .i64 a3)])], false⟩⟩) r7 ?_ ?_
      · refine pw_ops ?_;refine po_ops 5 ?_;(conv=>whnf);obtain ⟨y11, h12, h8⟩ := obnd_some h8;refine (c15 h12).go ?_;(conv=>whnf);obtain ⟨r13, h14, h8⟩ := obnd_some h8;refine po_seg (τ := Bool) 5 (fun e => ⟨[(2, (.pointer (some ⟨0, 0, none⟩))), (22, (.bool e))], ⟨1, [(0, .rw [(.string a0), (.int .i64 a1), (.int .i64 a2), (.int .i64 a3)])], false⟩⟩) r13 ?_ ?_
        · refine po_all ?_;(conv=>whnf);refine pbr_oite h14 (fun g15 h14 => ?_) (fun g15 h14 => ?_)
          · (conv=>whnf);refine pbr_t g15 ?_;(conv=>whnf);refine pbr_t g15 ?_;(conv=>whnf);refine pbr_t g15 ?_;(conv=>whnf);refine pbr_t g15 ?_;(conv=>whnf);cases h14;exact ⟨(.cons rfl (.cons rfl .nil)), rfl⟩
          · (conv=>whnf);refine pbr_f g15 ?_;(conv=>whnf);refine pbr_f g15 ?_;(conv=>whnf);obtain ⟨y16, h17, h14⟩ := obnd_some h14;refine (c15 h17).go ?_;(conv=>whnf);refine pbr_f g15 ?_;(conv=>whnf);refine pbr_f g15 ?_;(conv=>whnf);cases h14;exact ⟨(.cons rfl (.cons rfl .nil)), rfl⟩
        · refine po_all ?_;(conv=>whnf);refine pbr_oite h8 (fun g18 h8 => ?_) (fun g18 h8 => ?_)
          · (conv=>whnf);refine pbr_t g18 ?_;(conv=>whnf);refine pbr_t g18 ?_;(conv=>whnf);refine pbr_t g18 ?_;(conv=>whnf);refine pbr_t g18 ?_;(conv=>whnf);cases h8;exact ⟨(.cons rfl .nil), rfl⟩
          · (conv=>whnf);refine pbr_f g18 ?_;(conv=>whnf);refine pbr_f g18 ?_;(conv=>whnf);obtain ⟨y19, h20, h8⟩ := obnd_some h8;refine (c15 h20).go ?_;(conv=>whnf);refine pbr_f g18 ?_;(conv=>whnf);refine pbr_f g18 ?_;(conv=>whnf);cases h8;exact ⟨(.cons rfl .nil), rfl⟩
      · refine pw_cond ?_;(conv=>whnf);refine pbr_oite H (fun g21 H => ?_) (fun g21 H => ?_)
        · (conv=>whnf);refine pw_so ?_;refine po_all ?_;(conv=>whnf);refine pw_ret ?_;(conv=>whnf);cases H; rfl
        · (conv=>whnf);refine pw_skip ?_;(conv=>whnf);refine pw_so ?_;refine po_all ?_;(conv=>whnf);refine pw_ret ?_;(conv=>whnf);cases H; rfl

/-- guidevane/guidevaneref08.CheckPlant -/
noncomputable def f325 [LO]  (a0 : Int) (a1 : Int) (a2 : List (ByteArray × Int × Int × Int)) : Option (Int × Int) :=
  obnd (
   obnd (f15 a0 (0 : Int) (1000000 : Int)) fun (y5 : Bool) =>
   oite (!y5) (
    some true
     ) (
    obnd (f15 a1 (0 : Int) (1000000 : Int)) fun (y8 : Bool) =>
    some (!y8)
     )
    ) fun (r1 : Bool) =>
  oite r1 (
   some ((0 : Int), (2 : Int))
    ) (
   oite ((ilt a1 a0)) (
    some ((0 : Int), (9 : Int))
     ) (
    oite ((ile (40 : Int) (IntKind.i64.wrap (a1 - a0)))) (
     some ((0 : Int), (8 : Int))
      ) (
     oite ((ieq ((a2.map e_SIII).length : Int) (0 : Int))) (
      some ((0 : Int), (10 : Int))
       ) (
      oite ((ilt (5 : Int) ((a2.map e_SIII).length : Int))) (
       some ((0 : Int), (8 : Int))
        ) (
       obndS (
        oloop (τ := (List ByteArray) × Int) (ρ := (Unit) ⊕ (Int × Int)) (fun e19 =>
         oite ((ilt e19.2 ((a2.map e_SIII).length : Int))) (
          ogrd ((ile 0 e19.2)) (
          obnd (a2[e19.2.toNat]?) fun (x24 : ByteArray × Int × Int × Int) =>
          obnd (f354 x24.1 x24.2.1 x24.2.2.1 x24.2.2.2 e19.1) fun (y25 : Int) =>
          oite ((!(ieq y25 (0 : Int)))) (
           some (.inr (.inr ((e19.2, y25))))
            ) (
           obnd (a2[e19.2.toNat]?) fun (x29 : ByteArray × Int × Int × Int) =>
           ogrd (fits 16 (e19.1.length + ([x29.1] : List ByteArray).length)) (
           some (.inl (((e19.1 ++ ([x29.1] : List ByteArray)), (IntKind.i64.wrap (e19.2 + (1 : Int))))))
           )
            )
          )
           ) (
          some (.inr (.inl ()))
           )
          ) ((([] : List ByteArray), (0 : Int)))
         ) fun (_ : Unit) =>
       some ((0 : Int), (0 : Int))
        )
       )
      )
     )
    )
set_option maxHeartbeats 1000000 in
theorem c325 [LO]  {a0 : Int} {a1 : Int} {a2 : List (ByteArray × Int × Int × Int)} {x : Int × Int} (H : f325 a0 a1 a2 = some x) : ICalls E 325 [(.agg ⟨[(.int .i64 a0), (.int .i64 a1), (VS 4 (a2.map e_SIII))]⟩)] AHeap.none fun v _ => v = (.tuple ⟨[(.int .i64 x.1), (.int .i64 x.2)]⟩) := by
  refine icalls_fn (pfnw ?_); unfold f325 at H;(conv=>whnf);refine pw_so ?_;refine po_all ?_;(conv=>whnf);refine pw_seq ?_;obtain ⟨r1, h2, H⟩ := obnd_some H;refine pw_join (ρ := Bool) (fun e => ⟨[(1, (.pointer (some ⟨0, 0, none⟩))), (16, (.bool e))], ⟨1, [(0, .rw [(.int .i64 a0), (.int .i64 a1), (VS 4 (a2.map e_SIII))])], false⟩⟩) r1 ?_ ?_
  · refine pw_ops ?_;refine po_all ?_;(conv=>whnf);obtain ⟨y5, h6, h2⟩ := obnd_some h2;refine (c15 h6).go ?_;(conv=>whnf);refine pbr_oite h2 (fun g7 h2 => ?_) (fun g7 h2 => ?_)
    · (conv=>whnf);refine pbr_t g7 ?_;(conv=>whnf);refine pbr_t g7 ?_;(conv=>whnf);refine pbr_t g7 ?_;(conv=>whnf);refine pbr_t g7 ?_;(conv=>whnf);cases h2;exact ⟨(.cons rfl (.cons rfl .nil)), rfl⟩
    · (conv=>whnf);refine pbr_f g7 ?_;(conv=>whnf);refine pbr_f g7 ?_;(conv=>whnf);obtain ⟨y8, h9, h2⟩ := obnd_some h2;refine (c15 h9).go ?_;(conv=>whnf);refine pbr_f g7 ?_;(conv=>whnf);refine pbr_f g7 ?_;(conv=>whnf);cases h2;exact ⟨(.cons rfl (.cons rfl .nil)), rfl⟩
  · refine pw_cond ?_;(conv=>whnf);refine pbr_oite H (fun g10 H => ?_) (fun g10 H => ?_)
    · (conv=>whnf);refine pw_so ?_;refine po_all ?_;(conv=>whnf);refine pw_ret ?_;(conv=>whnf);cases H; rfl
    · (conv=>whnf);refine pw_skip ?_;(conv=>whnf);refine pw_seq ?_;refine pw_so ?_;refine po_all ?_;(conv=>whnf);refine pw_cond ?_;(conv=>whnf);refine pbr_oite H (fun g11 H => ?_) (fun g11 H => ?_)
      · (conv=>whnf);refine pw_so ?_;refine po_all ?_;(conv=>whnf);refine pw_ret ?_;(conv=>whnf);cases H; rfl
      · (conv=>whnf);refine pw_skip ?_;(conv=>whnf);refine pw_seq ?_;refine pw_so ?_;refine po_all ?_;(conv=>whnf);refine pw_cond ?_;(conv=>whnf);refine pbr_oite H (fun g12 H => ?_) (fun g12 H => ?_)
        · (conv=>whnf);refine pw_so ?_;refine po_all ?_;(conv=>whnf);refine pw_ret ?_;(conv=>whnf);cases H; rfl
        · (conv=>whnf);refine pw_skip ?_;(conv=>whnf);refine pw_seq ?_;refine pw_so ?_;refine po_all ?_;(conv=>whnf);refine pw_cond ?_;(conv=>whnf);refine pbr_oite H (fun g13 H => ?_) (fun g13 H => ?_)
          · (conv=>whnf);refine pw_so ?_;refine po_all ?_;(conv=>whnf);refine pw_ret ?_;(conv=>whnf);cases H; rfl
          · (conv=>whnf);refine pw_skip ?_;(conv=>whnf);refine pw_seq ?_;refine pw_so ?_;refine po_all ?_;(conv=>whnf);refine pw_cond ?_;(conv=>whnf);refine pbr_oite H (fun g14 H => ?_) (fun g14 H => ?_)
            · (conv=>whnf);refine pw_so ?_;refine po_all ?_;(conv=>whnf);refine pw_ret ?_;(conv=>whnf);cases H; rfl
            · (conv=>whnf);refine pw_skip ?_;(conv=>whnf);refine pw_so ?_;refine po_all ?_;(conv=>whnf);obtain ⟨r15, h16, h17, h18⟩ := obndS_some H;refine pw_joinSR (ρ := Unit) (fun e => ⟨[], ⟨1, [(0, .rw [(.int .i64 a0), (.int .i64 a1), (VS 4 (a2.map e_SIII))])], false⟩⟩) r15 ?_ ?_
              · refine pw_so ?_;refine po_all ?_;(conv=>whnf);refine pw_block ?_;refine pw_loop (τ := (List ByteArray) × Int) (fun e => ⟨[(1, (.pointer (some ⟨0, 0, none⟩))), (4, (VT 1 (e.1.map eS) 1)), (5, (.int .i64 e.2))], ⟨2, [(1, .tail (e.1.map eS).length 1), (0, .rw [(.int .i64 a0), (.int .i64 a1), (VS 4 (a2.map e_SIII))])], false⟩⟩) h16 ?_ (fun _ => Nat.le_of_ble_eq_true rfl) ?_
                · exact (Recast.nilTs 1 (Nat.le_of_ble_eq_true rfl) (.same rfl (.turn rfl (.same rfl .nil))))
                · intro e19 x20 h21;refine pw_seq ?_;refine pw_so ?_;refine po_all ?_;(conv=>whnf);refine pw_cond ?_;(conv=>whnf);refine pbr_oite h21 (fun g22 h21 => ?_) (fun g22 h21 => ?_)
                  · (conv=>whnf);refine pw_skip ?_;(conv=>whnf);refine pw_seq ?_;refine pw_block ?_;refine pw_seq ?_;refine pw_so ?_;refine po_all ?_;(conv=>whnf);refine pbr_ogrd h21 (fun g23 h21 => ?_);(conv=>whnf);refine nth_o (l := a2) h21 (fun x24 _ h21 => ?_);(conv=>whnf);obtain ⟨y25, h26, h21⟩ := obnd_some h21;refine ICalls.goW (c354 h26) (.cons (.refl _) (.cons (.vt _ _ _) .nil)) ?_;(conv=>whnf);refine pw_so ?_;refine po_all ?_;(conv=>whnf);refine pw_cond ?_;(conv=>whnf);refine pbr_oite h21 (fun g27 h21 => ?_) (fun g27 h21 => ?_)
                    · (conv=>whnf);refine pw_so ?_;refine po_all ?_;(conv=>whnf);refine pw_ret ?_;(conv=>whnf);cases h21;refine ⟨_, rfl, ?_⟩; rintro rfl;(conv=>whnf);obtain rfl := h18 _ rfl; rfl
                    · (conv=>whnf);refine pw_skip ?_;(conv=>whnf);refine pw_ops ?_;refine po_all ?_;(conv=>whnf);refine pbr_t g23 ?_;(conv=>whnf);refine nth_o (l := a2) h21 (fun x29 _ h21 => ?_);(conv=>whnf);refine app_o (l := e19.1) (m := ([x29.1] : List ByteArray)) (f := eS) h21 (by rfl) (by rfl) (by rfl) (fun h21 => ?_);(conv=>whnf);refine pw_ops ?_;refine po_all ?_;(conv=>whnf);cases h21;refine ⟨_, rfl, ?_⟩;refine Recast.trunc (Nat.le_of_ble_eq_true rfl) ?_ ?_
                      · repeat (first | exact .nil | refine .cons rfl (by first | exact OBnd.rwc (Nat.le_of_ble_eq_true rfl) rfl | exact OBnd.tail (Nat.le_of_ble_eq_true rfl) | trivial) ?_)
                      · repeat (first | exact .nil | refine .cons rfl (by first | exact Bnd.ptr (Nat.le_of_ble_eq_true rfl) | exact Bnd.vt (Nat.le_of_ble_eq_true rfl) | exact Bnd.cl) ?_)
                  · (conv=>whnf);refine pw_exit ?_;(conv=>whnf);cases h21;refine ⟨_, rfl, ?_⟩; rintro rfl;(conv=>whnf);refine ⟨_, rfl, ?_⟩;exact Recast.fz (fun _ => false) (Nat.le_of_ble_eq_true rfl) (.cons (.same rfl rfl (OBnd.rwl (Nat.le_of_ble_eq_true rfl) rfl (.cons .cl (.cons .cl (.cons .cl .nil))))) .nil) .nil
              · intro r31 hr; have H := h17 _ hr;refine pw_so ?_;refine po_all ?_;(conv=>whnf);refine pw_ret ?_;(conv=>whnf);cases H; rfl

/-- guidevane/guidevaneref08.PlantErr -/
noncomputable def f347 [LO]  (a0 : Int) (a1 : Int) (a2 : List (ByteArray × Int × Int × Int)) : Option Int :=
  obnd (f325 a0 a1 a2) fun (y1 : Int × Int) =>
  some y1.2
set_option maxHeartbeats 1000000 in
theorem c347 [LO]  {a0 : Int} {a1 : Int} {a2 : List (ByteArray × Int × Int × Int)} {x : Int} (H : f347 a0 a1 a2 = some x) : ICalls E 347 [(.agg ⟨[(.int .i64 a0), (.int .i64 a1), (VS 4 (a2.map e_SIII))]⟩)] AHeap.none fun v _ => v = (.int .i64 x) := by
  refine icalls_fn (pfnw ?_); unfold f347 at H;(conv=>whnf);refine pw_so ?_;refine po_all ?_;(conv=>whnf);refine pw_so ?_;refine po_all ?_;(conv=>whnf);obtain ⟨y1, h2, H⟩ := obnd_some H;refine (c325 h2).go ?_;(conv=>whnf);refine pw_so ?_;refine po_all ?_;(conv=>whnf);refine pw_ret ?_;(conv=>whnf);cases H; rfl

/-- guidevane/guidevaneref08.isPrice -/
noncomputable def f355  (a0 : Int) : Option Bool :=
  obnd (f15 a0 (-10000 : Int) (10000 : Int)) fun (y1 : Bool) =>
  some y1
set_option maxHeartbeats 1000000 in
theorem c355  {a0 : Int} {x : Bool} (H : f355 a0 = some x) : ICalls E 355 [(.int .i64 a0)] AHeap.none fun v _ => v = (.bool x) := by
  refine icalls_fn (pfnw ?_); unfold f355 at H;(conv=>whnf);refine pw_so ?_;refine po_all ?_;(conv=>whnf);refine pw_so ?_;refine po_all ?_;(conv=>whnf);obtain ⟨y1, h2, H⟩ := obnd_some H;refine (c15 h2).go ?_;(conv=>whnf);refine pw_ret ?_;(conv=>whnf);cases H; rfl

/-- guidevane/guidevaneref08.CheckTask -/
noncomputable def f326 [LO]  (a0 : Int) (a1 : Int) (a2 : List (ByteArray × Int × Int × Int)) (a3 : Int) (a4 : Int) (a5 : Int) (a6 : List (Int × Int × Int)) : Option (Int × Int) :=
  obnd (f347 a0 a1 a2) fun (y1 : Int) =>
  oite ((!(ieq y1 (0 : Int)))) (
   some ((0 : Int), y1)
    ) (
   obnd (f15 a3 a0 a1) fun (y4 : Bool) =>
   oite (!y4) (
    some ((0 : Int), (2 : Int))
     ) (
    obnd (f15 a4 (0 : Int) ((IntKind.i64.wrap (((a2.map e_SIII).length : Int) - (1 : Int))))) fun (y7 : Bool) =>
    oite (!y7) (
     some ((0 : Int), (6 : Int))
      ) (
     obnd (f355 a5) fun (y10 : Bool) =>
     oite (!y10) (
      some ((0 : Int), (2 : Int))
       ) (
      oite ((ieq ((a6.map e_III).length : Int) (0 : Int))) (
       some ((0 : Int), (10 : Int))
        ) (
       oite ((ilt (10 : Int) ((a6.map e_III).length : Int))) (
        some ((0 : Int), (8 : Int))
         ) (
        obndS (
         oloop (τ := Int) (ρ := (Unit) ⊕ (Int × Int)) (fun e19 =>
          oite ((ilt e19 ((a6.map e_III).length : Int))) (
           ogrd ((ile 0 e19)) (
           obnd (a6[e19.toNat]?) fun (x24 : Int × Int × Int) =>
           obnd (
            obnd (f355 x24.1) fun (y29 : Bool) =>
            obnd (
             oite (!y29) (
              some true
               ) (
              obnd (f355 x24.2.1) fun (y34 : Bool) =>
              some (!y34)
               )
              ) fun (r31 : Bool) =>
            oite r31 (
             some true
              ) (
             obnd (f355 x24.2.2) fun (y37 : Bool) =>
             some (!y37)
              )
             ) fun (r25 : Bool) =>
           oite r25 (
            some (.inr (.inr ((e19, (2 : Int)))))
             ) (
            oite ((ilt x24.1 x24.2.1)) (
             some (.inr (.inr ((e19, (9 : Int)))))
              ) (
             some (.inl (IntKind.i64.wrap (e19 + (1 : Int))))
              )
             )
           )
            ) (
           some (.inr (.inl ()))
            )
           ) (0 : Int)
          ) fun (_ : Unit) =>
        some ((0 : Int), (0 : Int))
         )
        )
       )
      )
     )
    )
set_option maxHeartbeats 1000000 in
theorem c326 [LO]  {a0 : Int} {a1 : Int} {a2 : List (ByteArray × Int × Int × Int)} {a3 : Int} {a4 : Int} {a5 : Int} {a6 : List (Int × Int × Int)} {x : Int × Int} (H : f326 a0 a1 a2 a3 a4 a5 a6 = some x) : ICalls E 326 [(.agg ⟨[(.int .i64 a0), (.int .i64 a1), (VS 4 (a2.map e_SIII))]⟩), (.agg ⟨[(.int .i64 a3), (.int .i64 a4), (.int .i64 a5), (VS 3 (a6.map e_III))]⟩)] AHeap.none fun v _ => v = (.tuple ⟨[(.int .i64 x.1), (.int .i64 x.2)]⟩) := by
  refine icalls_fn (pfnw ?_); unfold f326 at H;(conv=>whnf);refine pw_so ?_;refine po_all ?_;(conv=>whnf);refine pw_seq ?_;refine pw_so ?_;refine po_all ?_;(conv=>whnf);obtain ⟨y1, h2, H⟩ := obnd_some H;refine (c347 h2).go ?_;(conv=>whnf);refine pw_so ?_;refine po_all ?_;(conv=>whnf);refine pw_cond ?_;(conv=>whnf);refine pbr_oite H (fun g3 H => ?_) (fun g3 H => ?_)
  · (conv=>whnf);refine pw_so ?_;refine po_all ?_;(conv=>whnf);refine pw_ret ?_;(conv=>whnf);cases H; rfl
  · (conv=>whnf);refine pw_skip ?_;(conv=>whnf);refine pw_seq ?_;refine pw_so ?_;refine po_all ?_;(conv=>whnf);obtain ⟨y4, h5, H⟩ := obnd_some H;refine (c15 h5).go ?_;(conv=>whnf);refine pw_cond ?_;(conv=>whnf);refine pbr_oite H (fun g6 H => ?_) (fun g6 H => ?_)
    · (conv=>whnf);refine pw_so ?_;refine po_all ?_;(conv=>whnf);refine pw_ret ?_;(conv=>whnf);cases H; rfl
    · (conv=>whnf);refine pw_skip ?_;(conv=>whnf);refine pw_seq ?_;refine pw_so ?_;refine po_all ?_;(conv=>whnf);obtain ⟨y7, h8, H⟩ := obnd_some H;refine (c15 h8).go ?_;(conv=>whnf);refine pw_cond ?_;(conv=>whnf);refine pbr_oite H (fun g9 H => ?_) (fun g9 H => ?_)
      · (conv=>whnf);refine pw_so ?_;refine po_all ?_;(conv=>whnf);refine pw_ret ?_;(conv=>whnf);cases H; rfl
      · (conv=>whnf);refine pw_skip ?_;(conv=>whnf);refine pw_seq ?_;refine pw_so ?_;refine po_all ?_;(conv=>whnf);obtain ⟨y10, h11, H⟩ := obnd_some H;refine (c355 h11).go ?_;(conv=>whnf);refine pw_cond ?_;(conv=>whnf);refine pbr_oite H (fun g12 H => ?_) (fun g12 H => ?_)
        · (conv=>whnf);refine pw_so ?_;refine po_all ?_;(conv=>whnf);refine pw_ret ?_;(conv=>whnf);cases H; rfl
        · (conv=>whnf);refine pw_skip ?_;(conv=>whnf);refine pw_seq ?_;refine pw_so ?_;refine po_all ?_;(conv=>whnf);refine pw_cond ?_;(conv=>whnf);refine pbr_oite H (fun g13 H => ?_) (fun g13 H => ?_)
          · (conv=>whnf);refine pw_so ?_;refine po_all ?_;(conv=>whnf);refine pw_ret ?_;(conv=>whnf);cases H; rfl
          · (conv=>whnf);refine pw_skip ?_;(conv=>whnf);refine pw_seq ?_;refine pw_so ?_;refine po_all ?_;(conv=>whnf);refine pw_cond ?_;(conv=>whnf);refine pbr_oite H (fun g14 H => ?_) (fun g14 H => ?_)
            · (conv=>whnf);refine pw_so ?_;refine po_all ?_;(conv=>whnf);refine pw_ret ?_;(conv=>whnf);cases H; rfl
            · (conv=>whnf);refine pw_skip ?_;(conv=>whnf);obtain ⟨r15, h16, h17, h18⟩ := obndS_some H;refine pw_joinS (ρ := Unit) (fun e => ⟨[], ⟨2, [(1, .rw [(.int .i64 a3), (.int .i64 a4), (.int .i64 a5), (VS 3 (a6.map e_III))]), (0, .rw [(.int .i64 a0), (.int .i64 a1), (VS 4 (a2.map e_SIII))])], false⟩⟩) r15 ?_ ?_
              · refine pw_so ?_;refine po_all ?_;(conv=>whnf);refine pw_block ?_;refine pw_loop (τ := Int) (fun e => ⟨[(3, (.pointer (some ⟨1, 0, none⟩))), (7, (.int .i64 e))], ⟨2, [(1, .rw [(.int .i64 a3), (.int .i64 a4), (.int .i64 a5), (VS 3 (a6.map e_III))]), (0, .rw [(.int .i64 a0), (.int .i64 a1), (VS 4 (a2.map e_SIII))])], false⟩⟩) h16 ?_ (fun _ => Nat.le_of_ble_eq_true rfl) ?_
                · exact .sub' (Nat.le_of_ble_eq_true rfl) (.cons rfl (.cons rfl .nil))
                · intro e19 x20 h21;refine pw_seq ?_;refine pw_so ?_;refine po_all ?_;(conv=>whnf);refine pw_cond ?_;(conv=>whnf);refine pbr_oite h21 (fun g22 h21 => ?_) (fun g22 h21 => ?_)
                  · (conv=>whnf);refine pw_skip ?_;(conv=>whnf);refine pw_seq ?_;refine pw_block ?_;refine pw_so ?_;refine po_all ?_;(conv=>whnf);refine pbr_ogrd h21 (fun g23 h21 => ?_);(conv=>whnf);refine nth_o (l := a6) h21 (fun x24 _ h21 => ?_);(conv=>whnf);refine pw_seq ?_;obtain ⟨r25, h26, h21⟩ := obnd_some h21;refine pw_join (ρ := Bool) (fun e => ⟨[(3, (.pointer (some ⟨1, 0, none⟩))), (7, (.int .i64 e19)), (8, (.pointer (some ⟨2, 0, none⟩))), (69, (.bool e))], ⟨3, [(2, .rw [(.int .i64 x24.1), (.int .i64 x24.2.1), (.int .i64 x24.2.2)]), (1, .rw [(.int .i64 a3), (.int .i64 a4), (.int .i64 a5), (VS 3 (a6.map e_III))]), (0, .rw [(.int .i64 a0), (.int .i64 a1), (VS 4 (a2.map e_SIII))])], false⟩⟩) r25 ?_ ?_
                    · refine pw_ops ?_;refine po_ops 5 ?_;(conv=>whnf);obtain ⟨y29, h30, h26⟩ := obnd_some h26;refine (c355 h30).go ?_;(conv=>whnf);obtain ⟨r31, h32, h26⟩ := obnd_some h26;refine po_seg (τ := Bool) 5 (fun e => ⟨[(3, (.pointer (some ⟨1, 0, none⟩))), (7, (.int .i64 e19)), (8, (.pointer (some ⟨2, 0, none⟩))), (63, (.bool e))], ⟨3, [(2, .rw [(.int .i64 x24.1), (.int .i64 x24.2.1), (.int .i64 x24.2.2)]), (1, .rw [(.int .i64 a3), (.int .i64 a4), (.int .i64 a5), (VS 3 (a6.map e_III))]), (0, .rw [(.int .i64 a0), (.int .i64 a1), (VS 4 (a2.map e_SIII))])], false⟩⟩) r31 ?_ ?_
                      · refine po_all ?_;(conv=>whnf);refine pbr_oite h32 (fun g33 h32 => ?_) (fun g33 h32 => ?_)
                        · (conv=>whnf);refine pbr_t g33 ?_;(conv=>whnf);refine pbr_t g33 ?_;(conv=>whnf);refine pbr_t g33 ?_;(conv=>whnf);refine pbr_t g33 ?_;(conv=>whnf);cases h32;exact ⟨(.cons rfl (.cons rfl (.cons rfl (.cons rfl .nil)))), rfl⟩
                        · (conv=>whnf);refine pbr_f g33 ?_;(conv=>whnf);refine pbr_f g33 ?_;(conv=>whnf);obtain ⟨y34, h35, h32⟩ := obnd_some h32;refine (c355 h35).go ?_;(conv=>whnf);refine pbr_f g33 ?_;(conv=>whnf);refine pbr_f g33 ?_;(conv=>whnf);cases h32;exact ⟨(.cons rfl (.cons rfl (.cons rfl (.cons rfl .nil)))), rfl⟩
                      · refine po_all ?_;(conv=>whnf);refine pbr_oite h26 (fun g36 h26 => ?_) (fun g36 h26 => ?_)
                        · (conv=>whnf);refine pbr_t g36 ?_;(conv=>whnf);refine pbr_t g36 ?_;(conv=>whnf);refine pbr_t g36 ?_;(conv=>whnf);refine pbr_t g36 ?_;(conv=>whnf);cases h26;exact ⟨(.cons rfl (.cons rfl (.cons rfl (.cons rfl .nil)))), rfl⟩
                        · (conv=>whnf);refine pbr_f g36 ?_;(conv=>whnf);refine pbr_f g36 ?_;(conv=>whnf);obtain ⟨y37, h38, h26⟩ := obnd_some h26;refine (c355 h38).go ?_;(conv=>whnf);refine pbr_f g36 ?_;(conv=>whnf);refine pbr_f g36 ?_;(conv=>whnf);cases h26;exact ⟨(.cons rfl (.cons rfl (.cons rfl (.cons rfl .nil)))), rfl⟩
                    · refine pw_cond ?_;(conv=>whnf);refine pbr_oite h21 (fun g39 h21 => ?_) (fun g39 h21 => ?_)
                      · (conv=>whnf);refine pw_so ?_;refine po_all ?_;(conv=>whnf);refine pw_ret ?_;(conv=>whnf);cases h21;refine ⟨_, rfl, ?_⟩; rintro rfl;(conv=>whnf);obtain rfl := h18 _ rfl; rfl
                      · (conv=>whnf);refine pw_skip ?_;(conv=>whnf);refine pw_so ?_;refine po_all ?_;(conv=>whnf);refine pw_cond ?_;(conv=>whnf);refine pbr_oite h21 (fun g41 h21 => ?_) (fun g41 h21 => ?_)
                        · (conv=>whnf);refine pw_so ?_;refine po_all ?_;(conv=>whnf);refine pw_ret ?_;(conv=>whnf);cases h21;refine ⟨_, rfl, ?_⟩; rintro rfl;(conv=>whnf);obtain rfl := h18 _ rfl; rfl
                        · (conv=>whnf);refine pw_skip ?_;(conv=>whnf);refine pw_ops ?_;refine po_all ?_;(conv=>whnf);cases h21;refine ⟨_, rfl, ?_⟩;refine Recast.trunc (Nat.le_of_ble_eq_true rfl) ?_ ?_
                          · repeat (first | exact .nil | refine .cons rfl (by first | exact OBnd.rwc (Nat.le_of_ble_eq_true rfl) rfl | exact OBnd.tail (Nat.le_of_ble_eq_true rfl) | trivial) ?_)
                          · repeat (first | exact .nil | refine .cons rfl (by first | exact Bnd.ptr (Nat.le_of_ble_eq_true rfl) | exact Bnd.vt (Nat.le_of_ble_eq_true rfl) | exact Bnd.cl) ?_)
                  · (conv=>whnf);refine pw_exit ?_;(conv=>whnf);cases h21;refine ⟨_, rfl, ?_⟩; rintro rfl;(conv=>whnf);exact ⟨_, rfl, ⟨.nil, rfl⟩⟩
              · intro r44 hr; have H := h17 _ hr;refine pw_so ?_;refine po_all ?_;(conv=>whnf);refine pw_ret ?_;(conv=>whnf);cases H; rfl

/-- guidevane/guidevaneref08.Volumes -/
noncomputable def f328 [LO]  (_ : Int) (_ : Int) (a2 : List (ByteArray × Int × Int × Int)) (a3 : Int) (_ : Int) (_ : Int) (a6 : List (Int × Int × Int)) (a7 : List Int) : Option ((List Int)) :=
  obnd (
   oloop (τ := (List Int) × Int) (ρ := (List Int)) (fun e5 =>
    oite ((ilt e5.2 ((a7.map eI).length : Int))) (
     ogrd ((ile 0 e5.2)) (
     obnd (e5.1[e5.2.toNat]?) fun (x10 : Int) =>
     obnd (a6[e5.2.toNat]?) fun (x11 : Int × Int × Int) =>
     obnd (a7[e5.2.toNat]?) fun (x12 : Int) =>
     ogrd ((ile 0 x12)) (
     obnd (a2[x12.toNat]?) fun (x14 : ByteArray × Int × Int × Int) =>
     ogrd (fits 8 (e5.1.length + ([(IntKind.i64.wrap ((IntKind.i64.wrap (x10 + x11.2.2)) + x14.2.1))] : List Int).length)) (
     some (.inl (((e5.1 ++ ([(IntKind.i64.wrap ((IntKind.i64.wrap (x10 + x11.2.2)) + x14.2.1))] : List Int)), (IntKind.i64.wrap (e5.2 + (1 : Int))))))
     )
     )
     )
      ) (
     some (.inr (e5.1))
      )
     ) ((([a3] : List Int), (0 : Int)))
    ) fun (r1 : (List Int)) =>
  some r1
set_option maxHeartbeats 1000000 in
theorem c328 [LO]  {a0 : Int} {a1 : Int} {a2 : List (ByteArray × Int × Int × Int)} {a3 : Int} {a4 : Int} {a5 : Int} {a6 : List (Int × Int × Int)} {a7 : List Int} {x : (List Int)} (H : f328 a0 a1 a2 a3 a4 a5 a6 a7 = some x) : ICalls E 328 [(.agg ⟨[(.int .i64 a0), (.int .i64 a1), (VS 4 (a2.map e_SIII))]⟩), (.agg ⟨[(.int .i64 a3), (.int .i64 a4), (.int .i64 a5), (VS 3 (a6.map e_III))]⟩), (VS 1 (a7.map eI))] AHeap.none fun v _ => v = (VS 1 (x.map eI)) := by
  refine ICalls.frz ?_;refine icalls_fn (pfnw ?_); unfold f328 at H;(conv=>whnf);refine pw_so ?_;refine po_all ?_;(conv=>whnf);refine pw_so ?_;refine po_all ?_;(conv=>whnf);obtain ⟨r1, h2, H⟩ := obnd_some H;refine pw_join (ρ := (List Int)) (fun e => ⟨[(7, (VT 1 (e.map eI) 2))], ⟨3, [(2, .tail (e.map eI).length 1), (1, .rw [(.int .i64 a3), (.int .i64 a4), (.int .i64 a5), (VS 3 (a6.map e_III))]), (0, .rw [(.int .i64 a0), (.int .i64 a1), (VS 4 (a2.map e_SIII))])], false⟩⟩) r1 ?_ ?_
  · refine pw_so ?_;refine po_all ?_;(conv=>whnf);refine pw_block ?_;refine pw_loop (τ := (List Int) × Int) (fun e => ⟨[(2, (VS 1 (a7.map eI))), (3, (.pointer (some ⟨0, 0, none⟩))), (4, (.pointer (some ⟨1, 0, none⟩))), (7, (VT 1 (e.1.map eI) 2)), (8, (.int .i64 e.2))], ⟨3, [(2, .tail (e.1.map eI).length 1), (1, .rw [(.int .i64 a3), (.int .i64 a4), (.int .i64 a5), (VS 3 (a6.map e_III))]), (0, .rw [(.int .i64 a0), (.int .i64 a1), (VS 4 (a2.map e_SIII))])], false⟩⟩) h2 ?_ (fun _ => Nat.le_of_ble_eq_true rfl) ?_
    · exact .sub' (Nat.le_of_ble_eq_true rfl) (.cons rfl (.cons rfl (.cons rfl (.cons rfl (.cons rfl .nil)))))
    · intro e5 x6 h7;refine pw_seq ?_;refine pw_so ?_;refine po_all ?_;(conv=>whnf);refine pw_cond ?_;(conv=>whnf);refine pbr_oite h7 (fun g8 h7 => ?_) (fun g8 h7 => ?_)
      · (conv=>whnf);refine pw_skip ?_;(conv=>whnf);refine pw_seq ?_;refine pw_block ?_;refine pw_draw ?_;(conv=>whnf);refine pbr_ogrd h7 (fun g9 h7 => ?_);(conv=>whnf);refine nth_o (l := e5.1) h7 (fun x10 _ h7 => ?_);(conv=>whnf);refine pbr_t g9 ?_;(conv=>whnf);refine nth_o (l := a6) h7 (fun x11 _ h7 => ?_);(conv=>whnf);refine pbr_t g9 ?_;(conv=>whnf);refine nth_o (l := a7) h7 (fun x12 _ h7 => ?_);(conv=>whnf);refine pbr_ogrd h7 (fun g13 h7 => ?_);(conv=>whnf);refine nth_o (l := a2) h7 (fun x14 _ h7 => ?_);(conv=>whnf);refine ⟨?_, trivial⟩;(conv=>whnf);refine ⟨by repeat (first | exact trivial | refine And.intro rfl ?_), ?_⟩
        (conv=>whnf);refine ⟨?_, trivial⟩;(conv=>whnf);refine app_o (l := e5.1) (m := ([(IntKind.i64.wrap ((IntKind.i64.wrap (x10 + x11.2.2)) + x14.2.1))] : List Int)) (f := eI) h7 (by rfl) (by rfl) (by rfl) (fun h7 => ?_);(conv=>whnf);refine ⟨by repeat (first | exact trivial | refine And.intro rfl ?_), ?_⟩;(conv=>whnf);refine ⟨?_, trivial⟩;(conv=>whnf);refine ⟨by repeat (first | exact trivial | refine And.intro rfl ?_), ?_⟩;(conv=>whnf);refine pw_ops ?_;refine po_all ?_;(conv=>whnf);cases h7;refine ⟨_, rfl, ?_⟩;refine Recast.trunc (Nat.le_of_ble_eq_true rfl) ?_ ?_
        · repeat (first | exact .nil | refine .cons rfl (by first | exact OBnd.rwc (Nat.le_of_ble_eq_true rfl) rfl | exact OBnd.tail (Nat.le_of_ble_eq_true rfl) | trivial) ?_)
        · repeat (first | exact .nil | refine .cons rfl (by first | exact Bnd.ptr (Nat.le_of_ble_eq_true rfl) | exact Bnd.vt (Nat.le_of_ble_eq_true rfl) | exact Bnd.cl) ?_)
      · (conv=>whnf);refine pw_exit ?_;(conv=>whnf);cases h7;refine ⟨_, rfl, ?_⟩; rintro rfl;(conv=>whnf);exact ⟨(.cons rfl .nil), rfl⟩
  · refine pw_so ?_;refine po_all ?_;(conv=>whnf);refine pw_ret ?_;(conv=>whnf);cases H; show ∃ D, Fz _ D 0 (VT 1 _ 2) _;exact ⟨fun _ => false, .vtc⟩

/-- guidevane/guidevaneref08.Possible -/
noncomputable def f356 [LO]  (a0 : Int) (a1 : Int) (a2 : List (ByteArray × Int × Int × Int)) (a3 : Int) (a4 : Int) (a5 : Int) (a6 : List (Int × Int × Int)) (a7 : List Int) : Option Bool :=
  obnd (f328 a0 a1 a2 a3 a4 a5 a6 a7) fun (y1 : (List Int)) =>
  obndS (
   oloop (τ := Int) (ρ := (Unit) ⊕ Bool) (fun e7 =>
    oite ((ilt e7 ((y1.map eI).length : Int))) (
     ogrd ((ile 0 e7)) (
     obnd (y1[e7.toNat]?) fun (x12 : Int) =>
     obnd (f15 x12 a0 a1) fun (y13 : Bool) =>
     oite (!y13) (
      some (.inr (.inr (false)))
       ) (
      some (.inl (IntKind.i64.wrap (e7 + (1 : Int))))
       )
     )
      ) (
     some (.inr (.inl ()))
      )
     ) (0 : Int)
    ) fun (_ : Unit) =>
  some true
set_option maxHeartbeats 1000000 in
theorem c356 [LO]  {a0 : Int} {a1 : Int} {a2 : List (ByteArray × Int × Int × Int)} {a3 : Int} {a4 : Int} {a5 : Int} {a6 : List (Int × Int × Int)} {a7 : List Int} {x : Bool} (H : f356 a0 a1 a2 a3 a4 a5 a6 a7 = some x) : ICalls E 356 [(.agg ⟨[(.int .i64 a0), (.int .i64 a1), (VS 4 (a2.map e_SIII))]⟩), (.agg ⟨[(.int .i64 a3), (.int .i64 a4), (.int .i64 a5), (VS 3 (a6.map e_III))]⟩), (VS 1 (a7.map eI))] AHeap.none fun v _ => v = (.bool x) := by
  refine icalls_fn (pfnw ?_); unfold f356 at H;(conv=>whnf);refine pw_so ?_;refine po_all ?_;(conv=>whnf);refine pw_so ?_;refine po_all ?_;(conv=>whnf);obtain ⟨y1, h2, H⟩ := obnd_some H;refine (c328 h2).go ?_;(conv=>whnf);obtain ⟨r3, h4, h5, h6⟩ := obndS_some H;refine pw_joinS (ρ := Unit) (fun e => ⟨[], ⟨2, [(1, .rw [(.int .i64 a3), (.int .i64 a4), (.int .i64 a5), (VS 3 (a6.map e_III))]), (0, .rw [(.int .i64 a0), (.int .i64 a1), (VS 4 (a2.map e_SIII))])], false⟩⟩) r3 ?_ ?_
  · refine pw_so ?_;refine po_all ?_;(conv=>whnf);refine pw_block ?_;refine pw_loop (τ := Int) (fun e => ⟨[(3, (.pointer (some ⟨0, 0, none⟩))), (7, (VS 1 (y1.map eI))), (8, (.int .i64 e))], ⟨2, [(1, .rw [(.int .i64 a3), (.int .i64 a4), (.int .i64 a5), (VS 3 (a6.map e_III))]), (0, .rw [(.int .i64 a0), (.int .i64 a1), (VS 4 (a2.map e_SIII))])], false⟩⟩) h4 ?_ (fun _ => Nat.le_of_ble_eq_true rfl) ?_
    · exact .sub' (Nat.le_of_ble_eq_true rfl) (.cons rfl (.cons rfl (.cons rfl .nil)))
    · intro e7 x8 h9;refine pw_seq ?_;refine pw_so ?_;refine po_all ?_;(conv=>whnf);refine pw_cond ?_;(conv=>whnf);refine pbr_oite h9 (fun g10 h9 => ?_) (fun g10 h9 => ?_)
      · (conv=>whnf);refine pw_skip ?_;(conv=>whnf);refine pw_seq ?_;refine pw_block ?_;refine pw_sd ?_;(conv=>whnf);refine pbr_ogrd h9 (fun g11 h9 => ?_);(conv=>whnf);refine nth_o (l := y1) h9 (fun x12 _ h9 => ?_);(conv=>whnf);refine ⟨?_, trivial⟩;(conv=>whnf);obtain ⟨y13, h14, h9⟩ := obnd_some h9;refine (c15 h14).go ?_;(conv=>whnf);refine ⟨by repeat (first | exact trivial | refine And.intro rfl ?_), ?_⟩;(conv=>whnf);refine pw_cond ?_;(conv=>whnf);refine pbr_oite h9 (fun g15 h9 => ?_) (fun g15 h9 => ?_)
        · (conv=>whnf);refine pw_so ?_;refine po_all ?_;(conv=>whnf);refine pw_ret ?_;(conv=>whnf);cases h9;refine ⟨_, rfl, ?_⟩; rintro rfl;(conv=>whnf);obtain rfl := h6 _ rfl; rfl
        · (conv=>whnf);refine pw_skip ?_;(conv=>whnf);refine pw_ops ?_;refine po_all ?_;(conv=>whnf);cases h9;refine ⟨_, rfl, ?_⟩;exact .sub' (Nat.le_of_ble_eq_true rfl) (.cons rfl (.cons rfl (.cons rfl .nil)))
      · (conv=>whnf);refine pw_exit ?_;(conv=>whnf);cases h9;refine ⟨_, rfl, ?_⟩; rintro rfl;(conv=>whnf);exact ⟨_, rfl, ⟨.nil, rfl⟩⟩
  · intro r18 hr; have H := h5 _ hr;refine pw_so ?_;refine po_all ?_;(conv=>whnf);refine pw_ret ?_;(conv=>whnf);cases H; rfl

/-- guidevane/guidevaneref08.PlanErr -/
noncomputable def f327 [LO]  (a0 : Int) (a1 : Int) (a2 : List (ByteArray × Int × Int × Int)) (a3 : Int) (a4 : Int) (a5 : Int) (a6 : List (Int × Int × Int)) (a7 : List Int) : Option Int :=
  oite ((!(ieq ((a7.map eI).length : Int) ((a6.map e_III).length : Int)))) (
   some (10 : Int)
    ) (
   obndS (
    oloop (τ := Int) (ρ := (Unit) ⊕ Int) (fun e6 =>
     oite ((ilt e6 ((a7.map eI).length : Int))) (
      ogrd ((ile 0 e6)) (
      obnd (a7[e6.toNat]?) fun (x11 : Int) =>
      obnd (f15 x11 (0 : Int) ((IntKind.i64.wrap (((a2.map e_SIII).length : Int) - (1 : Int))))) fun (y12 : Bool) =>
      oite (!y12) (
       some (.inr (.inr ((6 : Int))))
        ) (
       some (.inl (IntKind.i64.wrap (e6 + (1 : Int))))
        )
      )
       ) (
      some (.inr (.inl ()))
       )
      ) (0 : Int)
     ) fun (_ : Unit) =>
   obnd (f356 a0 a1 a2 a3 a4 a5 a6 a7) fun (y18 : Bool) =>
   oite (!y18) (
    some (22 : Int)
     ) (
    some (0 : Int)
     )
    )
set_option maxHeartbeats 1000000 in
theorem c327 [LO]  {a0 : Int} {a1 : Int} {a2 : List (ByteArray × Int × Int × Int)} {a3 : Int} {a4 : Int} {a5 : Int} {a6 : List (Int × Int × Int)} {a7 : List Int} {x : Int} (H : f327 a0 a1 a2 a3 a4 a5 a6 a7 = some x) : ICalls E 327 [(.agg ⟨[(.int .i64 a0), (.int .i64 a1), (VS 4 (a2.map e_SIII))]⟩), (.agg ⟨[(.int .i64 a3), (.int .i64 a4), (.int .i64 a5), (VS 3 (a6.map e_III))]⟩), (VS 1 (a7.map eI))] AHeap.none fun v _ => v = (.int .i64 x) := by
  refine icalls_fn (pfnw ?_); unfold f327 at H;(conv=>whnf);refine pw_so ?_;refine po_all ?_;(conv=>whnf);refine pw_seq ?_;refine pw_so ?_;refine po_all ?_;(conv=>whnf);refine pw_cond ?_;(conv=>whnf);refine pbr_oite H (fun g1 H => ?_) (fun g1 H => ?_)
  · (conv=>whnf);refine pw_so ?_;refine po_all ?_;(conv=>whnf);refine pw_ret ?_;(conv=>whnf);cases H; rfl
  · (conv=>whnf);refine pw_skip ?_;(conv=>whnf);obtain ⟨r2, h3, h4, h5⟩ := obndS_some H;refine pw_joinS (ρ := Unit) (fun e => ⟨[(2, (VS 1 (a7.map eI))), (3, (.pointer (some ⟨0, 0, none⟩))), (4, (.pointer (some ⟨1, 0, none⟩)))], ⟨2, [(1, .rw [(.int .i64 a3), (.int .i64 a4), (.int .i64 a5), (VS 3 (a6.map e_III))]), (0, .rw [(.int .i64 a0), (.int .i64 a1), (VS 4 (a2.map e_SIII))])], false⟩⟩) r2 ?_ ?_
    · refine pw_so ?_;refine po_all ?_;(conv=>whnf);refine pw_block ?_;refine pw_loop (τ := Int) (fun e => ⟨[(2, (VS 1 (a7.map eI))), (3, (.pointer (some ⟨0, 0, none⟩))), (4, (.pointer (some ⟨1, 0, none⟩))), (7, (.int .i64 e))], ⟨2, [(1, .rw [(.int .i64 a3), (.int .i64 a4), (.int .i64 a5), (VS 3 (a6.map e_III))]), (0, .rw [(.int .i64 a0), (.int .i64 a1), (VS 4 (a2.map e_SIII))])], false⟩⟩) h3 ?_ (fun _ => Nat.le_of_ble_eq_true rfl) ?_
      · exact .sub' (Nat.le_of_ble_eq_true rfl) (.cons rfl (.cons rfl (.cons rfl (.cons rfl .nil))))
      · intro e6 x7 h8;refine pw_seq ?_;refine pw_so ?_;refine po_all ?_;(conv=>whnf);refine pw_cond ?_;(conv=>whnf);refine pbr_oite h8 (fun g9 h8 => ?_) (fun g9 h8 => ?_)
        · (conv=>whnf);refine pw_skip ?_;(conv=>whnf);refine pw_seq ?_;refine pw_block ?_;refine pw_sd ?_;(conv=>whnf);refine pbr_ogrd h8 (fun g10 h8 => ?_);(conv=>whnf);refine nth_o (l := a7) h8 (fun x11 _ h8 => ?_);(conv=>whnf);refine ⟨?_, trivial⟩;(conv=>whnf);obtain ⟨y12, h13, h8⟩ := obnd_some h8;refine (c15 h13).go ?_;(conv=>whnf);refine ⟨by repeat (first | exact trivial | refine And.intro rfl ?_), ?_⟩;(conv=>whnf);refine pw_cond ?_;(conv=>whnf);refine pbr_oite h8 (fun g14 h8 => ?_) (fun g14 h8 => ?_)
          · (conv=>whnf);refine pw_so ?_;refine po_all ?_;(conv=>whnf);refine pw_ret ?_;(conv=>whnf);cases h8;refine ⟨_, rfl, ?_⟩; rintro rfl;(conv=>whnf);obtain rfl := h5 _ rfl; rfl
          · (conv=>whnf);refine pw_skip ?_;(conv=>whnf);refine pw_ops ?_;refine po_all ?_;(conv=>whnf);cases h8;refine ⟨_, rfl, ?_⟩;exact .sub' (Nat.le_of_ble_eq_true rfl) (.cons rfl (.cons rfl (.cons rfl (.cons rfl .nil))))
        · (conv=>whnf);refine pw_exit ?_;(conv=>whnf);cases h8;refine ⟨_, rfl, ?_⟩; rintro rfl;(conv=>whnf);exact ⟨_, rfl, ⟨(.cons rfl (.cons rfl (.cons rfl .nil))), rfl⟩⟩
    · intro r17 hr; have H := h4 _ hr;refine pw_seq ?_;refine pw_so ?_;refine po_all ?_;(conv=>whnf);obtain ⟨y18, h19, H⟩ := obnd_some H;refine (c356 h19).go ?_;(conv=>whnf);refine pw_cond ?_;(conv=>whnf);refine pbr_oite H (fun g20 H => ?_) (fun g20 H => ?_)
      · (conv=>whnf);refine pw_so ?_;refine po_all ?_;(conv=>whnf);refine pw_ret ?_;(conv=>whnf);cases H; rfl
      · (conv=>whnf);refine pw_skip ?_;(conv=>whnf);refine pw_so ?_;refine po_all ?_;(conv=>whnf);refine pw_ret ?_;(conv=>whnf);cases H; rfl

/-- guidevane/guidevaneref08.Revenue -/
noncomputable def f350  (_ : Int) (_ : Int) (a2 : List (ByteArray × Int × Int × Int)) (a3 : Int) (a4 : Int) (_ : Int) (a6 : Int) (a7 : Int) : Option Int :=
  ogrd ((ile 0 a6)) (
  obnd (a2[a6.toNat]?) fun (x2 : ByteArray × Int × Int × Int) =>
  obnd (
   oite ((ilt (0 : Int) x2.2.2.1)) (
    some (IntKind.i64.wrap (x2.2.2.1 * a4))
     ) (
    some (IntKind.i64.wrap (x2.2.2.1 * a3))
     )
    ) fun (r3 : Int) =>
  oite ((!(ieq a6 a7))) (
   some (IntKind.i64.wrap (r3 - x2.2.2.2))
    ) (
   some r3
    )
  )
set_option maxHeartbeats 1000000 in
theorem c350  {a0 : Int} {a1 : Int} {a2 : List (ByteArray × Int × Int × Int)} {a3 : Int} {a4 : Int} {a5 : Int} {a6 : Int} {a7 : Int} {x : Int} (H : f350 a0 a1 a2 a3 a4 a5 a6 a7 = some x) : ICalls E 350 [(.agg ⟨[(.int .i64 a0), (.int .i64 a1), (VS 4 (a2.map e_SIII))]⟩), (.agg ⟨[(.int .i64 a3), (.int .i64 a4), (.int .i64 a5)]⟩), (.int .i64 a6), (.int .i64 a7)] AHeap.none fun v _ => v = (.int .i64 x) := by
  refine icalls_fn (pfnw ?_); unfold f350 at H;(conv=>whnf);refine pw_so ?_;refine po_all ?_;(conv=>whnf);refine pw_so ?_;refine po_all ?_;(conv=>whnf);refine pbr_ogrd H (fun g1 H => ?_);(conv=>whnf);refine nth_o (l := a2) H (fun x2 _ H => ?_);(conv=>whnf);refine pw_so ?_;refine po_all ?_;(conv=>whnf);obtain ⟨r3, h4, H⟩ := obnd_some H;refine pw_join (ρ := Int) (fun e => ⟨[(2, (.int .i64 a6)), (3, (.int .i64 a7)), (9, (.pointer (some ⟨2, 0, none⟩))), (10, (.int .i64 e))], ⟨3, [(2, .rw [(.string x2.1), (.int .i64 x2.2.1), (.int .i64 x2.2.2.1), (.int .i64 x2.2.2.2)]), (1, .rw [(.int .i64 a3), (.int .i64 a4), (.int .i64 a5)]), (0, .rw [(.int .i64 a0), (.int .i64 a1), (VS 4 (a2.map e_SIII))])], false⟩⟩) r3 ?_ ?_
  · refine pw_so ?_;refine po_all ?_;(conv=>whnf);refine pw_cond ?_;(conv=>whnf);refine pbr_oite h4 (fun g7 h4 => ?_) (fun g7 h4 => ?_)
    · (conv=>whnf);refine pw_ops ?_;refine po_all ?_;(conv=>whnf);cases h4;exact ⟨(.cons rfl (.cons rfl (.cons rfl (.cons rfl .nil)))), rfl⟩
    · (conv=>whnf);refine pw_skip ?_;(conv=>whnf);cases h4;exact ⟨(.cons rfl (.cons rfl (.cons rfl (.cons rfl .nil)))), rfl⟩
  · refine pw_seq ?_;refine pw_so ?_;refine po_all ?_;(conv=>whnf);refine pw_cond ?_;(conv=>whnf);refine pbr_oite H (fun g8 H => ?_) (fun g8 H => ?_)
    · (conv=>whnf);refine pw_ops ?_;refine po_all ?_;(conv=>whnf);refine pw_so ?_;refine po_all ?_;(conv=>whnf);refine pw_ret ?_;(conv=>whnf);cases H; rfl
    · (conv=>whnf);refine pw_skip ?_;(conv=>whnf);refine pw_so ?_;refine po_all ?_;(conv=>whnf);refine pw_ret ?_;(conv=>whnf);cases H; rfl

/-- guidevane/guidevaneref08.Value -/
noncomputable def f329 [LO]  (a0 : Int) (a1 : Int) (a2 : List (ByteArray × Int × Int × Int)) (a3 : Int) (a4 : Int) (a5 : Int) (a6 : List (Int × Int × Int)) (a7 : List Int) : Option Int :=
  obnd (
   oloop (τ := Int × Int × Int) (ρ := Int) (fun e5 =>
    oite ((ilt e5.2.2 ((a7.map eI).length : Int))) (
     ogrd ((ile 0 e5.2.2)) (
     obnd (a6[e5.2.2.toNat]?) fun (x10 : Int × Int × Int) =>
     obnd (a7[e5.2.2.toNat]?) fun (x11 : Int) =>
     obnd (f350 a0 a1 a2 x10.1 x10.2.1 x10.2.2 x11 e5.2.1) fun (y12 : Int) =>
     obnd (a7[e5.2.2.toNat]?) fun (x14 : Int) =>
     some (.inl (((IntKind.i64.wrap (e5.1 + y12)), x14, (IntKind.i64.wrap (e5.2.2 + (1 : Int))))))
     )
      ) (
     some (.inr (e5.1))
      )
     ) (((0 : Int), a4, (0 : Int)))
    ) fun (r1 : Int) =>
  obnd (f328 a0 a1 a2 a3 a4 a5 a6 a7) fun (y16 : (List Int)) =>
  ogrd ((ile 0 (IntKind.i64.wrap (((y16.map eI).length : Int) - (1 : Int))))) (
  obnd (y16[(IntKind.i64.wrap (((y16.map eI).length : Int) - (1 : Int))).toNat]?) fun (x19 : Int) =>
  some (IntKind.i64.wrap (r1 + (IntKind.i64.wrap (a5 * x19))))
  )
set_option maxHeartbeats 1000000 in
theorem c329 [LO]  {a0 : Int} {a1 : Int} {a2 : List (ByteArray × Int × Int × Int)} {a3 : Int} {a4 : Int} {a5 : Int} {a6 : List (Int × Int × Int)} {a7 : List Int} {x : Int} (H : f329 a0 a1 a2 a3 a4 a5 a6 a7 = some x) : ICalls E 329 [(.agg ⟨[(.int .i64 a0), (.int .i64 a1), (VS 4 (a2.map e_SIII))]⟩), (.agg ⟨[(.int .i64 a3), (.int .i64 a4), (.int .i64 a5), (VS 3 (a6.map e_III))]⟩), (VS 1 (a7.map eI))] AHeap.none fun v _ => v = (.int .i64 x) := by
  refine icalls_fn (pfnw ?_); unfold f329 at H;(conv=>whnf);refine pw_so ?_;refine po_all ?_;(conv=>whnf);refine pw_sd ?_;(conv=>whnf);obtain ⟨r1, h2, H⟩ := obnd_some H;refine pw_join (ρ := Int) (fun e => ⟨[(2, (VS 1 (a7.map eI))), (3, (.pointer (some ⟨0, 0, none⟩))), (4, (.pointer (some ⟨1, 0, none⟩))), (7, (.int .i64 e))], ⟨2, [(1, .rw [(.int .i64 a3), (.int .i64 a4), (.int .i64 a5), (VS 3 (a6.map e_III))]), (0, .rw [(.int .i64 a0), (.int .i64 a1), (VS 4 (a2.map e_SIII))])], false⟩⟩) r1 ?_ ?_
  · refine pw_so ?_;refine po_all ?_;(conv=>whnf);refine pw_block ?_;refine pw_loop (τ := Int × Int × Int) (fun e => ⟨[(2, (VS 1 (a7.map eI))), (3, (.pointer (some ⟨0, 0, none⟩))), (4, (.pointer (some ⟨1, 0, none⟩))), (7, (.int .i64 e.1)), (8, (.int .i64 e.2.1)), (9, (.int .i64 e.2.2))], ⟨2, [(1, .rw [(.int .i64 a3), (.int .i64 a4), (.int .i64 a5), (VS 3 (a6.map e_III))]), (0, .rw [(.int .i64 a0), (.int .i64 a1), (VS 4 (a2.map e_SIII))])], false⟩⟩) h2 ?_ (fun _ => Nat.le_of_ble_eq_true rfl) ?_
    · exact .sub' (Nat.le_of_ble_eq_true rfl) (.cons rfl (.cons rfl (.cons rfl (.cons rfl (.cons rfl (.cons rfl .nil))))))
    · intro e5 x6 h7;refine pw_seq ?_;refine pw_so ?_;refine po_all ?_;(conv=>whnf);refine pw_cond ?_;(conv=>whnf);refine pbr_oite h7 (fun g8 h7 => ?_) (fun g8 h7 => ?_)
      · (conv=>whnf);refine pw_skip ?_;(conv=>whnf);refine pw_seq ?_;refine pw_block ?_;refine pw_sd ?_;(conv=>whnf);refine pbr_ogrd h7 (fun g9 h7 => ?_);(conv=>whnf);refine nth_o (l := a6) h7 (fun x10 _ h7 => ?_);(conv=>whnf);refine pbr_t g9 ?_;(conv=>whnf);refine nth_o (l := a7) h7 (fun x11 _ h7 => ?_);(conv=>whnf);refine ⟨?_, trivial⟩;(conv=>whnf);obtain ⟨y12, h13, h7⟩ := obnd_some h7;refine (c350 h13).go ?_;(conv=>whnf);refine ⟨by repeat (first | exact trivial | refine And.intro rfl ?_), ?_⟩;(conv=>whnf);refine ⟨?_, trivial⟩;(conv=>whnf);refine ⟨by repeat (first | exact trivial | refine And.intro rfl ?_), ?_⟩
        (conv=>whnf);refine pw_ops ?_;refine po_all ?_;(conv=>whnf);refine pbr_t g9 ?_;(conv=>whnf);refine nth_o (l := a7) h7 (fun x14 _ h7 => ?_);(conv=>whnf);refine pw_ops ?_;refine po_all ?_;(conv=>whnf);cases h7;refine ⟨_, rfl, ?_⟩;exact .sub' (Nat.le_of_ble_eq_true rfl) (.cons rfl (.cons rfl (.cons rfl (.cons rfl (.cons rfl (.cons rfl .nil))))))
      · (conv=>whnf);refine pw_exit ?_;(conv=>whnf);cases h7;refine ⟨_, rfl, ?_⟩; rintro rfl;(conv=>whnf);exact ⟨(.cons rfl (.cons rfl (.cons rfl (.cons rfl .nil)))), rfl⟩
  · refine pw_so ?_;refine po_all ?_;(conv=>whnf);obtain ⟨y16, h17, H⟩ := obnd_some H;refine (c328 h17).go ?_;(conv=>whnf);refine pw_sd ?_;(conv=>whnf);refine pbr_ogrd H (fun g18 H => ?_);(conv=>whnf);refine nth_o (l := y16) H (fun x19 _ H => ?_);(conv=>whnf);refine pw_ret ?_;(conv=>whnf);cases H; rfl

/-- guidevane/guidevaneref08.Starts -/
noncomputable def f330 [LO]  (_ : Int) (a1 : Int) (_ : Int) (_ : List (Int × Int × Int)) (a4 : List Int) : Option Int :=
  obnd (
   oloop (τ := Int × Int × Int) (ρ := Int) (fun e5 =>
    oite ((ilt e5.2.2 ((a4.map eI).length : Int))) (
     obnd (
      ogrd ((ile 0 e5.2.2)) (
      obnd (a4[e5.2.2.toNat]?) fun (x14 : Int) =>
      oite ((!(ieq x14 e5.2.1))) (
       some (IntKind.i64.wrap (e5.1 + (1 : Int)))
        ) (
       some e5.1
        )
      )
       ) fun (r9 : Int) =>
     ogrd ((ile 0 e5.2.2)) (
     obnd (a4[e5.2.2.toNat]?) fun (x17 : Int) =>
     some (.inl (r9, x17, (IntKind.i64.wrap (e5.2.2 + (1 : Int)))))
     )
      ) (
     some (.inr (e5.1))
      )
     ) (((0 : Int), a1, (0 : Int)))
    ) fun (r1 : Int) =>
  some r1
set_option maxHeartbeats 1000000 in
theorem c330 [LO]  {a0 : Int} {a1 : Int} {a2 : Int} {a3 : List (Int × Int × Int)} {a4 : List Int} {x : Int} (H : f330 a0 a1 a2 a3 a4 = some x) : ICalls E 330 [(.agg ⟨[(.int .i64 a0), (.int .i64 a1), (.int .i64 a2), (VS 3 (a3.map e_III))]⟩), (VS 1 (a4.map eI))] AHeap.none fun v _ => v = (.int .i64 x) := by
  refine icalls_fn (pfnw ?_); unfold f330 at H;(conv=>whnf);refine pw_so ?_;refine po_all ?_;(conv=>whnf);refine pw_sd ?_;(conv=>whnf);obtain ⟨r1, h2, H⟩ := obnd_some H;refine pw_join (ρ := Int) (fun e => ⟨[(5, (.int .i64 e))], ⟨1, [(0, .rw [(.int .i64 a0), (.int .i64 a1), (.int .i64 a2), (VS 3 (a3.map e_III))])], false⟩⟩) r1 ?_ ?_
  · refine pw_so ?_;refine po_all ?_;(conv=>whnf);refine pw_block ?_;refine pw_loop (τ := Int × Int × Int) (fun e => ⟨[(1, (VS 1 (a4.map eI))), (5, (.int .i64 e.1)), (6, (.int .i64 e.2.1)), (7, (.int .i64 e.2.2))], ⟨1, [(0, .rw [(.int .i64 a0), (.int .i64 a1), (.int .i64 a2), (VS 3 (a3.map e_III))])], false⟩⟩) h2 ?_ (fun _ => Nat.le_of_ble_eq_true rfl) ?_
    · exact .sub' (Nat.le_of_ble_eq_true rfl) (.cons rfl (.cons rfl (.cons rfl (.cons rfl .nil))))
    · intro e5 x6 h7;refine pw_seq ?_;refine pw_so ?_;refine po_all ?_;(conv=>whnf);refine pw_cond ?_;(conv=>whnf);refine pbr_oite h7 (fun g8 h7 => ?_) (fun g8 h7 => ?_)
      · (conv=>whnf);refine pw_skip ?_;(conv=>whnf);refine pw_seq ?_;refine pw_block ?_;obtain ⟨r9, h10, h7⟩ := obnd_some h7;refine pw_join (ρ := Int) (fun e => ⟨[(1, (VS 1 (a4.map eI))), (5, (.int .i64 e)), (7, (.int .i64 e5.2.2))], ⟨1, [(0, .rw [(.int .i64 a0), (.int .i64 a1), (.int .i64 a2), (VS 3 (a3.map e_III))])], false⟩⟩) r9 ?_ ?_
        · refine pw_so ?_;refine po_all ?_;(conv=>whnf);refine pbr_ogrd h10 (fun g13 h10 => ?_);(conv=>whnf);refine nth_o (l := a4) h10 (fun x14 _ h10 => ?_);(conv=>whnf);refine pw_cond ?_;(conv=>whnf);refine pbr_oite h10 (fun g15 h10 => ?_) (fun g15 h10 => ?_)
          · (conv=>whnf);refine pw_ops ?_;refine po_all ?_;(conv=>whnf);cases h10;exact ⟨(.cons rfl (.cons rfl (.cons rfl .nil))), rfl⟩
          · (conv=>whnf);refine pw_skip ?_;(conv=>whnf);cases h10;exact ⟨(.cons rfl (.cons rfl (.cons rfl .nil))), rfl⟩
        · refine pw_ops ?_;refine po_all ?_;(conv=>whnf);refine pbr_ogrd h7 (fun g16 h7 => ?_);(conv=>whnf);refine nth_o (l := a4) h7 (fun x17 _ h7 => ?_);(conv=>whnf);refine pw_ops ?_;refine po_all ?_;(conv=>whnf);cases h7;refine ⟨_, rfl, ?_⟩;exact .sub' (Nat.le_of_ble_eq_true rfl) (.cons rfl (.cons rfl (.cons rfl (.cons rfl .nil))))
      · (conv=>whnf);refine pw_exit ?_;(conv=>whnf);cases h7;refine ⟨_, rfl, ?_⟩; rintro rfl;(conv=>whnf);exact ⟨(.cons rfl .nil), rfl⟩
  · refine pw_so ?_;refine po_all ?_;(conv=>whnf);refine pw_ret ?_;(conv=>whnf);cases H; rfl

/-- guidevane/guidevanelaw08.DispatchTasks -/
noncomputable def f302 [LO]  (a0 : Int) (a1 : Int) (a2 : List (ByteArray × Int × Int × Int)) (a3 : Int) (a4 : Int) (a5 : Int) (a6 : List (Int × Int × Int)) (a7 : List Int) : Option Bool :=
  obnd (f198) fun (y1 : Bool) =>
  oite (!y1) (
   some false
    ) (
   obnd (
    obnd (f307 a0 a1 a2) fun (y8 : Bool) =>
    obnd (
     oite (!y8) (
      some true
       ) (
      obnd (f308 a3 a4 a5 a6) fun (y13 : Bool) =>
      some (!y13)
       )
      ) fun (r10 : Bool) =>
    oite r10 (
     some true
      ) (
     some (ilt (12 : Int) ((a7.map eI).length : Int))
      )
     ) fun (r4 : Bool) =>
   oite r4 (
    some true
     ) (
    obnd (f309 a0 a1 a2) fun (y17 : Int × Int × (List (ByteArray × Int × Int × Int))) =>
    obnd (f249 y17.1 y17.2.1 y17.2.2) fun (y19 : Int × Int) =>
    obnd (f309 a0 a1 a2) fun (y21 : Int × Int × (List (ByteArray × Int × Int × Int))) =>
    obnd (f310 a3 a4 a5 a6) fun (y23 : Int × Int × Int × (List (Int × Int × Int))) =>
    obnd (f237 y21.1 y21.2.1 y21.2.2 y23.1 y23.2.1 y23.2.2.1 y23.2.2.2) fun (y25 : Int × Int) =>
    obnd (f309 a0 a1 a2) fun (y27 : Int × Int × (List (ByteArray × Int × Int × Int))) =>
    obnd (f310 a3 a4 a5 a6) fun (y29 : Int × Int × Int × (List (Int × Int × Int))) =>
    obnd (f38 a7) fun (y31 : (List Int)) =>
    obnd (f322 y27.1 y27.2.1 y27.2.2 y29.1 y29.2.1 y29.2.2.1 y29.2.2.2 y31) fun (y33 : (List Int) × Int) =>
    obnd (f309 a0 a1 a2) fun (y35 : Int × Int × (List (ByteArray × Int × Int × Int))) =>
    obnd (f310 a3 a4 a5 a6) fun (y37 : Int × Int × Int × (List (Int × Int × Int))) =>
    obnd (f38 a7) fun (y39 : (List Int)) =>
    obnd (f323 y35.1 y35.2.1 y35.2.2 y37.1 y37.2.1 y37.2.2.1 y37.2.2.2 y39) fun (y41 : Int × Int) =>
    obnd (f309 a0 a1 a2) fun (y43 : Int × Int × (List (ByteArray × Int × Int × Int))) =>
    obnd (f310 a3 a4 a5 a6) fun (y45 : Int × Int × Int × (List (Int × Int × Int))) =>
    obnd (f38 a7) fun (y47 : (List Int)) =>
    obnd (f324 y43.1 y43.2.1 y43.2.2 y45.1 y45.2.1 y45.2.2.1 y45.2.2.2 y47) fun (y49 : Int × Int) =>
    obnd (f325 a0 a1 a2) fun (y51 : Int × Int) =>
    obnd (
     oite ((!(ieq y19.2 y51.2))) (
      some true
       ) (
      some (!(ieq y19.1 y51.1))
       )
      ) fun (r53 : Bool) =>
    oite r53 (
     some false
      ) (
     obnd (f326 a0 a1 a2 a3 a4 a5 a6) fun (y59 : Int × Int) =>
     obnd (
      oite ((!(ieq y25.2 y59.2))) (
       some true
        ) (
       some (!(ieq y25.1 y59.1))
        )
       ) fun (r61 : Bool) =>
     oite r61 (
      some false
       ) (
      obnd (
       oite ((ieq y59.2 (0 : Int))) (
        obnd (f327 a0 a1 a2 a3 a4 a5 a6 a7) fun (y72 : Int) =>
        some y72
         ) (
        some y59.2
         )
        ) fun (r67 : Int) =>
      oite ((!(ieq r67 (0 : Int)))) (
       obnd (
        oite ((ieq y33.2 r67)) (
         some (ieq y41.2 r67)
          ) (
         some false
          )
         ) fun (r75 : Bool) =>
       obnd (
        oite r75 (
         some (ieq y49.2 r67)
          ) (
         some false
          )
         ) fun (r78 : Bool) =>
       obnd (
        oite r78 (
         some (ieq ((y33.1.map eI).length : Int) (0 : Int))
          ) (
         some false
          )
         ) fun (r81 : Bool) =>
       obnd (
        oite r81 (
         some (ieq y41.1 (0 : Int))
          ) (
         some false
          )
         ) fun (r84 : Bool) =>
       obnd (
        oite r84 (
         some (ieq y49.1 (0 : Int))
          ) (
         some false
          )
         ) fun (r87 : Bool) =>
       some r87
        ) (
       obnd (
        oite ((ieq y33.2 (0 : Int))) (
         obnd (f328 a0 a1 a2 a3 a4 a5 a6 a7) fun (y93 : (List Int)) =>
         obnd (f26 y33.1 y93) fun (y95 : Bool) =>
         some y95
          ) (
         some false
          )
         ) fun (r90 : Bool) =>
       obnd (
        oite r90 (
         some (ieq y41.2 (0 : Int))
          ) (
         some false
          )
         ) fun (r97 : Bool) =>
       obnd (
        oite r97 (
         obnd (f329 a0 a1 a2 a3 a4 a5 a6 a7) fun (y103 : Int) =>
         some (ieq y41.1 y103)
          ) (
         some false
          )
         ) fun (r100 : Bool) =>
       obnd (
        oite r100 (
         some (ieq y49.2 (0 : Int))
          ) (
         some false
          )
         ) fun (r105 : Bool) =>
       obnd (
        oite r105 (
         obnd (f330 a3 a4 a5 a6 a7) fun (y111 : Int) =>
         some (ieq y49.1 y111)
          ) (
         some false
          )
         ) fun (r108 : Bool) =>
       some r108
        )
       )
      )
     )
    )
set_option maxHeartbeats 1000000 in
theorem c302 [LO]  {a0 : Int} {a1 : Int} {a2 : List (ByteArray × Int × Int × Int)} {a3 : Int} {a4 : Int} {a5 : Int} {a6 : List (Int × Int × Int)} {a7 : List Int} {x : Bool} (H : f302 a0 a1 a2 a3 a4 a5 a6 a7 = some x) : ICalls E 302 [(.agg ⟨[(.int .i64 a0), (.int .i64 a1), (VS 4 (a2.map e_SIII))]⟩), (.agg ⟨[(.int .i64 a3), (.int .i64 a4), (.int .i64 a5), (VS 3 (a6.map e_III))]⟩), (VS 1 (a7.map eI))] AHeap.none fun v _ => v = (.bool x) := by
  refine icalls_fn (pfnw ?_); unfold f302 at H;(conv=>whnf);refine pw_so ?_;refine po_all ?_;(conv=>whnf);refine pw_seq ?_;refine pw_so ?_;refine po_all ?_;(conv=>whnf);obtain ⟨y1, h2, H⟩ := obnd_some H;refine (c198 h2).go ?_;(conv=>whnf);refine pw_cond ?_;(conv=>whnf);refine pbr_oite H (fun g3 H => ?_) (fun g3 H => ?_)
  · (conv=>whnf);refine pw_so ?_;refine po_all ?_;(conv=>whnf);refine pw_ret ?_;(conv=>whnf);cases H; rfl
  · (conv=>whnf);refine pw_skip ?_;(conv=>whnf);refine pw_seq ?_;obtain ⟨r4, h5, H⟩ := obnd_some H;refine pw_join (ρ := Bool) (fun e => ⟨[(2, (VS 1 (a7.map eI))), (3, (.pointer (some ⟨0, 0, none⟩))), (4, (.pointer (some ⟨1, 0, none⟩))), (33, (.bool e))], ⟨2, [(1, .rw [(.int .i64 a3), (.int .i64 a4), (.int .i64 a5), (VS 3 (a6.map e_III))]), (0, .rw [(.int .i64 a0), (.int .i64 a1), (VS 4 (a2.map e_SIII))])], false⟩⟩) r4 ?_ ?_
    · refine pw_ops ?_;refine po_ops 4 ?_;(conv=>whnf);obtain ⟨y8, h9, h5⟩ := obnd_some h5;refine (c307 h9).go ?_;(conv=>whnf);obtain ⟨r10, h11, h5⟩ := obnd_some h5;refine po_seg (τ := Bool) 4 (fun e => ⟨[(2, (VS 1 (a7.map eI))), (3, (.pointer (some ⟨0, 0, none⟩))), (4, (.pointer (some ⟨1, 0, none⟩))), (28, (.bool e))], ⟨2, [(1, .rw [(.int .i64 a3), (.int .i64 a4), (.int .i64 a5), (VS 3 (a6.map e_III))]), (0, .rw [(.int .i64 a0), (.int .i64 a1), (VS 4 (a2.map e_SIII))])], false⟩⟩) r10 ?_ ?_
      · refine po_all ?_;(conv=>whnf);refine pbr_oite h11 (fun g12 h11 => ?_) (fun g12 h11 => ?_)
        · (conv=>whnf);refine pbr_t g12 ?_;(conv=>whnf);refine pbr_t g12 ?_;(conv=>whnf);refine pbr_t g12 ?_;(conv=>whnf);cases h11;exact ⟨(.cons rfl (.cons rfl (.cons rfl (.cons rfl .nil)))), rfl⟩
        · (conv=>whnf);refine pbr_f g12 ?_;(conv=>whnf);obtain ⟨y13, h14, h11⟩ := obnd_some h11;refine (c308 h14).go ?_;(conv=>whnf);refine pbr_f g12 ?_;(conv=>whnf);refine pbr_f g12 ?_;(conv=>whnf);cases h11;exact ⟨(.cons rfl (.cons rfl (.cons rfl (.cons rfl .nil)))), rfl⟩
      · refine po_all ?_;(conv=>whnf);refine pbr_oite h5 (fun g15 h5 => ?_) (fun g15 h5 => ?_)
        · (conv=>whnf);refine pbr_t g15 ?_;(conv=>whnf);refine pbr_t g15 ?_;(conv=>whnf);refine pbr_t g15 ?_;(conv=>whnf);cases h5;exact ⟨(.cons rfl (.cons rfl (.cons rfl (.cons rfl .nil)))), rfl⟩
        · (conv=>whnf);refine pbr_f g15 ?_;(conv=>whnf);refine pbr_f g15 ?_;(conv=>whnf);refine pbr_f g15 ?_;(conv=>whnf);cases h5;exact ⟨(.cons rfl (.cons rfl (.cons rfl (.cons rfl .nil)))), rfl⟩
    · refine pw_cond ?_;(conv=>whnf);refine pbr_oite H (fun g16 H => ?_) (fun g16 H => ?_)
      · (conv=>whnf);refine pw_so ?_;refine po_all ?_;(conv=>whnf);refine pw_ret ?_;(conv=>whnf);cases H; rfl
      · (conv=>whnf);refine pw_skip ?_;(conv=>whnf);refine pw_so ?_;refine po_all ?_;(conv=>whnf);obtain ⟨y17, h18, H⟩ := obnd_some H;refine (c309 h18).go ?_;(conv=>whnf);obtain ⟨y19, h20, H⟩ := obnd_some H;refine (c249 h20).go ?_;(conv=>whnf);refine pw_sd ?_;(conv=>whnf);refine ⟨?_, trivial⟩;(conv=>whnf);obtain ⟨y21, h22, H⟩ := obnd_some H;refine (c309 h22).go ?_;(conv=>whnf);refine ⟨by repeat (first | exact trivial | refine And.intro rfl ?_), ?_⟩;(conv=>whnf);refine ⟨?_, trivial⟩;(conv=>whnf);obtain ⟨y23, h24, H⟩ := obnd_some H;refine (c310 h24).go ?_;(conv=>whnf);refine ⟨by repeat (first | exact trivial | refine And.intro rfl ?_), ?_⟩
        (conv=>whnf);refine ⟨?_, trivial⟩;(conv=>whnf);obtain ⟨y25, h26, H⟩ := obnd_some H;refine (c237 h26).go ?_;(conv=>whnf);refine ⟨by repeat (first | exact trivial | refine And.intro rfl ?_), ?_⟩;(conv=>whnf);refine pw_sd ?_;(conv=>whnf);refine ⟨?_, trivial⟩;(conv=>whnf);obtain ⟨y27, h28, H⟩ := obnd_some H;refine (c309 h28).go ?_;(conv=>whnf);refine ⟨by repeat (first | exact trivial | refine And.intro rfl ?_), ?_⟩;(conv=>whnf);refine ⟨?_, trivial⟩;(conv=>whnf);obtain ⟨y29, h30, H⟩ := obnd_some H;refine (c310 h30).go ?_;(conv=>whnf);refine ⟨by repeat (first | exact trivial | refine And.intro rfl ?_), ?_⟩
        (conv=>whnf);refine ⟨?_, trivial⟩;(conv=>whnf);obtain ⟨y31, h32, H⟩ := obnd_some H;refine (c38 h32).go ?_;(conv=>whnf);refine ⟨by repeat (first | exact trivial | refine And.intro rfl ?_), ?_⟩;(conv=>whnf);refine ⟨?_, trivial⟩;(conv=>whnf);obtain ⟨y33, h34, H⟩ := obnd_some H;refine (c322 h34).go ?_;(conv=>whnf);refine ⟨by repeat (first | exact trivial | refine And.intro rfl ?_), ?_⟩;(conv=>whnf);refine pw_sd ?_;(conv=>whnf);refine ⟨?_, trivial⟩;(conv=>whnf);obtain ⟨y35, h36, H⟩ := obnd_some H;refine (c309 h36).go ?_;(conv=>whnf);refine ⟨by repeat (first | exact trivial | refine And.intro rfl ?_), ?_⟩
        (conv=>whnf);refine ⟨?_, trivial⟩;(conv=>whnf);obtain ⟨y37, h38, H⟩ := obnd_some H;refine (c310 h38).go ?_;(conv=>whnf);refine ⟨by repeat (first | exact trivial | refine And.intro rfl ?_), ?_⟩;(conv=>whnf);refine ⟨?_, trivial⟩;(conv=>whnf);obtain ⟨y39, h40, H⟩ := obnd_some H;refine (c38 h40).go ?_;(conv=>whnf);refine ⟨by repeat (first | exact trivial | refine And.intro rfl ?_), ?_⟩;(conv=>whnf);refine ⟨?_, trivial⟩;(conv=>whnf);obtain ⟨y41, h42, H⟩ := obnd_some H;refine (c323 h42).go ?_;(conv=>whnf);refine ⟨by repeat (first | exact trivial | refine And.intro rfl ?_), ?_⟩;(conv=>whnf);refine pw_sd ?_
        (conv=>whnf);refine ⟨?_, trivial⟩;(conv=>whnf);obtain ⟨y43, h44, H⟩ := obnd_some H;refine (c309 h44).go ?_;(conv=>whnf);refine ⟨by repeat (first | exact trivial | refine And.intro rfl ?_), ?_⟩;(conv=>whnf);refine ⟨?_, trivial⟩;(conv=>whnf);obtain ⟨y45, h46, H⟩ := obnd_some H;refine (c310 h46).go ?_;(conv=>whnf);refine ⟨by repeat (first | exact trivial | refine And.intro rfl ?_), ?_⟩;(conv=>whnf);refine ⟨?_, trivial⟩;(conv=>whnf);obtain ⟨y47, h48, H⟩ := obnd_some H;refine (c38 h48).go ?_;(conv=>whnf);refine ⟨by repeat (first | exact trivial | refine And.intro rfl ?_), ?_⟩;(conv=>whnf);refine ⟨?_, trivial⟩
        (conv=>whnf);obtain ⟨y49, h50, H⟩ := obnd_some H;refine (c324 h50).go ?_;(conv=>whnf);refine ⟨by repeat (first | exact trivial | refine And.intro rfl ?_), ?_⟩;(conv=>whnf);refine pw_so ?_;refine po_all ?_;(conv=>whnf);obtain ⟨y51, h52, H⟩ := obnd_some H;refine (c325 h52).go ?_;(conv=>whnf);refine pw_seq ?_;obtain ⟨r53, h54, H⟩ := obnd_some H;refine pw_join (ρ := Bool) (fun e => ⟨[(2, (VS 1 (a7.map eI))), (3, (.pointer (some ⟨0, 0, none⟩))), (4, (.pointer (some ⟨1, 0, none⟩))), (9, (.int .i64 y25.1)), (10, (.int .i64 y25.2)), (11, (VS 1 (y33.1.map eI))), (12, (.int .i64 y33.2)), (13, (.int .i64 y41.1)), (14, (.int .i64 y41.2)), (15, (.int .i64 y49.1)), (16, (.int .i64 y49.2)), (90, (.bool e))], ⟨2, [(1, .rw [(.int .i64 a3), (.int .i64 a4), (.int .i64 a5), (VS 3 (a6.map e_III))]), (0, .rw [(.int .i64 a0), (.int .i64 a1), (VS 4 (a2.map e_SIII))])], false⟩⟩) r53 ?_ ?_
        · refine pw_ops ?_;refine po_all ?_;(conv=>whnf);refine pbr_oite h54 (fun g57 h54 => ?_) (fun g57 h54 => ?_)
          · (conv=>whnf);refine pbr_t g57 ?_;(conv=>whnf);refine pbr_t g57 ?_;(conv=>whnf);refine pbr_t g57 ?_;(conv=>whnf);cases h54;exact ⟨(.cons rfl (.cons rfl (.cons rfl (.cons rfl (.cons rfl (.cons rfl (.cons rfl (.cons rfl (.cons rfl (.cons rfl (.cons rfl (.cons rfl .nil)))))))))))), rfl⟩
          · (conv=>whnf);refine pbr_f g57 ?_;(conv=>whnf);refine pbr_f g57 ?_;(conv=>whnf);refine pbr_f g57 ?_;(conv=>whnf);cases h54;exact ⟨(.cons rfl (.cons rfl (.cons rfl (.cons rfl (.cons rfl (.cons rfl (.cons rfl (.cons rfl (.cons rfl (.cons rfl (.cons rfl (.cons rfl .nil)))))))))))), rfl⟩
        · refine pw_cond ?_;(conv=>whnf);refine pbr_oite H (fun g58 H => ?_) (fun g58 H => ?_)
          · (conv=>whnf);refine pw_so ?_;refine po_all ?_;(conv=>whnf);refine pw_ret ?_;(conv=>whnf);cases H; rfl
          · (conv=>whnf);refine pw_skip ?_;(conv=>whnf);refine pw_so ?_;refine po_all ?_;(conv=>whnf);obtain ⟨y59, h60, H⟩ := obnd_some H;refine (c326 h60).go ?_;(conv=>whnf);refine pw_seq ?_;obtain ⟨r61, h62, H⟩ := obnd_some H;refine pw_join (ρ := Bool) (fun e => ⟨[(2, (VS 1 (a7.map eI))), (3, (.pointer (some ⟨0, 0, none⟩))), (4, (.pointer (some ⟨1, 0, none⟩))), (11, (VS 1 (y33.1.map eI))), (12, (.int .i64 y33.2)), (13, (.int .i64 y41.1)), (14, (.int .i64 y41.2)), (15, (.int .i64 y49.1)), (16, (.int .i64 y49.2)), (18, (.int .i64 y59.2)), (104, (.bool e))], ⟨2, [(1, .rw [(.int .i64 a3), (.int .i64 a4), (.int .i64 a5), (VS 3 (a6.map e_III))]), (0, .rw [(.int .i64 a0), (.int .i64 a1), (VS 4 (a2.map e_SIII))])], false⟩⟩) r61 ?_ ?_
            · refine pw_ops ?_;refine po_all ?_;(conv=>whnf);refine pbr_oite h62 (fun g65 h62 => ?_) (fun g65 h62 => ?_)
              · (conv=>whnf);refine pbr_t g65 ?_;(conv=>whnf);refine pbr_t g65 ?_;(conv=>whnf);refine pbr_t g65 ?_;(conv=>whnf);cases h62;exact ⟨(.cons rfl (.cons rfl (.cons rfl (.cons rfl (.cons rfl (.cons rfl (.cons rfl (.cons rfl (.cons rfl (.cons rfl (.cons rfl .nil))))))))))), rfl⟩
              · (conv=>whnf);refine pbr_f g65 ?_;(conv=>whnf);refine pbr_f g65 ?_;(conv=>whnf);refine pbr_f g65 ?_;(conv=>whnf);cases h62;exact ⟨(.cons rfl (.cons rfl (.cons rfl (.cons rfl (.cons rfl (.cons rfl (.cons rfl (.cons rfl (.cons rfl (.cons rfl (.cons rfl .nil))))))))))), rfl⟩
            · refine pw_cond ?_;(conv=>whnf);refine pbr_oite H (fun g66 H => ?_) (fun g66 H => ?_)
              · (conv=>whnf);refine pw_so ?_;refine po_all ?_;(conv=>whnf);refine pw_ret ?_;(conv=>whnf);cases H; rfl
              · (conv=>whnf);refine pw_skip ?_;(conv=>whnf);obtain ⟨r67, h68, H⟩ := obnd_some H;refine pw_join (ρ := Int) (fun e => ⟨[(2, (VS 1 (a7.map eI))), (3, (.pointer (some ⟨0, 0, none⟩))), (4, (.pointer (some ⟨1, 0, none⟩))), (11, (VS 1 (y33.1.map eI))), (12, (.int .i64 y33.2)), (13, (.int .i64 y41.1)), (14, (.int .i64 y41.2)), (15, (.int .i64 y49.1)), (16, (.int .i64 y49.2)), (18, (.int .i64 e))], ⟨2, [(1, .rw [(.int .i64 a3), (.int .i64 a4), (.int .i64 a5), (VS 3 (a6.map e_III))]), (0, .rw [(.int .i64 a0), (.int .i64 a1), (VS 4 (a2.map e_SIII))])], false⟩⟩) r67 ?_ ?_
                · refine pw_so ?_;refine po_all ?_;(conv=>whnf);refine pw_cond ?_;(conv=>whnf);refine pbr_oite h68 (fun g71 h68 => ?_) (fun g71 h68 => ?_)
                  · (conv=>whnf);refine pw_ops ?_;refine po_all ?_;(conv=>whnf);obtain ⟨y72, h73, h68⟩ := obnd_some h68;refine (c327 h73).go ?_;(conv=>whnf);cases h68;exact ⟨(.cons rfl (.cons rfl (.cons rfl (.cons rfl (.cons rfl (.cons rfl (.cons rfl (.cons rfl (.cons rfl (.cons rfl .nil)))))))))), rfl⟩
                  · (conv=>whnf);refine pw_skip ?_;(conv=>whnf);cases h68;exact ⟨(.cons rfl (.cons rfl (.cons rfl (.cons rfl (.cons rfl (.cons rfl (.cons rfl (.cons rfl (.cons rfl (.cons rfl .nil)))))))))), rfl⟩
                · refine pw_seq ?_;refine pw_so ?_;refine po_all ?_;(conv=>whnf);refine pw_cond ?_;(conv=>whnf);refine pbr_oite H (fun g74 H => ?_) (fun g74 H => ?_)
                  · (conv=>whnf);refine pw_so ?_;refine po_ops 4 ?_;(conv=>whnf);obtain ⟨r75, h76, H⟩ := obnd_some H;refine po_seg (τ := Bool) 4 (fun e => ⟨[(11, (VS 1 (y33.1.map eI))), (13, (.int .i64 y41.1)), (15, (.int .i64 y49.1)), (16, (.int .i64 y49.2)), (18, (.int .i64 r67)), (120, (.bool e))], ⟨2, [(1, .rw [(.int .i64 a3), (.int .i64 a4), (.int .i64 a5), (VS 3 (a6.map e_III))]), (0, .rw [(.int .i64 a0), (.int .i64 a1), (VS 4 (a2.map e_SIII))])], false⟩⟩) r75 ?_ ?_
                    · refine po_all ?_;(conv=>whnf);refine pbr_oite h76 (fun g77 h76 => ?_) (fun g77 h76 => ?_)
                      · (conv=>whnf);refine pbr_t g77 ?_;(conv=>whnf);refine pbr_t g77 ?_;(conv=>whnf);refine pbr_t g77 ?_;(conv=>whnf);cases h76;exact ⟨(.cons rfl (.cons rfl (.cons rfl (.cons rfl (.cons rfl (.cons rfl .nil)))))), rfl⟩
                      · (conv=>whnf);refine pbr_f g77 ?_;(conv=>whnf);refine pbr_f g77 ?_;(conv=>whnf);refine pbr_f g77 ?_;(conv=>whnf);cases h76;exact ⟨(.cons rfl (.cons rfl (.cons rfl (.cons rfl (.cons rfl (.cons rfl .nil)))))), rfl⟩
                    · refine po_ops 1 ?_;(conv=>whnf);obtain ⟨r78, h79, H⟩ := obnd_some H;refine po_seg (τ := Bool) 4 (fun e => ⟨[(11, (VS 1 (y33.1.map eI))), (13, (.int .i64 y41.1)), (15, (.int .i64 y49.1)), (125, (.bool e))], ⟨2, [(1, .rw [(.int .i64 a3), (.int .i64 a4), (.int .i64 a5), (VS 3 (a6.map e_III))]), (0, .rw [(.int .i64 a0), (.int .i64 a1), (VS 4 (a2.map e_SIII))])], false⟩⟩) r78 ?_ ?_
                      · refine po_all ?_;(conv=>whnf);refine pbr_oite h79 (fun g80 h79 => ?_) (fun g80 h79 => ?_)
                        · (conv=>whnf);refine pbr_t g80 ?_;(conv=>whnf);refine pbr_t g80 ?_;(conv=>whnf);refine pbr_t g80 ?_;(conv=>whnf);cases h79;exact ⟨(.cons rfl (.cons rfl (.cons rfl (.cons rfl .nil)))), rfl⟩
                        · (conv=>whnf);refine pbr_f g80 ?_;(conv=>whnf);refine pbr_f g80 ?_;(conv=>whnf);refine pbr_f g80 ?_;(conv=>whnf);cases h79;exact ⟨(.cons rfl (.cons rfl (.cons rfl (.cons rfl .nil)))), rfl⟩
                      · refine po_ops 1 ?_;(conv=>whnf);obtain ⟨r81, h82, H⟩ := obnd_some H;refine po_seg (τ := Bool) 4 (fun e => ⟨[(13, (.int .i64 y41.1)), (15, (.int .i64 y49.1)), (130, (.bool e))], ⟨2, [(1, .rw [(.int .i64 a3), (.int .i64 a4), (.int .i64 a5), (VS 3 (a6.map e_III))]), (0, .rw [(.int .i64 a0), (.int .i64 a1), (VS 4 (a2.map e_SIII))])], false⟩⟩) r81 ?_ ?_
                        · refine po_all ?_;(conv=>whnf);refine pbr_oite h82 (fun g83 h82 => ?_) (fun g83 h82 => ?_)
                          · (conv=>whnf);refine pbr_t g83 ?_;(conv=>whnf);refine pbr_t g83 ?_;(conv=>whnf);refine pbr_t g83 ?_;(conv=>whnf);cases h82;exact ⟨(.cons rfl (.cons rfl (.cons rfl .nil))), rfl⟩
                          · (conv=>whnf);refine pbr_f g83 ?_;(conv=>whnf);refine pbr_f g83 ?_;(conv=>whnf);refine pbr_f g83 ?_;(conv=>whnf);cases h82;exact ⟨(.cons rfl (.cons rfl (.cons rfl .nil))), rfl⟩
                        · refine po_ops 1 ?_;(conv=>whnf);obtain ⟨r84, h85, H⟩ := obnd_some H;refine po_seg (τ := Bool) 3 (fun e => ⟨[(15, (.int .i64 y49.1)), (134, (.bool e))], ⟨2, [(1, .rw [(.int .i64 a3), (.int .i64 a4), (.int .i64 a5), (VS 3 (a6.map e_III))]), (0, .rw [(.int .i64 a0), (.int .i64 a1), (VS 4 (a2.map e_SIII))])], false⟩⟩) r84 ?_ ?_
                          · refine po_all ?_;(conv=>whnf);refine pbr_oite h85 (fun g86 h85 => ?_) (fun g86 h85 => ?_)
                            · (conv=>whnf);refine pbr_t g86 ?_;(conv=>whnf);refine pbr_t g86 ?_;(conv=>whnf);cases h85;exact ⟨(.cons rfl (.cons rfl .nil)), rfl⟩
                            · (conv=>whnf);refine pbr_f g86 ?_;(conv=>whnf);refine pbr_f g86 ?_;(conv=>whnf);cases h85;exact ⟨(.cons rfl (.cons rfl .nil)), rfl⟩
                          · refine po_ops 1 ?_;(conv=>whnf);obtain ⟨r87, h88, H⟩ := obnd_some H;refine po_seg (τ := Bool) 3 (fun e => ⟨[(138, (.bool e))], ⟨2, [(1, .rw [(.int .i64 a3), (.int .i64 a4), (.int .i64 a5), (VS 3 (a6.map e_III))]), (0, .rw [(.int .i64 a0), (.int .i64 a1), (VS 4 (a2.map e_SIII))])], false⟩⟩) r87 ?_ ?_
                            · refine po_all ?_;(conv=>whnf);refine pbr_oite h88 (fun g89 h88 => ?_) (fun g89 h88 => ?_)
                              · (conv=>whnf);refine pbr_t g89 ?_;(conv=>whnf);refine pbr_t g89 ?_;(conv=>whnf);cases h88;exact ⟨(.cons rfl .nil), rfl⟩
                              · (conv=>whnf);refine pbr_f g89 ?_;(conv=>whnf);refine pbr_f g89 ?_;(conv=>whnf);cases h88;exact ⟨(.cons rfl .nil), rfl⟩
                            · refine po_all ?_;(conv=>whnf);refine pw_ret ?_;(conv=>whnf);cases H; rfl
                  · (conv=>whnf);refine pw_skip ?_;(conv=>whnf);refine pw_so ?_;refine po_ops 3 ?_;(conv=>whnf);obtain ⟨r90, h91, H⟩ := obnd_some H;refine po_seg (τ := Bool) 7 (fun e => ⟨[(2, (VS 1 (a7.map eI))), (3, (.pointer (some ⟨0, 0, none⟩))), (4, (.pointer (some ⟨1, 0, none⟩))), (13, (.int .i64 y41.1)), (14, (.int .i64 y41.2)), (15, (.int .i64 y49.1)), (16, (.int .i64 y49.2)), (148, (.bool e))], ⟨2, [(1, .rw [(.int .i64 a3), (.int .i64 a4), (.int .i64 a5), (VS 3 (a6.map e_III))]), (0, .rw [(.int .i64 a0), (.int .i64 a1), (VS 4 (a2.map e_SIII))])], false⟩⟩) r90 ?_ ?_
                    · refine po_all ?_;(conv=>whnf);refine pbr_oite h91 (fun g92 h91 => ?_) (fun g92 h91 => ?_)
                      · (conv=>whnf);refine pbr_t g92 ?_;(conv=>whnf);refine pbr_t g92 ?_;(conv=>whnf);refine pbr_t g92 ?_;(conv=>whnf);refine pbr_t g92 ?_;(conv=>whnf);obtain ⟨y93, h94, h91⟩ := obnd_some h91;refine (c328 h94).go ?_;(conv=>whnf);refine pbr_t g92 ?_;(conv=>whnf);obtain ⟨y95, h96, h91⟩ := obnd_some h91;refine (c26 h96).go ?_;(conv=>whnf);refine pbr_t g92 ?_;(conv=>whnf);cases h91;exact ⟨(.cons rfl (.cons rfl (.cons rfl (.cons rfl (.cons rfl (.cons rfl (.cons rfl (.cons rfl .nil)))))))), rfl⟩
                      · (conv=>whnf);refine pbr_f g92 ?_;(conv=>whnf);refine pbr_f g92 ?_;(conv=>whnf);refine pbr_f g92 ?_;(conv=>whnf);refine pbr_f g92 ?_;(conv=>whnf);refine pbr_f g92 ?_;(conv=>whnf);refine pbr_f g92 ?_;(conv=>whnf);cases h91;exact ⟨(.cons rfl (.cons rfl (.cons rfl (.cons rfl (.cons rfl (.cons rfl (.cons rfl (.cons rfl .nil)))))))), rfl⟩
                    · refine po_ops 1 ?_;(conv=>whnf);obtain ⟨r97, h98, H⟩ := obnd_some H;refine po_seg (τ := Bool) 3 (fun e => ⟨[(2, (VS 1 (a7.map eI))), (3, (.pointer (some ⟨0, 0, none⟩))), (4, (.pointer (some ⟨1, 0, none⟩))), (13, (.int .i64 y41.1)), (15, (.int .i64 y49.1)), (16, (.int .i64 y49.2)), (152, (.bool e))], ⟨2, [(1, .rw [(.int .i64 a3), (.int .i64 a4), (.int .i64 a5), (VS 3 (a6.map e_III))]), (0, .rw [(.int .i64 a0), (.int .i64 a1), (VS 4 (a2.map e_SIII))])], false⟩⟩) r97 ?_ ?_
                      · refine po_all ?_;(conv=>whnf);refine pbr_oite h98 (fun g99 h98 => ?_) (fun g99 h98 => ?_)
                        · (conv=>whnf);refine pbr_t g99 ?_;(conv=>whnf);refine pbr_t g99 ?_;(conv=>whnf);cases h98;exact ⟨(.cons rfl (.cons rfl (.cons rfl (.cons rfl (.cons rfl (.cons rfl (.cons rfl .nil))))))), rfl⟩
                        · (conv=>whnf);refine pbr_f g99 ?_;(conv=>whnf);refine pbr_f g99 ?_;(conv=>whnf);cases h98;exact ⟨(.cons rfl (.cons rfl (.cons rfl (.cons rfl (.cons rfl (.cons rfl (.cons rfl .nil))))))), rfl⟩
                      · refine po_ops 1 ?_;(conv=>whnf);obtain ⟨r100, h101, H⟩ := obnd_some H;refine po_seg (τ := Bool) 7 (fun e => ⟨[(2, (VS 1 (a7.map eI))), (4, (.pointer (some ⟨1, 0, none⟩))), (15, (.int .i64 y49.1)), (16, (.int .i64 y49.2)), (160, (.bool e))], ⟨2, [(1, .rw [(.int .i64 a3), (.int .i64 a4), (.int .i64 a5), (VS 3 (a6.map e_III))]), (0, .rw [(.int .i64 a0), (.int .i64 a1), (VS 4 (a2.map e_SIII))])], false⟩⟩) r100 ?_ ?_
                        · refine po_all ?_;(conv=>whnf);refine pbr_oite h101 (fun g102 h101 => ?_) (fun g102 h101 => ?_)
                          · (conv=>whnf);refine pbr_t g102 ?_;(conv=>whnf);refine pbr_t g102 ?_;(conv=>whnf);refine pbr_t g102 ?_;(conv=>whnf);refine pbr_t g102 ?_;(conv=>whnf);obtain ⟨y103, h104, h101⟩ := obnd_some h101;refine (c329 h104).go ?_;(conv=>whnf);refine pbr_t g102 ?_;(conv=>whnf);refine pbr_t g102 ?_;(conv=>whnf);cases h101;exact ⟨(.cons rfl (.cons rfl (.cons rfl (.cons rfl (.cons rfl .nil))))), rfl⟩
                          · (conv=>whnf);refine pbr_f g102 ?_;(conv=>whnf);refine pbr_f g102 ?_;(conv=>whnf);refine pbr_f g102 ?_;(conv=>whnf);refine pbr_f g102 ?_;(conv=>whnf);refine pbr_f g102 ?_;(conv=>whnf);refine pbr_f g102 ?_;(conv=>whnf);cases h101;exact ⟨(.cons rfl (.cons rfl (.cons rfl (.cons rfl (.cons rfl .nil))))), rfl⟩
                        · refine po_ops 1 ?_;(conv=>whnf);obtain ⟨r105, h106, H⟩ := obnd_some H;refine po_seg (τ := Bool) 3 (fun e => ⟨[(2, (VS 1 (a7.map eI))), (4, (.pointer (some ⟨1, 0, none⟩))), (15, (.int .i64 y49.1)), (164, (.bool e))], ⟨2, [(1, .rw [(.int .i64 a3), (.int .i64 a4), (.int .i64 a5), (VS 3 (a6.map e_III))]), (0, .rw [(.int .i64 a0), (.int .i64 a1), (VS 4 (a2.map e_SIII))])], false⟩⟩) r105 ?_ ?_
                          · refine po_all ?_;(conv=>whnf);refine pbr_oite h106 (fun g107 h106 => ?_) (fun g107 h106 => ?_)
                            · (conv=>whnf);refine pbr_t g107 ?_;(conv=>whnf);refine pbr_t g107 ?_;(conv=>whnf);cases h106;exact ⟨(.cons rfl (.cons rfl (.cons rfl (.cons rfl .nil)))), rfl⟩
                            · (conv=>whnf);refine pbr_f g107 ?_;(conv=>whnf);refine pbr_f g107 ?_;(conv=>whnf);cases h106;exact ⟨(.cons rfl (.cons rfl (.cons rfl (.cons rfl .nil)))), rfl⟩
                          · refine po_ops 1 ?_;(conv=>whnf);obtain ⟨r108, h109, H⟩ := obnd_some H;refine po_seg (τ := Bool) 6 (fun e => ⟨[(171, (.bool e))], ⟨2, [(1, .rw [(.int .i64 a3), (.int .i64 a4), (.int .i64 a5), (VS 3 (a6.map e_III))]), (0, .rw [(.int .i64 a0), (.int .i64 a1), (VS 4 (a2.map e_SIII))])], false⟩⟩) r108 ?_ ?_
                            · refine po_all ?_;(conv=>whnf);refine pbr_oite h109 (fun g110 h109 => ?_) (fun g110 h109 => ?_)
                              · (conv=>whnf);refine pbr_t g110 ?_;(conv=>whnf);refine pbr_t g110 ?_;(conv=>whnf);refine pbr_t g110 ?_;(conv=>whnf);obtain ⟨y111, h112, h109⟩ := obnd_some h109;refine (c330 h112).go ?_;(conv=>whnf);refine pbr_t g110 ?_;(conv=>whnf);refine pbr_t g110 ?_;(conv=>whnf);cases h109;exact ⟨(.cons rfl .nil), rfl⟩
                              · (conv=>whnf);refine pbr_f g110 ?_;(conv=>whnf);refine pbr_f g110 ?_;(conv=>whnf);refine pbr_f g110 ?_;(conv=>whnf);refine pbr_f g110 ?_;(conv=>whnf);refine pbr_f g110 ?_;(conv=>whnf);cases h109;exact ⟨(.cons rfl .nil), rfl⟩
                            · refine po_all ?_;(conv=>whnf);refine pw_ret ?_;(conv=>whnf);cases H; rfl

/-- guidevane/guidevaneref08.CopyReserve -/
noncomputable def f317  (a0 : List Int) (a1 : Int) : Option ((List Int) × Int) :=
  obnd (f38 a0) fun (y1 : (List Int)) =>
  some (y1, a1)
set_option maxHeartbeats 1000000 in
theorem c317  {a0 : List Int} {a1 : Int} {x : (List Int) × Int} (H : f317 a0 a1 = some x) : ICalls E 317 [(.agg ⟨[(VS 1 (a0.map eI)), (.int .i64 a1)]⟩)] AHeap.none fun v _ => v = (.agg ⟨[(VS 1 (x.1.map eI)), (.int .i64 x.2)]⟩) := by
  refine ICalls.frz ?_;refine icalls_fn (pfnw ?_); unfold f317 at H;(conv=>whnf);refine pw_so ?_;refine po_all ?_;(conv=>whnf);refine pw_so ?_;refine po_all ?_;(conv=>whnf);obtain ⟨y1, h2, H⟩ := obnd_some H;refine (c38 h2).go ?_;(conv=>whnf);refine pw_so ?_;refine po_all ?_;(conv=>whnf);refine pw_ret ?_;(conv=>whnf);cases H; show ∃ D, Fz _ D 0 (.agg ⟨[(VS 1 _), (.int .i64 a1)]⟩) _;exact ⟨fun _ => false, .cl⟩

/-- guidevane/dispatch.PromisedIn -/
noncomputable def f318 [LO]  (a0 : Int) (a1 : Int) (a2 : List (ByteArray × Int × Int × Int)) (a3 : Int) (a4 : Int) (a5 : Int) (a6 : List (Int × Int × Int)) (a7 : List Int) (a8 : Int) : Option (Int × Int) :=
  obnd (f209 a0 a1 a2 a3 a4 a5 a6 a7 a8) fun (y1 : (List Int) × Int) =>
  oite ((!(ieq y1.2 (0 : Int)))) (
   some ((0 : Int), y1.2)
    ) (
   obnd (
    oloop (τ := Int × Int) (ρ := Int) (fun e8 =>
     oite ((ilt e8.2 ((y1.1.map eI).length : Int))) (
      ogrd ((ile 0 e8.2)) (
      obnd (y1.1[e8.2.toNat]?) fun (x13 : Int) =>
      oite ((ilt x13 (IntKind.i64.wrap (((y1.1.map eI).length : Int) - e8.2)))) (
       some (.inl (((imin e8.1 x13), (IntKind.i64.wrap (e8.2 + (1 : Int))))))
        ) (
       some (.inl (e8.1, (IntKind.i64.wrap (e8.2 + (1 : Int)))))
        )
      )
       ) (
      some (.inr (e8.1))
       )
      ) (((10 : Int), (0 : Int)))
     ) fun (r4 : Int) =>
   some (r4, (0 : Int))
    )
set_option maxHeartbeats 1000000 in
theorem c318 [LO]  {a0 : Int} {a1 : Int} {a2 : List (ByteArray × Int × Int × Int)} {a3 : Int} {a4 : Int} {a5 : Int} {a6 : List (Int × Int × Int)} {a7 : List Int} {a8 : Int} {x : Int × Int} (H : f318 a0 a1 a2 a3 a4 a5 a6 a7 a8 = some x) : ICalls E 318 [(.agg ⟨[(.int .i64 a0), (.int .i64 a1), (VS 4 (a2.map e_SIII))]⟩), (.agg ⟨[(.int .i64 a3), (.int .i64 a4), (.int .i64 a5), (VS 3 (a6.map e_III))]⟩), (.agg ⟨[(VS 1 (a7.map eI)), (.int .i64 a8)]⟩)] AHeap.none fun v _ => v = (.tuple ⟨[(.int .i64 x.1), (.int .i64 x.2)]⟩) := by
  refine icalls_fn (pfnw ?_); unfold f318 at H;(conv=>whnf);refine pw_so ?_;refine po_all ?_;(conv=>whnf);refine pw_so ?_;refine po_all ?_;(conv=>whnf);obtain ⟨y1, h2, H⟩ := obnd_some H;refine (c209 h2).go ?_;(conv=>whnf);refine pw_seq ?_;refine pw_so ?_;refine po_all ?_;(conv=>whnf);refine pw_cond ?_;(conv=>whnf);refine pbr_oite H (fun g3 H => ?_) (fun g3 H => ?_)
  · (conv=>whnf);refine pw_so ?_;refine po_all ?_;(conv=>whnf);refine pw_ret ?_;(conv=>whnf);cases H; rfl
  · (conv=>whnf);refine pw_skip ?_;(conv=>whnf);refine pw_so ?_;refine po_all ?_;(conv=>whnf);obtain ⟨r4, h5, H⟩ := obnd_some H;refine pw_join (ρ := Int) (fun e => ⟨[(10, (.int .i64 e))], ⟨3, [(2, .rw [(VS 1 (a7.map eI)), (.int .i64 a8)]), (1, .rw [(.int .i64 a3), (.int .i64 a4), (.int .i64 a5), (VS 3 (a6.map e_III))]), (0, .rw [(.int .i64 a0), (.int .i64 a1), (VS 4 (a2.map e_SIII))])], false⟩⟩) r4 ?_ ?_
    · refine pw_so ?_;refine po_all ?_;(conv=>whnf);refine pw_block ?_;refine pw_loop (τ := Int × Int) (fun e => ⟨[(8, (VS 1 (y1.1.map eI))), (10, (.int .i64 e.1)), (23, (VS 1 (y1.1.map eI))), (24, (.int .i64 ((y1.1.map eI).length : Int))), (25, (.int .i64 e.2))], ⟨3, [(2, .rw [(VS 1 (a7.map eI)), (.int .i64 a8)]), (1, .rw [(.int .i64 a3), (.int .i64 a4), (.int .i64 a5), (VS 3 (a6.map e_III))]), (0, .rw [(.int .i64 a0), (.int .i64 a1), (VS 4 (a2.map e_SIII))])], false⟩⟩) h5 ?_ (fun _ => Nat.le_of_ble_eq_true rfl) ?_
      · exact .sub' (Nat.le_of_ble_eq_true rfl) (.cons rfl (.cons rfl (.cons rfl (.cons rfl (.cons rfl .nil)))))
      · intro e8 x9 h10;refine pw_so ?_;refine po_all ?_;(conv=>whnf);refine pw_seq ?_;refine pw_cond ?_;(conv=>whnf);refine pbr_oite h10 (fun g11 h10 => ?_) (fun g11 h10 => ?_)
        · (conv=>whnf);refine pw_skip ?_;(conv=>whnf);refine pw_seq ?_;refine pw_block ?_;refine pw_so ?_;refine po_all ?_;(conv=>whnf);refine pbr_ogrd h10 (fun g12 h10 => ?_);(conv=>whnf);refine nth_o (l := y1.1) h10 (fun x13 _ h10 => ?_);(conv=>whnf);refine pw_so ?_;refine po_all ?_;(conv=>whnf);refine pw_cond ?_;(conv=>whnf);refine pbr_oite h10 (fun g14 h10 => ?_) (fun g14 h10 => ?_)
          · (conv=>whnf);refine pw_ops ?_;refine po_all ?_;(conv=>whnf);refine pw_ops ?_;refine po_all ?_;(conv=>whnf);cases h10;refine ⟨_, rfl, ?_⟩;exact .sub' (Nat.le_of_ble_eq_true rfl) (.cons rfl (.cons rfl (.cons rfl (.cons rfl (.cons rfl .nil)))))
          · (conv=>whnf);refine pw_skip ?_;(conv=>whnf);refine pw_ops ?_;refine po_all ?_;(conv=>whnf);cases h10;refine ⟨_, rfl, ?_⟩;exact .sub' (Nat.le_of_ble_eq_true rfl) (.cons rfl (.cons rfl (.cons rfl (.cons rfl (.cons rfl .nil)))))
        · (conv=>whnf);refine pw_exit ?_;(conv=>whnf);cases h10;refine ⟨_, rfl, ?_⟩; rintro rfl;(conv=>whnf);exact ⟨(.cons rfl .nil), rfl⟩
    · refine pw_so ?_;refine po_all ?_;(conv=>whnf);refine pw_ret ?_;(conv=>whnf);cases H; rfl

/-- guidevane/guidevaneref08.TaskErr -/
noncomputable def f311 [LO]  (a0 : Int) (a1 : Int) (a2 : List (ByteArray × Int × Int × Int)) (a3 : Int) (a4 : Int) (a5 : Int) (a6 : List (Int × Int × Int)) : Option Int :=
  obnd (f326 a0 a1 a2 a3 a4 a5 a6) fun (y1 : Int × Int) =>
  some y1.2
set_option maxHeartbeats 1000000 in
theorem c311 [LO]  {a0 : Int} {a1 : Int} {a2 : List (ByteArray × Int × Int × Int)} {a3 : Int} {a4 : Int} {a5 : Int} {a6 : List (Int × Int × Int)} {x : Int} (H : f311 a0 a1 a2 a3 a4 a5 a6 = some x) : ICalls E 311 [(.agg ⟨[(.int .i64 a0), (.int .i64 a1), (VS 4 (a2.map e_SIII))]⟩), (.agg ⟨[(.int .i64 a3), (.int .i64 a4), (.int .i64 a5), (VS 3 (a6.map e_III))]⟩)] AHeap.none fun v _ => v = (.int .i64 x) := by
  refine icalls_fn (pfnw ?_); unfold f311 at H;(conv=>whnf);refine pw_so ?_;refine po_all ?_;(conv=>whnf);refine pw_so ?_;refine po_all ?_;(conv=>whnf);obtain ⟨y1, h2, H⟩ := obnd_some H;refine (c326 h2).go ?_;(conv=>whnf);refine pw_so ?_;refine po_all ?_;(conv=>whnf);refine pw_ret ?_;(conv=>whnf);cases H; rfl

/-- guidevane/guidevaneref08.ReserveErr -/
noncomputable def f319 [LO]  (a0 : Int) (a1 : Int) (a2 : List (ByteArray × Int × Int × Int)) (a3 : Int) (a4 : Int) (a5 : Int) (a6 : List (Int × Int × Int)) (a7 : List Int) (a8 : Int) : Option Int :=
  obnd (f327 a0 a1 a2 a3 a4 a5 a6 a7) fun (y1 : Int) =>
  oite ((!(ieq y1 (0 : Int)))) (
   some y1
    ) (
   obnd (f15 a8 (0 : Int) ((IntKind.i64.wrap (((a2.map e_SIII).length : Int) - (1 : Int))))) fun (y4 : Bool) =>
   oite (!y4) (
    some (6 : Int)
     ) (
    some (0 : Int)
     )
    )
set_option maxHeartbeats 1000000 in
theorem c319 [LO]  {a0 : Int} {a1 : Int} {a2 : List (ByteArray × Int × Int × Int)} {a3 : Int} {a4 : Int} {a5 : Int} {a6 : List (Int × Int × Int)} {a7 : List Int} {a8 : Int} {x : Int} (H : f319 a0 a1 a2 a3 a4 a5 a6 a7 a8 = some x) : ICalls E 319 [(.agg ⟨[(.int .i64 a0), (.int .i64 a1), (VS 4 (a2.map e_SIII))]⟩), (.agg ⟨[(.int .i64 a3), (.int .i64 a4), (.int .i64 a5), (VS 3 (a6.map e_III))]⟩), (.agg ⟨[(VS 1 (a7.map eI)), (.int .i64 a8)]⟩)] AHeap.none fun v _ => v = (.int .i64 x) := by
  refine icalls_fn (pfnw ?_); unfold f319 at H;(conv=>whnf);refine pw_so ?_;refine po_all ?_;(conv=>whnf);refine pw_seq ?_;refine pw_so ?_;refine po_all ?_;(conv=>whnf);obtain ⟨y1, h2, H⟩ := obnd_some H;refine (c327 h2).go ?_;(conv=>whnf);refine pw_so ?_;refine po_all ?_;(conv=>whnf);refine pw_cond ?_;(conv=>whnf);refine pbr_oite H (fun g3 H => ?_) (fun g3 H => ?_)
  · (conv=>whnf);refine pw_so ?_;refine po_all ?_;(conv=>whnf);refine pw_ret ?_;(conv=>whnf);cases H; rfl
  · (conv=>whnf);refine pw_skip ?_;(conv=>whnf);refine pw_seq ?_;refine pw_so ?_;refine po_all ?_;(conv=>whnf);obtain ⟨y4, h5, H⟩ := obnd_some H;refine (c15 h5).go ?_;(conv=>whnf);refine pw_cond ?_;(conv=>whnf);refine pbr_oite H (fun g6 H => ?_) (fun g6 H => ?_)
    · (conv=>whnf);refine pw_so ?_;refine po_all ?_;(conv=>whnf);refine pw_ret ?_;(conv=>whnf);cases H; rfl
    · (conv=>whnf);refine pw_skip ?_;(conv=>whnf);refine pw_so ?_;refine po_all ?_;(conv=>whnf);refine pw_ret ?_;(conv=>whnf);cases H; rfl

/-- guidevane/guidevaneref08.given -/
noncomputable def f351 [LO]  (a0 : Int) (a1 : Int) (a2 : List (ByteArray × Int × Int × Int)) (_ : Int) (_ : Int) (_ : Int) (a6 : List (Int × Int × Int)) (a7 : Int) (a8 : Int) (a9 : Int) : Option Int :=
  obndS (
   oloop (τ := Int × Int × Int) (ρ := (Int) ⊕ Int) (fun e5 =>
    oite ((ilt e5.2.2 ((a6.map e_III).length : Int))) (
     ogrd ((ile 0 e5.2.2)) (
     obnd (a6[e5.2.2.toNat]?) fun (x10 : Int × Int × Int) =>
     ogrd ((ile 0 a9)) (
     obnd (a2[a9.toNat]?) fun (x12 : ByteArray × Int × Int × Int) =>
     obnd (f15 (IntKind.i64.wrap ((IntKind.i64.wrap (e5.1 + x10.2.2)) + x12.2.1)) a0 a1) fun (y13 : Bool) =>
     oite (!y13) (
      some (.inr (.inr (e5.2.1)))
       ) (
      some (.inl (((IntKind.i64.wrap ((IntKind.i64.wrap (e5.1 + x10.2.2)) + x12.2.1)), (IntKind.i64.wrap (e5.2.1 + (1 : Int))), (IntKind.i64.wrap (e5.2.2 + (1 : Int))))))
       )
     )
     )
      ) (
     some (.inr (.inl e5.2.1))
      )
     ) (a8, (0 : Int), a7)
    ) fun (r18 : Int) =>
  some r18
set_option maxHeartbeats 1000000 in
theorem c351 [LO]  {a0 : Int} {a1 : Int} {a2 : List (ByteArray × Int × Int × Int)} {a3 : Int} {a4 : Int} {a5 : Int} {a6 : List (Int × Int × Int)} {a7 : Int} {a8 : Int} {a9 : Int} {x : Int} (H : f351 a0 a1 a2 a3 a4 a5 a6 a7 a8 a9 = some x) : ICalls E 351 [(.agg ⟨[(.int .i64 a0), (.int .i64 a1), (VS 4 (a2.map e_SIII))]⟩), (.agg ⟨[(.int .i64 a3), (.int .i64 a4), (.int .i64 a5), (VS 3 (a6.map e_III))]⟩), (.int .i64 a7), (.int .i64 a8), (.int .i64 a9)] AHeap.none fun v _ => v = (.int .i64 x) := by
  refine icalls_fn (pfnw ?_); unfold f351 at H;(conv=>whnf);refine pw_so ?_;refine po_all ?_;(conv=>whnf);refine pw_so ?_;refine po_all ?_;(conv=>whnf);obtain ⟨r1, h2, h3, h4⟩ := obndS_some H;refine pw_joinS (ρ := Int) (fun e => ⟨[(11, (.int .i64 e))], ⟨2, [(1, .rw [(.int .i64 a3), (.int .i64 a4), (.int .i64 a5), (VS 3 (a6.map e_III))]), (0, .rw [(.int .i64 a0), (.int .i64 a1), (VS 4 (a2.map e_SIII))])], false⟩⟩) r1 ?_ ?_
  · refine pw_so ?_;refine po_all ?_;(conv=>whnf);refine pw_block ?_;refine pw_loop (τ := Int × Int × Int) (fun e => ⟨[(3, (.int .i64 e.1)), (4, (.int .i64 a9)), (5, (.pointer (some ⟨0, 0, none⟩))), (6, (.pointer (some ⟨1, 0, none⟩))), (11, (.int .i64 e.2.1)), (12, (.int .i64 e.2.2))], ⟨2, [(1, .rw [(.int .i64 a3), (.int .i64 a4), (.int .i64 a5), (VS 3 (a6.map e_III))]), (0, .rw [(.int .i64 a0), (.int .i64 a1), (VS 4 (a2.map e_SIII))])], false⟩⟩) h2 ?_ (fun _ => Nat.le_of_ble_eq_true rfl) ?_
    · exact .sub' (Nat.le_of_ble_eq_true rfl) (.cons rfl (.cons rfl (.cons rfl (.cons rfl (.cons rfl (.cons rfl .nil))))))
    · intro e5 x6 h7;refine pw_seq ?_;refine pw_so ?_;refine po_all ?_;(conv=>whnf);refine pw_cond ?_;(conv=>whnf);refine pbr_oite h7 (fun g8 h7 => ?_) (fun g8 h7 => ?_)
      · (conv=>whnf);refine pw_skip ?_;(conv=>whnf);refine pw_seq ?_;refine pw_block ?_;refine pw_sd ?_;(conv=>whnf);refine pbr_ogrd h7 (fun g9 h7 => ?_);(conv=>whnf);refine nth_o (l := a6) h7 (fun x10 _ h7 => ?_);(conv=>whnf);refine pbr_ogrd h7 (fun g11 h7 => ?_);(conv=>whnf);refine nth_o (l := a2) h7 (fun x12 _ h7 => ?_);(conv=>whnf);refine ⟨?_, trivial⟩;(conv=>whnf);refine ⟨by repeat (first | exact trivial | refine And.intro rfl ?_), ?_⟩;(conv=>whnf);refine pw_seq ?_;refine pw_so ?_;refine po_all ?_;(conv=>whnf);obtain ⟨y13, h14, h7⟩ := obnd_some h7;refine (c15 h14).go ?_;(conv=>whnf);refine pw_cond ?_;(conv=>whnf)
        refine pbr_oite h7 (fun g15 h7 => ?_) (fun g15 h7 => ?_)
        · (conv=>whnf);refine pw_so ?_;refine po_all ?_;(conv=>whnf);refine pw_ret ?_;(conv=>whnf);cases h7;refine ⟨_, rfl, ?_⟩; rintro rfl;(conv=>whnf);obtain rfl := h4 _ rfl; rfl
        · (conv=>whnf);refine pw_skip ?_;(conv=>whnf);refine pw_ops ?_;refine po_all ?_;(conv=>whnf);refine pw_ops ?_;refine po_all ?_;(conv=>whnf);cases h7;refine ⟨_, rfl, ?_⟩;exact .sub' (Nat.le_of_ble_eq_true rfl) (.cons rfl (.cons rfl (.cons rfl (.cons rfl (.cons rfl (.cons rfl .nil))))))
      · (conv=>whnf);refine pw_exit ?_;(conv=>whnf);cases h7;refine ⟨_, rfl, ?_⟩; rintro rfl;(conv=>whnf);exact ⟨_, rfl, ⟨(.cons rfl .nil), rfl⟩⟩
  · intro r18 hr; have H := h3 _ hr;refine pw_so ?_;refine po_all ?_;(conv=>whnf);refine pw_ret ?_;(conv=>whnf);cases H; rfl

/-- guidevane/guidevaneref08.Reserve -/
noncomputable def f320 [LO]  (a0 : Int) (a1 : Int) (a2 : List (ByteArray × Int × Int × Int)) (a3 : Int) (a4 : Int) (a5 : Int) (a6 : List (Int × Int × Int)) (a7 : List Int) (a8 : Int) : Option ((List Int)) :=
  obnd (f328 a0 a1 a2 a3 a4 a5 a6 a7) fun (y1 : (List Int)) =>
  obnd (
   oloop (τ := (List Int) × Int) (ρ := (List Int)) (fun e7 =>
    oite ((ilt e7.2 ((a6.map e_III).length : Int))) (
     ogrd ((ile 0 e7.2)) (
     obnd (y1[e7.2.toNat]?) fun (x12 : Int) =>
     obnd (f351 a0 a1 a2 a3 a4 a5 a6 e7.2 x12 a8) fun (y13 : Int) =>
     ogrd (fits 8 (e7.1.length + ([y13] : List Int).length)) (
     some (.inl (((e7.1 ++ ([y13] : List Int)), (IntKind.i64.wrap (e7.2 + (1 : Int))))))
     )
     )
      ) (
     some (.inr (e7.1))
      )
     ) ((([] : List Int), (0 : Int)))
    ) fun (r3 : (List Int)) =>
  some r3
set_option maxHeartbeats 1000000 in
theorem c320 [LO]  {a0 : Int} {a1 : Int} {a2 : List (ByteArray × Int × Int × Int)} {a3 : Int} {a4 : Int} {a5 : Int} {a6 : List (Int × Int × Int)} {a7 : List Int} {a8 : Int} {x : (List Int)} (H : f320 a0 a1 a2 a3 a4 a5 a6 a7 a8 = some x) : ICalls E 320 [(.agg ⟨[(.int .i64 a0), (.int .i64 a1), (VS 4 (a2.map e_SIII))]⟩), (.agg ⟨[(.int .i64 a3), (.int .i64 a4), (.int .i64 a5), (VS 3 (a6.map e_III))]⟩), (.agg ⟨[(VS 1 (a7.map eI)), (.int .i64 a8)]⟩)] AHeap.none fun v _ => v = (VS 1 (x.map eI)) := by
  refine ICalls.frz ?_;refine icalls_fn (pfnw ?_); unfold f320 at H;(conv=>whnf);refine pw_so ?_;refine po_all ?_;(conv=>whnf);refine pw_so ?_;refine po_all ?_;(conv=>whnf);obtain ⟨y1, h2, H⟩ := obnd_some H;refine (c328 h2).go ?_;(conv=>whnf);refine pw_so ?_;refine po_all ?_;(conv=>whnf);obtain ⟨r3, h4, H⟩ := obnd_some H;refine pw_join (ρ := (List Int)) (fun e => ⟨[(8, (VT 1 (e.map eI) 3))], ⟨4, [(3, .tail (e.map eI).length 1), (2, .rw [(VS 1 (a7.map eI)), (.int .i64 a8)]), (1, .rw [(.int .i64 a3), (.int .i64 a4), (.int .i64 a5), (VS 3 (a6.map e_III))]), (0, .rw [(.int .i64 a0), (.int .i64 a1), (VS 4 (a2.map e_SIII))])], false⟩⟩) r3 ?_ ?_
  · refine pw_so ?_;refine po_all ?_;(conv=>whnf);refine pw_block ?_;refine pw_loop (τ := (List Int) × Int) (fun e => ⟨[(3, (.pointer (some ⟨0, 0, none⟩))), (4, (.pointer (some ⟨1, 0, none⟩))), (5, (.pointer (some ⟨2, 0, none⟩))), (7, (VS 1 (y1.map eI))), (8, (VT 1 (e.1.map eI) 3)), (9, (.int .i64 e.2))], ⟨4, [(3, .tail (e.1.map eI).length 1), (2, .rw [(VS 1 (a7.map eI)), (.int .i64 a8)]), (1, .rw [(.int .i64 a3), (.int .i64 a4), (.int .i64 a5), (VS 3 (a6.map e_III))]), (0, .rw [(.int .i64 a0), (.int .i64 a1), (VS 4 (a2.map e_SIII))])], false⟩⟩) h4 ?_ (fun _ => Nat.le_of_ble_eq_true rfl) ?_
    · exact (Recast.nilTs 1 (Nat.le_of_ble_eq_true rfl) (.same rfl (.same rfl (.same rfl (.same rfl (.turn rfl (.same rfl .nil)))))))
    · intro e7 x8 h9;refine pw_seq ?_;refine pw_so ?_;refine po_all ?_;(conv=>whnf);refine pw_cond ?_;(conv=>whnf);refine pbr_oite h9 (fun g10 h9 => ?_) (fun g10 h9 => ?_)
      · (conv=>whnf);refine pw_skip ?_;(conv=>whnf);refine pw_seq ?_;refine pw_block ?_;refine pw_draw ?_;(conv=>whnf);refine pbr_ogrd h9 (fun g11 h9 => ?_);(conv=>whnf);refine nth_o (l := y1) h9 (fun x12 _ h9 => ?_);(conv=>whnf);refine ⟨?_, trivial⟩;(conv=>whnf);obtain ⟨y13, h14, h9⟩ := obnd_some h9;refine (c351 h14).go ?_;(conv=>whnf);refine ⟨by repeat (first | exact trivial | refine And.intro rfl ?_), ?_⟩;(conv=>whnf);refine ⟨?_, trivial⟩;(conv=>whnf);refine ⟨by repeat (first | exact trivial | refine And.intro rfl ?_), ?_⟩;(conv=>whnf);refine ⟨?_, trivial⟩;(conv=>whnf);refine app_o (l := e7.1) (m := ([y13] : List Int)) (f := eI) h9 (by rfl) (by rfl) (by rfl) (fun h9 => ?_)
        (conv=>whnf);refine ⟨by repeat (first | exact trivial | refine And.intro rfl ?_), ?_⟩;(conv=>whnf);refine ⟨?_, trivial⟩;(conv=>whnf);refine ⟨by repeat (first | exact trivial | refine And.intro rfl ?_), ?_⟩;(conv=>whnf);refine pw_ops ?_;refine po_all ?_;(conv=>whnf);cases h9;refine ⟨_, rfl, ?_⟩;refine Recast.trunc (Nat.le_of_ble_eq_true rfl) ?_ ?_
        · repeat (first | exact .nil | refine .cons rfl (by first | exact OBnd.rwc (Nat.le_of_ble_eq_true rfl) rfl | exact OBnd.tail (Nat.le_of_ble_eq_true rfl) | trivial) ?_)
        · repeat (first | exact .nil | refine .cons rfl (by first | exact Bnd.ptr (Nat.le_of_ble_eq_true rfl) | exact Bnd.vt (Nat.le_of_ble_eq_true rfl) | exact Bnd.cl) ?_)
      · (conv=>whnf);refine pw_exit ?_;(conv=>whnf);cases h9;refine ⟨_, rfl, ?_⟩; rintro rfl;(conv=>whnf);exact ⟨(.cons rfl .nil), rfl⟩
  · refine pw_so ?_;refine po_all ?_;(conv=>whnf);refine pw_ret ?_;(conv=>whnf);cases H; show ∃ D, Fz _ D 0 (VT 1 _ 3) _;exact ⟨fun _ => false, .vtc⟩

/-- guidevane/guidevaneref08.Promised -/
noncomputable def f321 [LO]  (a0 : Int) (a1 : Int) (a2 : List (ByteArray × Int × Int × Int)) (a3 : Int) (a4 : Int) (a5 : Int) (a6 : List (Int × Int × Int)) (a7 : List Int) (a8 : Int) : Option Int :=
  obnd (f320 a0 a1 a2 a3 a4 a5 a6 a7 a8) fun (y1 : (List Int)) =>
  obnd (
   oloop (τ := Int × Int) (ρ := Int) (fun e7 =>
    oite ((ilt e7.2 ((y1.map eI).length : Int))) (
     ogrd ((ile 0 e7.2)) (
     obnd (y1[e7.2.toNat]?) fun (x12 : Int) =>
     oite ((ilt x12 (IntKind.i64.wrap (((y1.map eI).length : Int) - e7.2)))) (
      obnd (y1[e7.2.toNat]?) fun (x14 : Int) =>
      some (.inl (((imin e7.1 x14), (IntKind.i64.wrap (e7.2 + (1 : Int))))))
       ) (
      some (.inl (e7.1, (IntKind.i64.wrap (e7.2 + (1 : Int)))))
       )
     )
      ) (
     some (.inr (e7.1))
      )
     ) (((10 : Int), (0 : Int)))
    ) fun (r3 : Int) =>
  some r3
set_option maxHeartbeats 1000000 in
theorem c321 [LO]  {a0 : Int} {a1 : Int} {a2 : List (ByteArray × Int × Int × Int)} {a3 : Int} {a4 : Int} {a5 : Int} {a6 : List (Int × Int × Int)} {a7 : List Int} {a8 : Int} {x : Int} (H : f321 a0 a1 a2 a3 a4 a5 a6 a7 a8 = some x) : ICalls E 321 [(.agg ⟨[(.int .i64 a0), (.int .i64 a1), (VS 4 (a2.map e_SIII))]⟩), (.agg ⟨[(.int .i64 a3), (.int .i64 a4), (.int .i64 a5), (VS 3 (a6.map e_III))]⟩), (.agg ⟨[(VS 1 (a7.map eI)), (.int .i64 a8)]⟩)] AHeap.none fun v _ => v = (.int .i64 x) := by
  refine icalls_fn (pfnw ?_); unfold f321 at H;(conv=>whnf);refine pw_so ?_;refine po_all ?_;(conv=>whnf);refine pw_so ?_;refine po_all ?_;(conv=>whnf);refine pw_so ?_;refine po_all ?_;(conv=>whnf);obtain ⟨y1, h2, H⟩ := obnd_some H;refine (c320 h2).go ?_;(conv=>whnf);obtain ⟨r3, h4, H⟩ := obnd_some H;refine pw_join (ρ := Int) (fun e => ⟨[(7, (.int .i64 e))], ⟨3, [(2, .rw [(VS 1 (a7.map eI)), (.int .i64 a8)]), (1, .rw [(.int .i64 a3), (.int .i64 a4), (.int .i64 a5), (VS 3 (a6.map e_III))]), (0, .rw [(.int .i64 a0), (.int .i64 a1), (VS 4 (a2.map e_SIII))])], false⟩⟩) r3 ?_ ?_
  · refine pw_so ?_;refine po_all ?_;(conv=>whnf);refine pw_block ?_;refine pw_loop (τ := Int × Int) (fun e => ⟨[(7, (.int .i64 e.1)), (8, (VS 1 (y1.map eI))), (9, (.int .i64 e.2))], ⟨3, [(2, .rw [(VS 1 (a7.map eI)), (.int .i64 a8)]), (1, .rw [(.int .i64 a3), (.int .i64 a4), (.int .i64 a5), (VS 3 (a6.map e_III))]), (0, .rw [(.int .i64 a0), (.int .i64 a1), (VS 4 (a2.map e_SIII))])], false⟩⟩) h4 ?_ (fun _ => Nat.le_of_ble_eq_true rfl) ?_
    · exact .sub' (Nat.le_of_ble_eq_true rfl) (.cons rfl (.cons rfl (.cons rfl .nil)))
    · intro e7 x8 h9;refine pw_seq ?_;refine pw_so ?_;refine po_all ?_;(conv=>whnf);refine pw_cond ?_;(conv=>whnf);refine pbr_oite h9 (fun g10 h9 => ?_) (fun g10 h9 => ?_)
      · (conv=>whnf);refine pw_skip ?_;(conv=>whnf);refine pw_seq ?_;refine pw_block ?_;refine pw_so ?_;refine po_all ?_;(conv=>whnf);refine pbr_ogrd h9 (fun g11 h9 => ?_);(conv=>whnf);refine nth_o (l := y1) h9 (fun x12 _ h9 => ?_);(conv=>whnf);refine pw_cond ?_;(conv=>whnf);refine pbr_oite h9 (fun g13 h9 => ?_) (fun g13 h9 => ?_)
        · (conv=>whnf);refine pw_ops ?_;refine po_all ?_;(conv=>whnf);refine pbr_t g11 ?_;(conv=>whnf);refine nth_o (l := y1) h9 (fun x14 _ h9 => ?_);(conv=>whnf);refine pw_ops ?_;refine po_all ?_;(conv=>whnf);cases h9;refine ⟨_, rfl, ?_⟩;exact .sub' (Nat.le_of_ble_eq_true rfl) (.cons rfl (.cons rfl (.cons rfl .nil)))
        · (conv=>whnf);refine pw_skip ?_;(conv=>whnf);refine pw_ops ?_;refine po_all ?_;(conv=>whnf);cases h9;refine ⟨_, rfl, ?_⟩;exact .sub' (Nat.le_of_ble_eq_true rfl) (.cons rfl (.cons rfl (.cons rfl .nil)))
      · (conv=>whnf);refine pw_exit ?_;(conv=>whnf);cases h9;refine ⟨_, rfl, ?_⟩; rintro rfl;(conv=>whnf);exact ⟨(.cons rfl .nil), rfl⟩
  · refine pw_so ?_;refine po_all ?_;(conv=>whnf);refine pw_ret ?_;(conv=>whnf);cases H; rfl

/-- guidevane/guidevanelaw08.DispatchReserves -/
noncomputable def f300 [LO]  (a0 : Int) (a1 : Int) (a2 : List (ByteArray × Int × Int × Int)) (a3 : Int) (a4 : Int) (a5 : Int) (a6 : List (Int × Int × Int)) (a7 : List Int) (a8 : Int) : Option Bool :=
  obnd (f198) fun (y1 : Bool) =>
  oite (!y1) (
   some false
    ) (
   obnd (
    obnd (f307 a0 a1 a2) fun (y8 : Bool) =>
    obnd (
     oite (!y8) (
      some true
       ) (
      obnd (f308 a3 a4 a5 a6) fun (y13 : Bool) =>
      some (!y13)
       )
      ) fun (r10 : Bool) =>
    oite r10 (
     some true
      ) (
     some (ilt (12 : Int) ((a7.map eI).length : Int))
      )
     ) fun (r4 : Bool) =>
   oite r4 (
    some true
     ) (
    obnd (f309 a0 a1 a2) fun (y17 : Int × Int × (List (ByteArray × Int × Int × Int))) =>
    obnd (f310 a3 a4 a5 a6) fun (y19 : Int × Int × Int × (List (Int × Int × Int))) =>
    obnd (f317 a7 a8) fun (y21 : (List Int) × Int) =>
    obnd (f209 y17.1 y17.2.1 y17.2.2 y19.1 y19.2.1 y19.2.2.1 y19.2.2.2 y21.1 y21.2) fun (y23 : (List Int) × Int) =>
    obnd (f309 a0 a1 a2) fun (y25 : Int × Int × (List (ByteArray × Int × Int × Int))) =>
    obnd (f310 a3 a4 a5 a6) fun (y27 : Int × Int × Int × (List (Int × Int × Int))) =>
    obnd (f317 a7 a8) fun (y29 : (List Int) × Int) =>
    obnd (f318 y25.1 y25.2.1 y25.2.2 y27.1 y27.2.1 y27.2.2.1 y27.2.2.2 y29.1 y29.2) fun (y31 : Int × Int) =>
    obnd (f311 a0 a1 a2 a3 a4 a5 a6) fun (y33 : Int) =>
    obnd (
     oite ((ieq y33 (0 : Int))) (
      obnd (f319 a0 a1 a2 a3 a4 a5 a6 a7 a8) fun (y40 : Int) =>
      some y40
       ) (
      some y33
       )
      ) fun (r35 : Int) =>
    oite ((!(ieq r35 (0 : Int)))) (
     obnd (
      oite ((ieq y23.2 r35)) (
       some (ieq y31.2 r35)
        ) (
       some false
        )
       ) fun (r43 : Bool) =>
     obnd (
      oite r43 (
       some (ieq ((y23.1.map eI).length : Int) (0 : Int))
        ) (
       some false
        )
       ) fun (r46 : Bool) =>
     obnd (
      oite r46 (
       some (ieq y31.1 (0 : Int))
        ) (
       some false
        )
       ) fun (r49 : Bool) =>
     some r49
      ) (
     obnd (
      oite ((ieq y23.2 (0 : Int))) (
       obnd (f320 a0 a1 a2 a3 a4 a5 a6 a7 a8) fun (y55 : (List Int)) =>
       obnd (f26 y23.1 y55) fun (y57 : Bool) =>
       some y57
        ) (
       some false
        )
       ) fun (r52 : Bool) =>
     obnd (
      oite r52 (
       some (ieq y31.2 (0 : Int))
        ) (
       some false
        )
       ) fun (r59 : Bool) =>
     obnd (
      oite r59 (
       obnd (f321 a0 a1 a2 a3 a4 a5 a6 a7 a8) fun (y65 : Int) =>
       some (ieq y31.1 y65)
        ) (
       some false
        )
       ) fun (r62 : Bool) =>
     some r62
      )
     )
    )
set_option maxHeartbeats 1000000 in
theorem c300 [LO]  {a0 : Int} {a1 : Int} {a2 : List (ByteArray × Int × Int × Int)} {a3 : Int} {a4 : Int} {a5 : Int} {a6 : List (Int × Int × Int)} {a7 : List Int} {a8 : Int} {x : Bool} (H : f300 a0 a1 a2 a3 a4 a5 a6 a7 a8 = some x) : ICalls E 300 [(.agg ⟨[(.int .i64 a0), (.int .i64 a1), (VS 4 (a2.map e_SIII))]⟩), (.agg ⟨[(.int .i64 a3), (.int .i64 a4), (.int .i64 a5), (VS 3 (a6.map e_III))]⟩), (.agg ⟨[(VS 1 (a7.map eI)), (.int .i64 a8)]⟩)] AHeap.none fun v _ => v = (.bool x) := by
  refine icalls_fn (pfnw ?_); unfold f300 at H;(conv=>whnf);refine pw_so ?_;refine po_all ?_;(conv=>whnf);refine pw_seq ?_;refine pw_so ?_;refine po_all ?_;(conv=>whnf);obtain ⟨y1, h2, H⟩ := obnd_some H;refine (c198 h2).go ?_;(conv=>whnf);refine pw_cond ?_;(conv=>whnf);refine pbr_oite H (fun g3 H => ?_) (fun g3 H => ?_)
  · (conv=>whnf);refine pw_so ?_;refine po_all ?_;(conv=>whnf);refine pw_ret ?_;(conv=>whnf);cases H; rfl
  · (conv=>whnf);refine pw_skip ?_;(conv=>whnf);refine pw_seq ?_;obtain ⟨r4, h5, H⟩ := obnd_some H;refine pw_join (ρ := Bool) (fun e => ⟨[(3, (.pointer (some ⟨0, 0, none⟩))), (4, (.pointer (some ⟨1, 0, none⟩))), (5, (.pointer (some ⟨2, 0, none⟩))), (27, (.bool e))], ⟨3, [(2, .rw [(VS 1 (a7.map eI)), (.int .i64 a8)]), (1, .rw [(.int .i64 a3), (.int .i64 a4), (.int .i64 a5), (VS 3 (a6.map e_III))]), (0, .rw [(.int .i64 a0), (.int .i64 a1), (VS 4 (a2.map e_SIII))])], false⟩⟩) r4 ?_ ?_
    · refine pw_ops ?_;refine po_ops 4 ?_;(conv=>whnf);obtain ⟨y8, h9, h5⟩ := obnd_some h5;refine (c307 h9).go ?_;(conv=>whnf);obtain ⟨r10, h11, h5⟩ := obnd_some h5;refine po_seg (τ := Bool) 4 (fun e => ⟨[(3, (.pointer (some ⟨0, 0, none⟩))), (4, (.pointer (some ⟨1, 0, none⟩))), (5, (.pointer (some ⟨2, 0, none⟩))), (21, (.bool e))], ⟨3, [(2, .rw [(VS 1 (a7.map eI)), (.int .i64 a8)]), (1, .rw [(.int .i64 a3), (.int .i64 a4), (.int .i64 a5), (VS 3 (a6.map e_III))]), (0, .rw [(.int .i64 a0), (.int .i64 a1), (VS 4 (a2.map e_SIII))])], false⟩⟩) r10 ?_ ?_
      · refine po_all ?_;(conv=>whnf);refine pbr_oite h11 (fun g12 h11 => ?_) (fun g12 h11 => ?_)
        · (conv=>whnf);refine pbr_t g12 ?_;(conv=>whnf);refine pbr_t g12 ?_;(conv=>whnf);refine pbr_t g12 ?_;(conv=>whnf);cases h11;exact ⟨(.cons rfl (.cons rfl (.cons rfl (.cons rfl .nil)))), rfl⟩
        · (conv=>whnf);refine pbr_f g12 ?_;(conv=>whnf);obtain ⟨y13, h14, h11⟩ := obnd_some h11;refine (c308 h14).go ?_;(conv=>whnf);refine pbr_f g12 ?_;(conv=>whnf);refine pbr_f g12 ?_;(conv=>whnf);cases h11;exact ⟨(.cons rfl (.cons rfl (.cons rfl (.cons rfl .nil)))), rfl⟩
      · refine po_all ?_;(conv=>whnf);refine pbr_oite h5 (fun g15 h5 => ?_) (fun g15 h5 => ?_)
        · (conv=>whnf);refine pbr_t g15 ?_;(conv=>whnf);refine pbr_t g15 ?_;(conv=>whnf);refine pbr_t g15 ?_;(conv=>whnf);refine pbr_t g15 ?_;(conv=>whnf);cases h5;exact ⟨(.cons rfl (.cons rfl (.cons rfl (.cons rfl .nil)))), rfl⟩
        · (conv=>whnf);refine pbr_f g15 ?_;(conv=>whnf);refine pbr_f g15 ?_;(conv=>whnf);refine pbr_f g15 ?_;(conv=>whnf);refine pbr_f g15 ?_;(conv=>whnf);cases h5;exact ⟨(.cons rfl (.cons rfl (.cons rfl (.cons rfl .nil)))), rfl⟩
    · refine pw_cond ?_;(conv=>whnf);refine pbr_oite H (fun g16 H => ?_) (fun g16 H => ?_)
      · (conv=>whnf);refine pw_so ?_;refine po_all ?_;(conv=>whnf);refine pw_ret ?_;(conv=>whnf);cases H; rfl
      · (conv=>whnf);refine pw_skip ?_;(conv=>whnf);refine pw_sd ?_;(conv=>whnf);refine ⟨?_, trivial⟩;(conv=>whnf);obtain ⟨y17, h18, H⟩ := obnd_some H;refine (c309 h18).go ?_;(conv=>whnf);refine ⟨by repeat (first | exact trivial | refine And.intro rfl ?_), ?_⟩;(conv=>whnf);refine ⟨?_, trivial⟩;(conv=>whnf);obtain ⟨y19, h20, H⟩ := obnd_some H;refine (c310 h20).go ?_;(conv=>whnf);refine ⟨by repeat (first | exact trivial | refine And.intro rfl ?_), ?_⟩;(conv=>whnf);refine ⟨?_, trivial⟩;(conv=>whnf);obtain ⟨y21, h22, H⟩ := obnd_some H;refine (c317 h22).go ?_;(conv=>whnf);refine ⟨by repeat (first | exact trivial | refine And.intro rfl ?_), ?_⟩
        (conv=>whnf);refine ⟨?_, trivial⟩;(conv=>whnf);obtain ⟨y23, h24, H⟩ := obnd_some H;refine (c209 h24).go ?_;(conv=>whnf);refine ⟨by repeat (first | exact trivial | refine And.intro rfl ?_), ?_⟩;(conv=>whnf);refine pw_sd ?_;(conv=>whnf);refine ⟨?_, trivial⟩;(conv=>whnf);obtain ⟨y25, h26, H⟩ := obnd_some H;refine (c309 h26).go ?_;(conv=>whnf);refine ⟨by repeat (first | exact trivial | refine And.intro rfl ?_), ?_⟩;(conv=>whnf);refine ⟨?_, trivial⟩;(conv=>whnf);obtain ⟨y27, h28, H⟩ := obnd_some H;refine (c310 h28).go ?_;(conv=>whnf);refine ⟨by repeat (first | exact trivial | refine And.intro rfl ?_), ?_⟩
        (conv=>whnf);refine ⟨?_, trivial⟩;(conv=>whnf);obtain ⟨y29, h30, H⟩ := obnd_some H;refine (c317 h30).go ?_;(conv=>whnf);refine ⟨by repeat (first | exact trivial | refine And.intro rfl ?_), ?_⟩;(conv=>whnf);refine ⟨?_, trivial⟩;(conv=>whnf);obtain ⟨y31, h32, H⟩ := obnd_some H;refine (c318 h32).go ?_;(conv=>whnf);refine ⟨by repeat (first | exact trivial | refine And.intro rfl ?_), ?_⟩;(conv=>whnf);refine pw_so ?_;refine po_all ?_;(conv=>whnf);obtain ⟨y33, h34, H⟩ := obnd_some H;refine (c311 h34).go ?_;(conv=>whnf);obtain ⟨r35, h36, H⟩ := obnd_some H;refine pw_join (ρ := Int) (fun e => ⟨[(3, (.pointer (some ⟨0, 0, none⟩))), (4, (.pointer (some ⟨1, 0, none⟩))), (5, (.pointer (some ⟨2, 0, none⟩))), (7, (VS 1 (y23.1.map eI))), (8, (.int .i64 y23.2)), (9, (.int .i64 y31.1)), (10, (.int .i64 y31.2)), (11, (.int .i64 e))], ⟨3, [(2, .rw [(VS 1 (a7.map eI)), (.int .i64 a8)]), (1, .rw [(.int .i64 a3), (.int .i64 a4), (.int .i64 a5), (VS 3 (a6.map e_III))]), (0, .rw [(.int .i64 a0), (.int .i64 a1), (VS 4 (a2.map e_SIII))])], false⟩⟩) r35 ?_ ?_
        · refine pw_so ?_;refine po_all ?_;(conv=>whnf);refine pw_cond ?_;(conv=>whnf);refine pbr_oite h36 (fun g39 h36 => ?_) (fun g39 h36 => ?_)
          · (conv=>whnf);refine pw_ops ?_;refine po_all ?_;(conv=>whnf);obtain ⟨y40, h41, h36⟩ := obnd_some h36;refine (c319 h41).go ?_;(conv=>whnf);cases h36;exact ⟨(.cons rfl (.cons rfl (.cons rfl (.cons rfl (.cons rfl (.cons rfl (.cons rfl (.cons rfl .nil)))))))), rfl⟩
          · (conv=>whnf);refine pw_skip ?_;(conv=>whnf);cases h36;exact ⟨(.cons rfl (.cons rfl (.cons rfl (.cons rfl (.cons rfl (.cons rfl (.cons rfl (.cons rfl .nil)))))))), rfl⟩
        · refine pw_seq ?_;refine pw_so ?_;refine po_all ?_;(conv=>whnf);refine pw_cond ?_;(conv=>whnf);refine pbr_oite H (fun g42 H => ?_) (fun g42 H => ?_)
          · (conv=>whnf);refine pw_so ?_;refine po_ops 4 ?_;(conv=>whnf);obtain ⟨r43, h44, H⟩ := obnd_some H;refine po_seg (τ := Bool) 4 (fun e => ⟨[(7, (VS 1 (y23.1.map eI))), (9, (.int .i64 y31.1)), (66, (.bool e))], ⟨3, [(2, .rw [(VS 1 (a7.map eI)), (.int .i64 a8)]), (1, .rw [(.int .i64 a3), (.int .i64 a4), (.int .i64 a5), (VS 3 (a6.map e_III))]), (0, .rw [(.int .i64 a0), (.int .i64 a1), (VS 4 (a2.map e_SIII))])], false⟩⟩) r43 ?_ ?_
            · refine po_all ?_;(conv=>whnf);refine pbr_oite h44 (fun g45 h44 => ?_) (fun g45 h44 => ?_)
              · (conv=>whnf);refine pbr_t g45 ?_;(conv=>whnf);refine pbr_t g45 ?_;(conv=>whnf);refine pbr_t g45 ?_;(conv=>whnf);cases h44;exact ⟨(.cons rfl (.cons rfl (.cons rfl .nil))), rfl⟩
              · (conv=>whnf);refine pbr_f g45 ?_;(conv=>whnf);refine pbr_f g45 ?_;(conv=>whnf);refine pbr_f g45 ?_;(conv=>whnf);cases h44;exact ⟨(.cons rfl (.cons rfl (.cons rfl .nil))), rfl⟩
            · refine po_ops 1 ?_;(conv=>whnf);obtain ⟨r46, h47, H⟩ := obnd_some H;refine po_seg (τ := Bool) 4 (fun e => ⟨[(9, (.int .i64 y31.1)), (71, (.bool e))], ⟨3, [(2, .rw [(VS 1 (a7.map eI)), (.int .i64 a8)]), (1, .rw [(.int .i64 a3), (.int .i64 a4), (.int .i64 a5), (VS 3 (a6.map e_III))]), (0, .rw [(.int .i64 a0), (.int .i64 a1), (VS 4 (a2.map e_SIII))])], false⟩⟩) r46 ?_ ?_
              · refine po_all ?_;(conv=>whnf);refine pbr_oite h47 (fun g48 h47 => ?_) (fun g48 h47 => ?_)
                · (conv=>whnf);refine pbr_t g48 ?_;(conv=>whnf);refine pbr_t g48 ?_;(conv=>whnf);refine pbr_t g48 ?_;(conv=>whnf);cases h47;exact ⟨(.cons rfl (.cons rfl .nil)), rfl⟩
                · (conv=>whnf);refine pbr_f g48 ?_;(conv=>whnf);refine pbr_f g48 ?_;(conv=>whnf);refine pbr_f g48 ?_;(conv=>whnf);cases h47;exact ⟨(.cons rfl (.cons rfl .nil)), rfl⟩
              · refine po_ops 1 ?_;(conv=>whnf);obtain ⟨r49, h50, H⟩ := obnd_some H;refine po_seg (τ := Bool) 3 (fun e => ⟨[(75, (.bool e))], ⟨3, [(2, .rw [(VS 1 (a7.map eI)), (.int .i64 a8)]), (1, .rw [(.int .i64 a3), (.int .i64 a4), (.int .i64 a5), (VS 3 (a6.map e_III))]), (0, .rw [(.int .i64 a0), (.int .i64 a1), (VS 4 (a2.map e_SIII))])], false⟩⟩) r49 ?_ ?_
                · refine po_all ?_;(conv=>whnf);refine pbr_oite h50 (fun g51 h50 => ?_) (fun g51 h50 => ?_)
                  · (conv=>whnf);refine pbr_t g51 ?_;(conv=>whnf);refine pbr_t g51 ?_;(conv=>whnf);cases h50;exact ⟨(.cons rfl .nil), rfl⟩
                  · (conv=>whnf);refine pbr_f g51 ?_;(conv=>whnf);refine pbr_f g51 ?_;(conv=>whnf);cases h50;exact ⟨(.cons rfl .nil), rfl⟩
                · refine po_all ?_;(conv=>whnf);refine pw_ret ?_;(conv=>whnf);cases H; rfl
          · (conv=>whnf);refine pw_skip ?_;(conv=>whnf);refine pw_so ?_;refine po_ops 3 ?_;(conv=>whnf);obtain ⟨r52, h53, H⟩ := obnd_some H;refine po_seg (τ := Bool) 7 (fun e => ⟨[(3, (.pointer (some ⟨0, 0, none⟩))), (4, (.pointer (some ⟨1, 0, none⟩))), (5, (.pointer (some ⟨2, 0, none⟩))), (9, (.int .i64 y31.1)), (10, (.int .i64 y31.2)), (85, (.bool e))], ⟨3, [(2, .rw [(VS 1 (a7.map eI)), (.int .i64 a8)]), (1, .rw [(.int .i64 a3), (.int .i64 a4), (.int .i64 a5), (VS 3 (a6.map e_III))]), (0, .rw [(.int .i64 a0), (.int .i64 a1), (VS 4 (a2.map e_SIII))])], false⟩⟩) r52 ?_ ?_
            · refine po_all ?_;(conv=>whnf);refine pbr_oite h53 (fun g54 h53 => ?_) (fun g54 h53 => ?_)
              · (conv=>whnf);refine pbr_t g54 ?_;(conv=>whnf);refine pbr_t g54 ?_;(conv=>whnf);refine pbr_t g54 ?_;(conv=>whnf);refine pbr_t g54 ?_;(conv=>whnf);obtain ⟨y55, h56, h53⟩ := obnd_some h53;refine (c320 h56).go ?_;(conv=>whnf);refine pbr_t g54 ?_;(conv=>whnf);obtain ⟨y57, h58, h53⟩ := obnd_some h53;refine (c26 h58).go ?_;(conv=>whnf);refine pbr_t g54 ?_;(conv=>whnf);cases h53;exact ⟨(.cons rfl (.cons rfl (.cons rfl (.cons rfl (.cons rfl (.cons rfl .nil)))))), rfl⟩
              · (conv=>whnf);refine pbr_f g54 ?_;(conv=>whnf);refine pbr_f g54 ?_;(conv=>whnf);refine pbr_f g54 ?_;(conv=>whnf);refine pbr_f g54 ?_;(conv=>whnf);refine pbr_f g54 ?_;(conv=>whnf);refine pbr_f g54 ?_;(conv=>whnf);cases h53;exact ⟨(.cons rfl (.cons rfl (.cons rfl (.cons rfl (.cons rfl (.cons rfl .nil)))))), rfl⟩
            · refine po_ops 1 ?_;(conv=>whnf);obtain ⟨r59, h60, H⟩ := obnd_some H;refine po_seg (τ := Bool) 3 (fun e => ⟨[(3, (.pointer (some ⟨0, 0, none⟩))), (4, (.pointer (some ⟨1, 0, none⟩))), (5, (.pointer (some ⟨2, 0, none⟩))), (9, (.int .i64 y31.1)), (89, (.bool e))], ⟨3, [(2, .rw [(VS 1 (a7.map eI)), (.int .i64 a8)]), (1, .rw [(.int .i64 a3), (.int .i64 a4), (.int .i64 a5), (VS 3 (a6.map e_III))]), (0, .rw [(.int .i64 a0), (.int .i64 a1), (VS 4 (a2.map e_SIII))])], false⟩⟩) r59 ?_ ?_
              · refine po_all ?_;(conv=>whnf);refine pbr_oite h60 (fun g61 h60 => ?_) (fun g61 h60 => ?_)
                · (conv=>whnf);refine pbr_t g61 ?_;(conv=>whnf);refine pbr_t g61 ?_;(conv=>whnf);cases h60;exact ⟨(.cons rfl (.cons rfl (.cons rfl (.cons rfl (.cons rfl .nil))))), rfl⟩
                · (conv=>whnf);refine pbr_f g61 ?_;(conv=>whnf);refine pbr_f g61 ?_;(conv=>whnf);cases h60;exact ⟨(.cons rfl (.cons rfl (.cons rfl (.cons rfl (.cons rfl .nil))))), rfl⟩
              · refine po_ops 1 ?_;(conv=>whnf);obtain ⟨r62, h63, H⟩ := obnd_some H;refine po_seg (τ := Bool) 7 (fun e => ⟨[(97, (.bool e))], ⟨3, [(2, .rw [(VS 1 (a7.map eI)), (.int .i64 a8)]), (1, .rw [(.int .i64 a3), (.int .i64 a4), (.int .i64 a5), (VS 3 (a6.map e_III))]), (0, .rw [(.int .i64 a0), (.int .i64 a1), (VS 4 (a2.map e_SIII))])], false⟩⟩) r62 ?_ ?_
                · refine po_all ?_;(conv=>whnf);refine pbr_oite h63 (fun g64 h63 => ?_) (fun g64 h63 => ?_)
                  · (conv=>whnf);refine pbr_t g64 ?_;(conv=>whnf);refine pbr_t g64 ?_;(conv=>whnf);refine pbr_t g64 ?_;(conv=>whnf);refine pbr_t g64 ?_;(conv=>whnf);obtain ⟨y65, h66, h63⟩ := obnd_some h63;refine (c321 h66).go ?_;(conv=>whnf);refine pbr_t g64 ?_;(conv=>whnf);refine pbr_t g64 ?_;(conv=>whnf);cases h63;exact ⟨(.cons rfl .nil), rfl⟩
                  · (conv=>whnf);refine pbr_f g64 ?_;(conv=>whnf);refine pbr_f g64 ?_;(conv=>whnf);refine pbr_f g64 ?_;(conv=>whnf);refine pbr_f g64 ?_;(conv=>whnf);refine pbr_f g64 ?_;(conv=>whnf);refine pbr_f g64 ?_;(conv=>whnf);cases h63;exact ⟨(.cons rfl .nil), rfl⟩
                · refine po_all ?_;(conv=>whnf);refine pw_ret ?_;(conv=>whnf);cases H; rfl

end Go.Proofs.YtmbekcealcjabaaGreat.AM
