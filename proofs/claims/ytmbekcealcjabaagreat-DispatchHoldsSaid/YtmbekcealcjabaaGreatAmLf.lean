/- Computations of functions, and that the functions do them (printed by tools/lift.py). Conditions: none. -/
import Derived.Test.YtmbekcealcjabaaGreatAmMan
namespace Go.Proofs.YtmbekcealcjabaaGreat.AM
set_option linter.unusedSimpArgs false
set_option linter.unusedVariables false
open Go Go.RowKit
attribute [local irreducible] ICallV ICalls Recast rng
abbrev e_L1B (x : (List Bool)) : Value := VS 1 (x.map eB)
instance {x : (List Bool)} : Cl (e_L1B x) := inferInstanceAs (Cl (VS 1 (x.map eB)))

/-- guidevane/guidevanelaw08.Few -/
noncomputable def f307 [LO]  (_ : Int) (_ : Int) (a2 : List (ByteArray × Int × Int × Int)) : Option Bool :=
  oite ((ilt (7 : Int) ((a2.map e_SIII).length : Int))) (
   some false
    ) (
   obndS (
    oloop (τ := Int) (ρ := (Unit) ⊕ Bool) (fun e6 =>
     oite ((ilt e6 ((a2.map e_SIII).length : Int))) (
      ogrd ((ile 0 e6)) (
      obnd (a2[e6.toNat]?) fun (x11 : ByteArray × Int × Int × Int) =>
      oite ((ilt (20 : Int) (x11.1.size : Int))) (
       some (.inr (.inr (false)))
        ) (
       some (.inl (IntKind.i64.wrap (e6 + (1 : Int))))
        )
      )
       ) (
      some (.inr (.inl ()))
       )
      ) (0 : Int)
     ) fun (_ : Unit) =>
   some true
    )
set_option maxHeartbeats 1000000 in
theorem c307 [LO]  {a0 : Int} {a1 : Int} {a2 : List (ByteArray × Int × Int × Int)} {x : Bool} (H : f307 a0 a1 a2 = some x) : ICalls E 307 [(.agg ⟨[(.int .i64 a0), (.int .i64 a1), (VS 4 (a2.map e_SIII))]⟩)] AHeap.none fun v _ => v = (.bool x) := by
  refine icalls_fn (pfnw ?_); unfold f307 at H;(conv=>whnf);refine pw_so ?_;refine po_all ?_;(conv=>whnf);refine pw_seq ?_;refine pw_so ?_;refine po_all ?_;(conv=>whnf);refine pw_cond ?_;(conv=>whnf);refine pbr_oite H (fun g1 H => ?_) (fun g1 H => ?_)
  · (conv=>whnf);refine pw_so ?_;refine po_all ?_;(conv=>whnf);refine pw_ret ?_;(conv=>whnf);cases H; rfl
  · (conv=>whnf);refine pw_skip ?_;(conv=>whnf);obtain ⟨r2, h3, h4, h5⟩ := obndS_some H;refine pw_joinS (ρ := Unit) (fun e => ⟨[], ⟨1, [(0, .rw [(.int .i64 a0), (.int .i64 a1), (VS 4 (a2.map e_SIII))])], false⟩⟩) r2 ?_ ?_
    · refine pw_so ?_;refine po_all ?_;(conv=>whnf);refine pw_block ?_;refine pw_loop (τ := Int) (fun e => ⟨[(1, (.pointer (some ⟨0, 0, none⟩))), (3, (.int .i64 e))], ⟨1, [(0, .rw [(.int .i64 a0), (.int .i64 a1), (VS 4 (a2.map e_SIII))])], false⟩⟩) h3 ?_ (fun _ => Nat.le_of_ble_eq_true rfl) ?_
      · exact .sub' (Nat.le_of_ble_eq_true rfl) (.cons rfl (.cons rfl .nil))
      · intro e6 x7 h8;refine pw_seq ?_;refine pw_so ?_;refine po_all ?_;(conv=>whnf);refine pw_cond ?_;(conv=>whnf);refine pbr_oite h8 (fun g9 h8 => ?_) (fun g9 h8 => ?_)
        · (conv=>whnf);refine pw_skip ?_;(conv=>whnf);refine pw_seq ?_;refine pw_block ?_;refine pw_so ?_;refine po_all ?_;(conv=>whnf);refine pbr_ogrd h8 (fun g10 h8 => ?_);(conv=>whnf);refine nth_o (l := a2) h8 (fun x11 _ h8 => ?_);(conv=>whnf);refine pw_cond ?_;(conv=>whnf);refine pbr_oite h8 (fun g12 h8 => ?_) (fun g12 h8 => ?_)
          · (conv=>whnf);refine pw_so ?_;refine po_all ?_;(conv=>whnf);refine pw_ret ?_;(conv=>whnf);cases h8;refine ⟨_, rfl, ?_⟩; rintro rfl;(conv=>whnf);obtain rfl := h5 _ rfl; rfl
          · (conv=>whnf);refine pw_skip ?_;(conv=>whnf);refine pw_ops ?_;refine po_all ?_;(conv=>whnf);cases h8;refine ⟨_, rfl, ?_⟩;exact .sub' (Nat.le_of_ble_eq_true rfl) (.cons rfl (.cons rfl .nil))
        · (conv=>whnf);refine pw_exit ?_;(conv=>whnf);cases h8;refine ⟨_, rfl, ?_⟩; rintro rfl;(conv=>whnf);exact ⟨_, rfl, ⟨.nil, rfl⟩⟩
    · intro r15 hr; have H := h4 _ hr;refine pw_so ?_;refine po_all ?_;(conv=>whnf);refine pw_ret ?_;(conv=>whnf);cases H; rfl

/-- guidevane/guidevanelaw08.Short -/
noncomputable def f308  (_ : Int) (_ : Int) (_ : Int) (a3 : List (Int × Int × Int)) : Option Bool :=
  some (ile ((a3.map e_III).length : Int) (12 : Int))
set_option maxHeartbeats 1000000 in
theorem c308  {a0 : Int} {a1 : Int} {a2 : Int} {a3 : List (Int × Int × Int)} {x : Bool} (H : f308 a0 a1 a2 a3 = some x) : ICalls E 308 [(.agg ⟨[(.int .i64 a0), (.int .i64 a1), (.int .i64 a2), (VS 3 (a3.map e_III))]⟩)] AHeap.none fun v _ => v = (.bool x) := by
  refine icalls_fn (pfnw ?_); unfold f308 at H;(conv=>whnf);refine pw_so ?_;refine po_all ?_;(conv=>whnf);refine pw_so ?_;refine po_all ?_;(conv=>whnf);refine pw_ret ?_;(conv=>whnf);cases H; rfl

/-- guidevane/guidevaneref08.CopyPlant -/
noncomputable def f309  (a0 : Int) (a1 : Int) (a2 : List (ByteArray × Int × Int × Int)) : Option (Int × Int × (List (ByteArray × Int × Int × Int))) :=
  ogrd (fits 40 (([] : List (ByteArray × Int × Int × Int)).length + a2.length)) (
  some (a0, a1, (([] : List (ByteArray × Int × Int × Int)) ++ a2))
  )
set_option maxHeartbeats 1000000 in
theorem c309  {a0 : Int} {a1 : Int} {a2 : List (ByteArray × Int × Int × Int)} {x : Int × Int × (List (ByteArray × Int × Int × Int))} (H : f309 a0 a1 a2 = some x) : ICalls E 309 [(.agg ⟨[(.int .i64 a0), (.int .i64 a1), (VS 4 (a2.map e_SIII))]⟩)] AHeap.none fun v _ => v = (.agg ⟨[(.int .i64 x.1), (.int .i64 x.2.1), (VS 4 (x.2.2.map e_SIII))]⟩) := by
  refine ICalls.frz ?_;refine icalls_fn (pfnw ?_); unfold f309 at H;(conv=>whnf);refine pw_so ?_;refine po_all ?_;(conv=>whnf);refine pw_so ?_;refine po_all ?_;(conv=>whnf);refine app_o (l := ([] : List (ByteArray × Int × Int × Int))) (m := a2) (f := e_SIII) H (by rfl) (by rfl) (by rfl) (fun H => ?_);(conv=>whnf);refine pw_so ?_;refine po_all ?_;(conv=>whnf);refine pw_ret ?_;(conv=>whnf);cases H; show ∃ D, Fz _ D 0 (.agg ⟨[(.int .i64 a0), (.int .i64 a1), (VT 4 _ 2)]⟩) _;exact ⟨fun _ => false, .aggl (.cons .cl (.cons .cl (.cons .vtc (.nil))))⟩

/-- guidevane/guidevaneref08.CopyTask -/
noncomputable def f310  (a0 : Int) (a1 : Int) (a2 : Int) (a3 : List (Int × Int × Int)) : Option (Int × Int × Int × (List (Int × Int × Int))) :=
  ogrd (fits 24 (([] : List (Int × Int × Int)).length + a3.length)) (
  some (a0, a1, a2, (([] : List (Int × Int × Int)) ++ a3))
  )
set_option maxHeartbeats 1000000 in
theorem c310  {a0 : Int} {a1 : Int} {a2 : Int} {a3 : List (Int × Int × Int)} {x : Int × Int × Int × (List (Int × Int × Int))} (H : f310 a0 a1 a2 a3 = some x) : ICalls E 310 [(.agg ⟨[(.int .i64 a0), (.int .i64 a1), (.int .i64 a2), (VS 3 (a3.map e_III))]⟩)] AHeap.none fun v _ => v = (.agg ⟨[(.int .i64 x.1), (.int .i64 x.2.1), (.int .i64 x.2.2.1), (VS 3 (x.2.2.2.map e_III))]⟩) := by
  refine ICalls.frz ?_;refine icalls_fn (pfnw ?_); unfold f310 at H;(conv=>whnf);refine pw_so ?_;refine po_all ?_;(conv=>whnf);refine pw_so ?_;refine po_all ?_;(conv=>whnf);refine app_o (l := ([] : List (Int × Int × Int))) (m := a3) (f := e_III) H (by rfl) (by rfl) (by rfl) (fun H => ?_);(conv=>whnf);refine pw_so ?_;refine po_all ?_;(conv=>whnf);refine pw_ret ?_;(conv=>whnf);cases H; show ∃ D, Fz _ D 0 (.agg ⟨[(.int .i64 a0), (.int .i64 a1), (.int .i64 a2), (VT 3 _ 2)]⟩) _;exact ⟨fun _ => false, .aggl (.cons .cl (.cons .cl (.cons .cl (.cons .vtc (.nil)))))⟩

/-- guidevane/dispatch.BestWith -/
noncomputable def f314  (a0 : Int) (a1 : Int) (a2 : List (ByteArray × Int × Int × Int)) (a3 : Int) (a4 : Int) (a5 : Int) (a6 : List (Int × Int × Int)) (a7 : Int) (a8 : Int) : Option ((List Int) × Int × Int) :=
  obnd (f219 a0 a1 a2 a3 a4 a5 a6) fun (y1 : Int × Int × (List (ByteArray × Int × Int × Int)) × Int × Int × Int × (List (Int × Int × Int)) × Int) =>
  obnd (f222 y1.1 y1.2.1 y1.2.2.1 y1.2.2.2.1 y1.2.2.2.2.1 y1.2.2.2.2.2.1 y1.2.2.2.2.2.2.1 a7) fun (y3 : Bool) =>
  obnd (f214 y3 (6 : Int)) fun (y5 : Int) =>
  obnd (f216 a8 (0 : Int) (10 : Int)) fun (y7 : Bool) =>
  obnd (f214 y7 (2 : Int)) fun (y9 : Int) =>
  obnd (f213 ([y1.2.2.2.2.2.2.2, y5, y9] : List Int)) fun (y11 : Int) =>
  oite ((!(ieq y11 (0 : Int)))) (
   some (([] : List Int), (0 : Int), y11)
    ) (
   obnd (f220 y1.1 y1.2.1 y1.2.2.1 y1.2.2.2.1 y1.2.2.2.2.1 y1.2.2.2.2.2.1 y1.2.2.2.2.2.2.1 a7 a8) fun (y14 : (List Int) × Int × Bool) =>
   obnd (f214 y14.2.2 (12 : Int)) fun (y16 : Int) =>
   some (y14.1, y14.2.1, y16)
    )
set_option maxHeartbeats 1000000 in
theorem c314  {a0 : Int} {a1 : Int} {a2 : List (ByteArray × Int × Int × Int)} {a3 : Int} {a4 : Int} {a5 : Int} {a6 : List (Int × Int × Int)} {a7 : Int} {a8 : Int} {x : (List Int) × Int × Int} (H : f314 a0 a1 a2 a3 a4 a5 a6 a7 a8 = some x) : ICalls E 314 [(.agg ⟨[(.int .i64 a0), (.int .i64 a1), (VS 4 (a2.map e_SIII))]⟩), (.agg ⟨[(.int .i64 a3), (.int .i64 a4), (.int .i64 a5), (VS 3 (a6.map e_III))]⟩), (.agg ⟨[(.int .i64 a7), (.int .i64 a8)]⟩)] AHeap.none fun v _ => v = (.tuple ⟨[(VS 1 (x.1.map eI)), (.int .i64 x.2.1), (.int .i64 x.2.2)]⟩) := by
  refine ICalls.frz ?_;refine icalls_fn (pfnw ?_); unfold f314 at H;(conv=>whnf);refine pw_so ?_;refine po_all ?_;(conv=>whnf);refine pw_so ?_;refine po_all ?_;(conv=>whnf);obtain ⟨y1, h2, H⟩ := obnd_some H;refine (c219 h2).go ?_;(conv=>whnf);refine pw_seq ?_;refine pw_sd ?_;(conv=>whnf);refine ⟨?_, trivial⟩;(conv=>whnf);obtain ⟨y3, h4, H⟩ := obnd_some H;refine (c222 h4).go ?_;(conv=>whnf);refine ⟨by repeat (first | exact trivial | refine And.intro rfl ?_), ?_⟩;(conv=>whnf);refine ⟨?_, trivial⟩;(conv=>whnf);obtain ⟨y5, h6, H⟩ := obnd_some H;refine (c214 h6).go ?_;(conv=>whnf);refine ⟨by repeat (first | exact trivial | refine And.intro rfl ?_), ?_⟩
  (conv=>whnf);refine ⟨?_, trivial⟩;(conv=>whnf);obtain ⟨y7, h8, H⟩ := obnd_some H;refine (c216 h8).go ?_;(conv=>whnf);refine ⟨by repeat (first | exact trivial | refine And.intro rfl ?_), ?_⟩;(conv=>whnf);refine ⟨?_, trivial⟩;(conv=>whnf);obtain ⟨y9, h10, H⟩ := obnd_some H;refine (c214 h10).go ?_;(conv=>whnf);refine ⟨by repeat (first | exact trivial | refine And.intro rfl ?_), ?_⟩;(conv=>whnf);refine ⟨?_, trivial⟩;(conv=>whnf);refine ⟨by repeat (first | exact trivial | refine And.intro rfl ?_), ?_⟩;(conv=>whnf);refine ⟨?_, trivial⟩;(conv=>whnf);obtain ⟨y11, h12, H⟩ := obnd_some H;refine ICalls.goW (c213 h12) (.cons (.vt _ _ _) .nil) ?_
  (conv=>whnf);refine ⟨by repeat (first | exact trivial | refine And.intro rfl ?_), ?_⟩;(conv=>whnf);refine ⟨?_, trivial⟩;(conv=>whnf);refine ⟨by repeat (first | exact trivial | refine And.intro rfl ?_), ?_⟩;(conv=>whnf);refine pw_so ?_;refine po_all ?_;(conv=>whnf);refine pw_cond ?_;(conv=>whnf);refine pbr_oite H (fun g13 H => ?_) (fun g13 H => ?_)
  · (conv=>whnf);refine pw_so ?_;refine po_all ?_;(conv=>whnf);refine pw_ret ?_;(conv=>whnf);cases H; show ∃ D, Fz _ D 0 (.tuple ⟨[(.slice none 0 0), (.int .i64 0), (.int .i64 y11)]⟩) _;exact ⟨fun _ => false, .tuplel (.cons (.nil _) (.cons .cl (.cons .cl (.nil))))⟩
  · (conv=>whnf);refine pw_skip ?_;(conv=>whnf);refine pw_so ?_;refine po_all ?_;(conv=>whnf);obtain ⟨y14, h15, H⟩ := obnd_some H;refine (c220 h15).go ?_;(conv=>whnf);refine pw_so ?_;refine po_all ?_;(conv=>whnf);obtain ⟨y16, h17, H⟩ := obnd_some H;refine (c214 h17).go ?_;(conv=>whnf);refine pw_ret ?_;(conv=>whnf);cases H; show ∃ D, Fz _ D 0 (.tuple ⟨[(VS 1 _), (.int .i64 y14.2.1), (.int .i64 y16)]⟩) _;exact ⟨fun _ => false, .tuplel (.cons .cl (.cons .cl (.cons .cl (.nil))))⟩

/-- guidevane/guidevanebase.Within -/
noncomputable def f15  (a0 : Int) (a1 : Int) (a2 : Int) : Option Bool :=
  obnd (
   oite ((ile a1 a0)) (
    some (ile a0 a2)
     ) (
    some false
     )
    ) fun (r1 : Bool) =>
  some r1
set_option maxHeartbeats 1000000 in
theorem c15  {a0 : Int} {a1 : Int} {a2 : Int} {x : Bool} (H : f15 a0 a1 a2 = some x) : ICalls E 15 [(.int .i64 a0), (.int .i64 a1), (.int .i64 a2)] AHeap.none fun v _ => v = (.bool x) := by
  refine icalls_fn (pfnw ?_); unfold f15 at H;(conv=>whnf);refine pw_so ?_;refine po_all ?_;(conv=>whnf);refine pw_so ?_;refine po_ops 4 ?_;(conv=>whnf);obtain ⟨r1, h2, H⟩ := obnd_some H;refine po_seg (τ := Bool) 4 (fun e => ⟨[(14, (.bool e))], ⟨0, [], false⟩⟩) r1 ?_ ?_
  · refine po_all ?_;(conv=>whnf);refine pbr_oite h2 (fun g3 h2 => ?_) (fun g3 h2 => ?_)
    · (conv=>whnf);refine pbr_t g3 ?_;(conv=>whnf);refine pbr_t g3 ?_;(conv=>whnf);refine pbr_t g3 ?_;(conv=>whnf);cases h2;exact ⟨(.cons rfl .nil), rfl⟩
    · (conv=>whnf);refine pbr_f g3 ?_;(conv=>whnf);refine pbr_f g3 ?_;(conv=>whnf);refine pbr_f g3 ?_;(conv=>whnf);cases h2;exact ⟨(.cons rfl .nil), rfl⟩
  · refine po_all ?_;(conv=>whnf);refine pw_ret ?_;(conv=>whnf);cases H; rfl

/-- guidevane/guidevanebase.IsName -/
noncomputable def f91 [LO]  (a0 : ByteArray) : Option Bool :=
  obnd (
   oite ((ilt (a0.size : Int) (1 : Int))) (
    some true
     ) (
    some (ilt (12 : Int) (a0.size : Int))
     )
    ) fun (r1 : Bool) =>
  oite r1 (
   some false
    ) (
   obndS (
    oloop (τ := Int) (ρ := (Unit) ⊕ Bool) (fun e11 =>
     oite ((ilt e11 (a0.size : Int))) (
      ogrd ((ile 0 e11)) (
      obnd (a0.data.toList[e11.toNat]?) fun (x16 : UInt8) =>
      obnd (
       oite ((ile (97 : Int) (x16.toNat : Int))) (
        some (ile (x16.toNat : Int) (122 : Int))
         ) (
        some false
         )
        ) fun (r17 : Bool) =>
      obnd (
       oite r17 (
        some true
         ) (
        oite ((ile (65 : Int) (x16.toNat : Int))) (
         some (ile (x16.toNat : Int) (90 : Int))
          ) (
         some false
          )
         )
        ) fun (r20 : Bool) =>
      obnd (
       oite (!r20) (
        obnd (
         oite ((ieq e11 (0 : Int))) (
          some true
           ) (
          oite ((!(ieq (x16.toNat : Int) (45 : Int)))) (
           oite ((ilt (x16.toNat : Int) (48 : Int))) (
            some true
             ) (
            some (ilt (57 : Int) (x16.toNat : Int))
             )
            ) (
           some false
            )
           )
          ) fun (r29 : Bool) =>
        some r29
         ) (
        some false
         )
        ) fun (r24 : Bool) =>
      oite r24 (
       some (.inr (.inr (false)))
        ) (
       some (.inl (IntKind.i64.wrap (e11 + (1 : Int))))
        )
      )
       ) (
      some (.inr (.inl ()))
       )
      ) (0 : Int)
     ) fun (_ : Unit) =>
   some true
    )
set_option maxHeartbeats 1000000 in
theorem c91 [LO]  {a0 : ByteArray} {x : Bool} (H : f91 a0 = some x) : ICalls E 91 [(.string a0)] AHeap.none fun v _ => v = (.bool x) := by
  refine icalls_fn (pfnw ?_); unfold f91 at H;(conv=>whnf);refine pw_so ?_;refine po_all ?_;(conv=>whnf);refine pw_seq ?_;obtain ⟨r1, h2, H⟩ := obnd_some H;refine pw_join (ρ := Bool) (fun e => ⟨[(0, (.string a0)), (13, (.bool e))], ⟨0, [], false⟩⟩) r1 ?_ ?_
  · refine pw_ops ?_;refine po_all ?_;(conv=>whnf);refine pbr_oite h2 (fun g5 h2 => ?_) (fun g5 h2 => ?_)
    · (conv=>whnf);refine pbr_t g5 ?_;(conv=>whnf);refine pbr_t g5 ?_;(conv=>whnf);refine pbr_t g5 ?_;(conv=>whnf);cases h2;exact ⟨(.cons rfl (.cons rfl .nil)), rfl⟩
    · (conv=>whnf);refine pbr_f g5 ?_;(conv=>whnf);refine pbr_f g5 ?_;(conv=>whnf);refine pbr_f g5 ?_;(conv=>whnf);cases h2;exact ⟨(.cons rfl (.cons rfl .nil)), rfl⟩
  · refine pw_cond ?_;(conv=>whnf);refine pbr_oite H (fun g6 H => ?_) (fun g6 H => ?_)
    · (conv=>whnf);refine pw_so ?_;refine po_all ?_;(conv=>whnf);refine pw_ret ?_;(conv=>whnf);cases H; rfl
    · (conv=>whnf);refine pw_skip ?_;(conv=>whnf);obtain ⟨r7, h8, h9, h10⟩ := obndS_some H;refine pw_joinS (ρ := Unit) (fun e => ⟨[], ⟨0, [], false⟩⟩) r7 ?_ ?_
      · refine pw_so ?_;refine po_all ?_;(conv=>whnf);refine pw_block ?_;refine pw_loop (τ := Int) (fun e => ⟨[(0, (.string a0)), (3, (.int .i64 e))], ⟨0, [], false⟩⟩) h8 ?_ (fun _ => Nat.le_of_ble_eq_true rfl) ?_
        · exact .sub' (Nat.le_of_ble_eq_true rfl) (.cons rfl (.cons rfl .nil))
        · intro e11 x12 h13;refine pw_seq ?_;refine pw_so ?_;refine po_all ?_;(conv=>whnf);refine pw_cond ?_;(conv=>whnf);refine pbr_oite h13 (fun g14 h13 => ?_) (fun g14 h13 => ?_)
          · (conv=>whnf);refine pw_skip ?_;(conv=>whnf);refine pw_seq ?_;refine pw_block ?_;refine pw_so ?_;refine po_all ?_;(conv=>whnf);refine pbr_ogrd h13 (fun g15 h13 => ?_);(conv=>whnf);refine get_o h13 (fun x16 _ h13 => ?_);(conv=>whnf);refine pw_so ?_;refine po_ops 3 ?_;(conv=>whnf);obtain ⟨r17, h18, h13⟩ := obnd_some h13;refine po_seg (τ := Bool) 3 (fun e => ⟨[(0, (.string a0)), (3, (.int .i64 e11)), (4, (.int .u8 (x16.toNat : Int))), (28, (.bool e))], ⟨0, [], false⟩⟩) r17 ?_ ?_
            · refine po_all ?_;(conv=>whnf);refine pbr_oite h18 (fun g19 h18 => ?_) (fun g19 h18 => ?_)
              · (conv=>whnf);refine pbr_t g19 ?_;(conv=>whnf);refine pbr_t g19 ?_;(conv=>whnf);cases h18;exact ⟨(.cons rfl (.cons rfl (.cons rfl (.cons rfl .nil)))), rfl⟩
              · (conv=>whnf);refine pbr_f g19 ?_;(conv=>whnf);refine pbr_f g19 ?_;(conv=>whnf);cases h18;exact ⟨(.cons rfl (.cons rfl (.cons rfl (.cons rfl .nil)))), rfl⟩
            · refine po_ops 1 ?_;(conv=>whnf);obtain ⟨r20, h21, h13⟩ := obnd_some h13;refine po_seg (τ := Bool) 7 (fun e => ⟨[(0, (.string a0)), (3, (.int .i64 e11)), (4, (.int .u8 (x16.toNat : Int))), (36, (.bool e))], ⟨0, [], false⟩⟩) r20 ?_ ?_
              · refine po_all ?_;(conv=>whnf);refine pbr_oite h21 (fun g22 h21 => ?_) (fun g22 h21 => ?_)
                · (conv=>whnf);refine pbr_t g22 ?_;(conv=>whnf);refine pbr_t g22 ?_;(conv=>whnf);refine pbr_t g22 ?_;(conv=>whnf);refine pbr_t g22 ?_;(conv=>whnf);cases h21;exact ⟨(.cons rfl (.cons rfl (.cons rfl (.cons rfl .nil)))), rfl⟩
                · (conv=>whnf);refine pbr_f g22 ?_;(conv=>whnf);refine pbr_f g22 ?_;(conv=>whnf);refine pbr_oite h21 (fun g23 h21 => ?_) (fun g23 h21 => ?_)
                  · (conv=>whnf);refine pbr_t g23 ?_;(conv=>whnf);refine pbr_f g22 ?_;(conv=>whnf);refine pbr_t g23 ?_;(conv=>whnf);refine pbr_f g22 ?_;(conv=>whnf);cases h21;exact ⟨(.cons rfl (.cons rfl (.cons rfl (.cons rfl .nil)))), rfl⟩
                  · (conv=>whnf);refine pbr_f g23 ?_;(conv=>whnf);refine pbr_f g22 ?_;(conv=>whnf);refine pbr_f g23 ?_;(conv=>whnf);refine pbr_f g22 ?_;(conv=>whnf);cases h21;exact ⟨(.cons rfl (.cons rfl (.cons rfl (.cons rfl .nil)))), rfl⟩
              · refine po_all ?_;(conv=>whnf);obtain ⟨r24, h25, h13⟩ := obnd_some h13;refine pw_join (ρ := Bool) (fun e => ⟨[(0, (.string a0)), (3, (.int .i64 e11)), (54, (.bool e))], ⟨0, [], false⟩⟩) r24 ?_ ?_
                · refine pw_ops ?_;refine po_ops 6 ?_;(conv=>whnf);refine pbr_oite h25 (fun g28 h25 => ?_) (fun g28 h25 => ?_)
                  · (conv=>whnf);refine pbr_t g28 ?_;(conv=>whnf);refine pbr_t g28 ?_;(conv=>whnf);obtain ⟨r29, h30, h25⟩ := obnd_some h25;refine po_seg (τ := Bool) 11 (fun e => ⟨[(0, (.string a0)), (3, (.int .i64 e11)), (39, (.bool (!r20))), (40, (.int .i64 e11)), (41, (.bool (ieq e11 (0 : Int)))), (42, (.bool (ieq e11 (0 : Int)))), (53, (.bool e))], ⟨0, [], false⟩⟩) r29 ?_ ?_
                    · refine po_all ?_;(conv=>whnf);refine pbr_oite h30 (fun g31 h30 => ?_) (fun g31 h30 => ?_)
                      · (conv=>whnf);refine pbr_t g31 ?_;(conv=>whnf);refine pbr_t g31 ?_;(conv=>whnf);refine pbr_t g31 ?_;(conv=>whnf);refine pbr_t g28 ?_;(conv=>whnf);refine pbr_t g31 ?_;(conv=>whnf);cases h30;exact ⟨(.cons rfl (.cons rfl (.cons rfl (.cons rfl (.cons rfl (.cons rfl (.cons rfl .nil))))))), rfl⟩
                      · (conv=>whnf);refine pbr_f g31 ?_;(conv=>whnf);refine pbr_f g31 ?_;(conv=>whnf);refine pbr_oite h30 (fun g32 h30 => ?_) (fun g32 h30 => ?_)
                        · (conv=>whnf);refine pbr_t g32 ?_;(conv=>whnf);refine pbr_t g32 ?_;(conv=>whnf);refine pbr_oite h30 (fun g33 h30 => ?_) (fun g33 h30 => ?_)
                          · (conv=>whnf);refine pbr_t g33 ?_;(conv=>whnf);refine pbr_t g32 ?_;(conv=>whnf);refine pbr_t g33 ?_;(conv=>whnf);refine pbr_f g31 ?_;(conv=>whnf);refine pbr_t g32 ?_;(conv=>whnf);refine pbr_t g28 ?_;(conv=>whnf);refine pbr_f g31 ?_;(conv=>whnf);cases h30;exact ⟨(.cons rfl (.cons rfl (.cons rfl (.cons rfl (.cons rfl (.cons rfl (.cons rfl .nil))))))), rfl⟩
                          · (conv=>whnf);refine pbr_f g33 ?_;(conv=>whnf);refine pbr_t g32 ?_;(conv=>whnf);refine pbr_f g33 ?_;(conv=>whnf);refine pbr_f g31 ?_;(conv=>whnf);refine pbr_t g32 ?_;(conv=>whnf);refine pbr_t g28 ?_;(conv=>whnf);refine pbr_f g31 ?_;(conv=>whnf);cases h30;exact ⟨(.cons rfl (.cons rfl (.cons rfl (.cons rfl (.cons rfl (.cons rfl (.cons rfl .nil))))))), rfl⟩
                        · (conv=>whnf);refine pbr_f g32 ?_;(conv=>whnf);refine pbr_f g32 ?_;(conv=>whnf);refine pbr_f g32 ?_;(conv=>whnf);refine pbr_f g31 ?_;(conv=>whnf);refine pbr_f g32 ?_;(conv=>whnf);refine pbr_t g28 ?_;(conv=>whnf);refine pbr_f g31 ?_;(conv=>whnf);cases h30;exact ⟨(.cons rfl (.cons rfl (.cons rfl (.cons rfl (.cons rfl (.cons rfl (.cons rfl .nil))))))), rfl⟩
                    · refine po_all ?_;(conv=>whnf);refine pbr_t g28 ?_;(conv=>whnf);cases h25;exact ⟨(.cons rfl (.cons rfl (.cons rfl .nil))), rfl⟩
                  · (conv=>whnf);refine pbr_f g28 ?_;(conv=>whnf);refine pbr_f g28 ?_;(conv=>whnf);refine po_ops 11 ?_;(conv=>whnf);refine pbr_f g28 ?_;(conv=>whnf);refine po_all ?_;(conv=>whnf);refine pbr_f g28 ?_;(conv=>whnf);cases h25;exact ⟨(.cons rfl (.cons rfl (.cons rfl .nil))), rfl⟩
                · refine pw_cond ?_;(conv=>whnf);refine pbr_oite h13 (fun g34 h13 => ?_) (fun g34 h13 => ?_)
                  · (conv=>whnf);refine pw_so ?_;refine po_all ?_;(conv=>whnf);refine pw_ret ?_;(conv=>whnf);cases h13;refine ⟨_, rfl, ?_⟩; rintro rfl;(conv=>whnf);obtain rfl := h10 _ rfl; rfl
                  · (conv=>whnf);refine pw_skip ?_;(conv=>whnf);refine pw_ops ?_;refine po_all ?_;(conv=>whnf);cases h13;refine ⟨_, rfl, ?_⟩;exact .sub' (Nat.le_of_ble_eq_true rfl) (.cons rfl (.cons rfl .nil))
          · (conv=>whnf);refine pw_exit ?_;(conv=>whnf);cases h13;refine ⟨_, rfl, ?_⟩; rintro rfl;(conv=>whnf);exact ⟨_, rfl, ⟨.nil, rfl⟩⟩
      · intro r37 hr; have H := h9 _ hr;refine pw_so ?_;refine po_all ?_;(conv=>whnf);refine pw_ret ?_;(conv=>whnf);cases H; rfl

/-- guidevane/guidevanebase.HasText -/
noncomputable def f364 [LO]  (a0 : List ByteArray) (a1 : ByteArray) : Option Bool :=
  obndS (
   oloop (τ := Int) (ρ := (Unit) ⊕ Bool) (fun e5 =>
    oite ((ilt e5 ((a0.map eS).length : Int))) (
     ogrd ((ile 0 e5)) (
     obnd (a0[e5.toNat]?) fun (x10 : ByteArray) =>
     oite ((x10.toList == a1.toList)) (
      some (.inr (.inr (true)))
       ) (
      some (.inl (IntKind.i64.wrap (e5 + (1 : Int))))
       )
     )
      ) (
     some (.inr (.inl ()))
      )
     ) (0 : Int)
    ) fun (_ : Unit) =>
  some false
set_option maxHeartbeats 1000000 in
theorem c364 [LO]  {a0 : List ByteArray} {a1 : ByteArray} {x : Bool} (H : f364 a0 a1 = some x) : ICalls E 364 [(VS 1 (a0.map eS)), (.string a1)] AHeap.none fun v _ => v = (.bool x) := by
  refine icalls_fn (pfnw ?_); unfold f364 at H;(conv=>whnf);refine pw_so ?_;refine po_all ?_;(conv=>whnf);obtain ⟨r1, h2, h3, h4⟩ := obndS_some H;refine pw_joinS (ρ := Unit) (fun e => ⟨[], ⟨0, [], false⟩⟩) r1 ?_ ?_
  · refine pw_so ?_;refine po_all ?_;(conv=>whnf);refine pw_block ?_;refine pw_loop (τ := Int) (fun e => ⟨[(0, (VS 1 (a0.map eS))), (1, (.string a1)), (5, (.int .i64 e))], ⟨0, [], false⟩⟩) h2 ?_ (fun _ => Nat.le_of_ble_eq_true rfl) ?_
    · exact .sub' (Nat.le_of_ble_eq_true rfl) (.cons rfl (.cons rfl (.cons rfl .nil)))
    · intro e5 x6 h7;refine pw_seq ?_;refine pw_so ?_;refine po_all ?_;(conv=>whnf);refine pw_cond ?_;(conv=>whnf);refine pbr_oite h7 (fun g8 h7 => ?_) (fun g8 h7 => ?_)
      · (conv=>whnf);refine pw_skip ?_;(conv=>whnf);refine pw_seq ?_;refine pw_block ?_;refine pw_so ?_;refine po_all ?_;(conv=>whnf);refine pbr_ogrd h7 (fun g9 h7 => ?_);(conv=>whnf);refine nth_o (l := a0) h7 (fun x10 _ h7 => ?_);(conv=>whnf);refine pw_cond ?_;(conv=>whnf);refine pbr_oite h7 (fun g11 h7 => ?_) (fun g11 h7 => ?_)
        · (conv=>whnf);refine pw_so ?_;refine po_all ?_;(conv=>whnf);refine pw_ret ?_;(conv=>whnf);cases h7;refine ⟨_, rfl, ?_⟩; rintro rfl;(conv=>whnf);obtain rfl := h4 _ rfl; rfl
        · (conv=>whnf);refine pw_skip ?_;(conv=>whnf);refine pw_ops ?_;refine po_all ?_;(conv=>whnf);cases h7;refine ⟨_, rfl, ?_⟩;exact .sub' (Nat.le_of_ble_eq_true rfl) (.cons rfl (.cons rfl (.cons rfl .nil)))
      · (conv=>whnf);refine pw_exit ?_;(conv=>whnf);cases h7;refine ⟨_, rfl, ?_⟩; rintro rfl;(conv=>whnf);exact ⟨_, rfl, ⟨.nil, rfl⟩⟩
  · intro r14 hr; have H := h3 _ hr;refine pw_so ?_;refine po_all ?_;(conv=>whnf);refine pw_ret ?_;(conv=>whnf);cases H; rfl

/-- guidevane/guidevaneref08.modeErr -/
noncomputable def f354 [LO]  (a0 : ByteArray) (a1 : Int) (a2 : Int) (a3 : Int) (a4 : List ByteArray) : Option Int :=
  obnd (f91 a0) fun (y1 : Bool) =>
  oite (!y1) (
   some (4 : Int)
    ) (
   obnd (f364 a4 a0) fun (y4 : Bool) =>
   oite y4 (
    some (5 : Int)
     ) (
    obnd (
     obnd (f15 a1 (-10000 : Int) (10000 : Int)) fun (y11 : Bool) =>
     obnd (
      oite (!y11) (
       some true
        ) (
       obnd (f15 a2 (-10000 : Int) (10000 : Int)) fun (y16 : Bool) =>
       some (!y16)
        )
       ) fun (r13 : Bool) =>
     oite r13 (
      some true
       ) (
      obnd (f15 a3 (0 : Int) (10000 : Int)) fun (y19 : Bool) =>
      some (!y19)
       )
      ) fun (r7 : Bool) =>
    oite r7 (
     some (2 : Int)
      ) (
     some (0 : Int)
      )
     )
    )
set_option maxHeartbeats 1000000 in
theorem c354 [LO]  {a0 : ByteArray} {a1 : Int} {a2 : Int} {a3 : Int} {a4 : List ByteArray} {x : Int} (H : f354 a0 a1 a2 a3 a4 = some x) : ICalls E 354 [(.agg ⟨[(.string a0), (.int .i64 a1), (.int .i64 a2), (.int .i64 a3)]⟩), (VS 1 (a4.map eS))] AHeap.none fun v _ => v = (.int .i64 x) := by
  refine icalls_fn (pfnw ?_); unfold f354 at H;(conv=>whnf);refine pw_so ?_;refine po_all ?_;(conv=>whnf);refine pw_seq ?_;refine pw_so ?_;refine po_all ?_;(conv=>whnf);obtain ⟨y1, h2, H⟩ := obnd_some H;refine (c91 h2).go ?_;(conv=>whnf);refine pw_cond ?_;(conv=>whnf);refine pbr_oite H (fun g3 H => ?_) (fun g3 H => ?_)
  · (conv=>whnf);refine pw_so ?_;refine po_all ?_;(conv=>whnf);refine pw_ret ?_;(conv=>whnf);cases H; rfl
  · (conv=>whnf);refine pw_skip ?_;(conv=>whnf);refine pw_seq ?_;refine pw_so ?_;refine po_all ?_;(conv=>whnf);obtain ⟨y4, h5, H⟩ := obnd_some H;refine (c364 h5).go ?_;(conv=>whnf);refine pw_cond ?_;(conv=>whnf);refine pbr_oite H (fun g6 H => ?_) (fun g6 H => ?_)
    · (conv=>whnf);refine pw_so ?_;refine po_all ?_;(conv=>whnf);refine pw_ret ?_;(conv=>whnf);cases H; rfl
    · (conv=>whnf);refine pw_skip ?_;(conv=>whnf);refine pw_seq ?_;obtain ⟨r7, h8, H⟩ := obnd_some H;refine pw_join (ρ := Bool) (fun e => ⟨[(28, (.bool e))], ⟨1, [(0, .rw [(.string a0), (.int .i64 a1), (.int .i64 a2), (.int .i64 a3)])], false⟩⟩) r7 ?_ ?_
      · refine pw_ops ?_;refine po_ops 5 ?_;(conv=>whnf);obtain ⟨y11, h12, h8⟩ := obnd_some h8;refine (c15 h12).go ?_;(conv=>whnf);obtain ⟨r13, h14, h8⟩ := obnd_some h8;refine po_seg (τ := Bool) 5 (fun e => ⟨[(2, (.pointer (some ⟨0, 0, none⟩))), (22, (.bool e))], ⟨1, [(0, .rw [(.string a0), (.int .i64 a1), (.int .i64 a2), (.int .i64 a3)])], false⟩⟩) r13 ?_ ?_
        · refine po_all ?_;(conv=>whnf);refine pbr_oite h14 (fun g15 h14 => ?_) (fun g15 h14 => ?_)
          · (conv=>whnf);refine pbr_t g15 ?_;(conv=>whnf);refine pbr_t g15 ?_;(conv=>whnf);refine pbr_t g15 ?_;(conv=>whnf);refine pbr_t g15 ?_;(conv=>whnf);cases h14;exact ⟨(.cons rfl (.cons rfl .nil)), rfl⟩
          · (conv=>whnf);refine pbr_f g15 ?_;(conv=>whnf);refine pbr_f g15 ?_;(conv=>whnf);obtain ⟨y16, h17, h14⟩ := obnd_some h14;refine (c15 h17).go ?_;(conv=>whnf);refine pbr_f g15 ?_;(conv=>whnf);refine pbr_f g15 ?_;(conv=>whnf);cases h14;exact ⟨(.cons rfl (.cons rfl .nil)), rfl⟩
        · refine po_all ?_;(conv=>whnf);refine pbr_oite h8 (fun g18 h8 => ?_) (fun g18 h8 => ?_)
          · (conv=>whnf);refine pbr_t g18 ?_;(conv=>whnf);refine pbr_t g18 ?_;(conv=>whnf);refine pbr_t g18 ?_;(conv=>whnf);refine pbr_t g18 ?_;(conv=>whnf);cases h8;exact ⟨(.cons rfl .nil), rfl⟩
          · (conv=>whnf);refine pbr_f g18 ?_;(conv=>whnf);refine pbr_f g18 ?_;(conv=>whnf);obtain ⟨y19, h20, h8⟩ := obnd_some h8;refine (c15 h20).go ?_;(conv=>whnf);refine pbr_f g18 ?_;(conv=>whnf);refine pbr_f g18 ?_;(conv=>whnf);cases h8;exact ⟨(.cons rfl .nil), rfl⟩
      · refine pw_cond ?_;(conv=>whnf);refine pbr_oite H (fun g21 H => ?_) (fun g21 H => ?_)
        · (conv=>whnf);refine pw_so ?_;refine po_all ?_;(conv=>whnf);refine pw_ret ?_;(conv=>whnf);cases H; rfl
        · (conv=>whnf);refine pw_skip ?_;(conv=>whnf);refine pw_so ?_;refine po_all ?_;(conv=>whnf);refine pw_ret ?_;(conv=>whnf);cases H; rfl

/-- guidevane/guidevaneref08.CheckPlant -/
noncomputable def f325 [LO]  (a0 : Int) (a1 : Int) (a2 : List (ByteArray × Int × Int × Int)) : Option (Int × Int) :=
  obnd (
   obnd (f15 a0 (0 : Int) (1000000 : Int)) fun (y5 : Bool) =>
   oite (!y5) (
    some true
     ) (
    obnd (f15 a1 (0 : Int) (1000000 : Int)) fun (y8 : Bool) =>
    some (!y8)
     )
    ) fun (r1 : Bool) =>
  oite r1 (
   some ((0 : Int), (2 : Int))
    ) (
   oite ((ilt a1 a0)) (
    some ((0 : Int), (9 : Int))
     ) (
    oite ((ile (40 : Int) (IntKind.i64.wrap (a1 - a0)))) (
     some ((0 : Int), (8 : Int))
      ) (
     oite ((ieq ((a2.map e_SIII).length : Int) (0 : Int))) (
      some ((0 : Int), (10 : Int))
       ) (
      oite ((ilt (5 : Int) ((a2.map e_SIII).length : Int))) (
       some ((0 : Int), (8 : Int))
        ) (
       obndS (
        oloop (τ := (List ByteArray) × Int) (ρ := (Unit) ⊕ (Int × Int)) (fun e19 =>
         oite ((ilt e19.2 ((a2.map e_SIII).length : Int))) (
          ogrd ((ile 0 e19.2)) (
          obnd (a2[e19.2.toNat]?) fun (x24 : ByteArray × Int × Int × Int) =>
          obnd (f354 x24.1 x24.2.1 x24.2.2.1 x24.2.2.2 e19.1) fun (y25 : Int) =>
          oite ((!(ieq y25 (0 : Int)))) (
           some (.inr (.inr ((e19.2, y25))))
            ) (
           obnd (a2[e19.2.toNat]?) fun (x29 : ByteArray × Int × Int × Int) =>
           ogrd (fits 16 (e19.1.length + ([x29.1] : List ByteArray).length)) (
           some (.inl (((e19.1 ++ ([x29.1] : List ByteArray)), (IntKind.i64.wrap (e19.2 + (1 : Int))))))
           )
            )
          )
           ) (
          some (.inr (.inl ()))
           )
          ) ((([] : List ByteArray), (0 : Int)))
         ) fun (_ : Unit) =>
       some ((0 : Int), (0 : Int))
        )
       )
      )
     )
    )
set_option maxHeartbeats 1000000 in
theorem c325 [LO]  {a0 : Int} {a1 : Int} {a2 : List (ByteArray × Int × Int × Int)} {x : Int × Int} (H : f325 a0 a1 a2 = some x) : ICalls E 325 [(.agg ⟨[(.int .i64 a0), (.int .i64 a1), (VS 4 (a2.map e_SIII))]⟩)] AHeap.none fun v _ => v = (.tuple ⟨[(.int .i64 x.1), (.int .i64 x.2)]⟩) := by
  refine icalls_fn (pfnw ?_); unfold f325 at H;(conv=>whnf);refine pw_so ?_;refine po_all ?_;(conv=>whnf);refine pw_seq ?_;obtain ⟨r1, h2, H⟩ := obnd_some H;refine pw_join (ρ := Bool) (fun e => ⟨[(1, (.pointer (some ⟨0, 0, none⟩))), (16, (.bool e))], ⟨1, [(0, .rw [(.int .i64 a0), (.int .i64 a1), (VS 4 (a2.map e_SIII))])], false⟩⟩) r1 ?_ ?_
  · refine pw_ops ?_;refine po_all ?_;(conv=>whnf);obtain ⟨y5, h6, h2⟩ := obnd_some h2;refine (c15 h6).go ?_;(conv=>whnf);refine pbr_oite h2 (fun g7 h2 => ?_) (fun g7 h2 => ?_)
    · (conv=>whnf);refine pbr_t g7 ?_;(conv=>whnf);refine pbr_t g7 ?_;(conv=>whnf);refine pbr_t g7 ?_;(conv=>whnf);refine pbr_t g7 ?_;(conv=>whnf);cases h2;exact ⟨(.cons rfl (.cons rfl .nil)), rfl⟩
    · (conv=>whnf);refine pbr_f g7 ?_;(conv=>whnf);refine pbr_f g7 ?_;(conv=>whnf);obtain ⟨y8, h9, h2⟩ := obnd_some h2;refine (c15 h9).go ?_;(conv=>whnf);refine pbr_f g7 ?_;(conv=>whnf);refine pbr_f g7 ?_;(conv=>whnf);cases h2;exact ⟨(.cons rfl (.cons rfl .nil)), rfl⟩
  · refine pw_cond ?_;(conv=>whnf);refine pbr_oite H (fun g10 H => ?_) (fun g10 H => ?_)
    · (conv=>whnf);refine pw_so ?_;refine po_all ?_;(conv=>whnf);refine pw_ret ?_;(conv=>whnf);cases H; rfl
    · (conv=>whnf);refine pw_skip ?_;(conv=>whnf);refine pw_seq ?_;refine pw_so ?_;refine po_all ?_;(conv=>whnf);refine pw_cond ?_;(conv=>whnf);refine pbr_oite H (fun g11 H => ?_) (fun g11 H => ?_)
      · (conv=>whnf);refine pw_so ?_;refine po_all ?_;(conv=>whnf);refine pw_ret ?_;(conv=>whnf);cases H; rfl
      · (conv=>whnf);refine pw_skip ?_;(conv=>whnf);refine pw_seq ?_;refine pw_so ?_;refine po_all ?_;(conv=>whnf);refine pw_cond ?_;(conv=>whnf);refine pbr_oite H (fun g12 H => ?_) (fun g12 H => ?_)
        · (conv=>whnf);refine pw_so ?_;refine po_all ?_;(conv=>whnf);refine pw_ret ?_;(conv=>whnf);cases H; rfl
        · (conv=>whnf);refine pw_skip ?_;(conv=>whnf);refine pw_seq ?_;refine pw_so ?_;refine po_all ?_;(conv=>whnf);refine pw_cond ?_;(conv=>whnf);refine pbr_oite H (fun g13 H => ?_) (fun g13 H => ?_)
          · (conv=>whnf);refine pw_so ?_;refine po_all ?_;(conv=>whnf);refine pw_ret ?_;(conv=>whnf);cases H; rfl
          · (conv=>whnf);refine pw_skip ?_;(conv=>whnf);refine pw_seq ?_;refine pw_so ?_;refine po_all ?_;(conv=>whnf);refine pw_cond ?_;(conv=>whnf);refine pbr_oite H (fun g14 H => ?_) (fun g14 H => ?_)
            · (conv=>whnf);refine pw_so ?_;refine po_all ?_;(conv=>whnf);refine pw_ret ?_;(conv=>whnf);cases H; rfl
            · (conv=>whnf);refine pw_skip ?_;(conv=>whnf);refine pw_so ?_;refine po_all ?_;(conv=>whnf);obtain ⟨r15, h16, h17, h18⟩ := obndS_some H;refine pw_joinSR (ρ := Unit) (fun e => ⟨[], ⟨1, [(0, .rw [(.int .i64 a0), (.int .i64 a1), (VS 4 (a2.map e_SIII))])], false⟩⟩) r15 ?_ ?_
              · refine pw_so ?_;refine po_all ?_;(conv=>whnf);refine pw_block ?_;refine pw_loop (τ := (List ByteArray) × Int) (fun e => ⟨[(1, (.pointer (some ⟨0, 0, none⟩))), (4, (VT 1 (e.1.map eS) 1)), (5, (.int .i64 e.2))], ⟨2, [(1, .tail (e.1.map eS).length 1), (0, .rw [(.int .i64 a0), (.int .i64 a1), (VS 4 (a2.map e_SIII))])], false⟩⟩) h16 ?_ (fun _ => Nat.le_of_ble_eq_true rfl) ?_
                · exact (Recast.nilTs 1 (Nat.le_of_ble_eq_true rfl) (.same rfl (.turn rfl (.same rfl .nil))))
                · intro e19 x20 h21;refine pw_seq ?_;refine pw_so ?_;refine po_all ?_;(conv=>whnf);refine pw_cond ?_;(conv=>whnf);refine pbr_oite h21 (fun g22 h21 => ?_) (fun g22 h21 => ?_)
                  · (conv=>whnf);refine pw_skip ?_;(conv=>whnf);refine pw_seq ?_;refine pw_block ?_;refine pw_seq ?_;refine pw_so ?_;refine po_all ?_;(conv=>whnf);refine pbr_ogrd h21 (fun g23 h21 => ?_);(conv=>whnf);refine nth_o (l := a2) h21 (fun x24 _ h21 => ?_);(conv=>whnf);obtain ⟨y25, h26, h21⟩ := obnd_some h21;refine ICalls.goW (c354 h26) (.cons (.refl _) (.cons (.vt _ _ _) .nil)) ?_;(conv=>whnf);refine pw_so ?_;refine po_all ?_;(conv=>whnf);refine pw_cond ?_;(conv=>whnf);refine pbr_oite h21 (fun g27 h21 => ?_) (fun g27 h21 => ?_)
                    · (conv=>whnf);refine pw_so ?_;refine po_all ?_;(conv=>whnf);refine pw_ret ?_;(conv=>whnf);cases h21;refine ⟨_, rfl, ?_⟩; rintro rfl;(conv=>whnf);obtain rfl := h18 _ rfl; rfl
                    · (conv=>whnf);refine pw_skip ?_;(conv=>whnf);refine pw_ops ?_;refine po_all ?_;(conv=>whnf);refine pbr_t g23 ?_;(conv=>whnf);refine nth_o (l := a2) h21 (fun x29 _ h21 => ?_);(conv=>whnf);refine app_o (l := e19.1) (m := ([x29.1] : List ByteArray)) (f := eS) h21 (by rfl) (by rfl) (by rfl) (fun h21 => ?_);(conv=>whnf);refine pw_ops ?_;refine po_all ?_;(conv=>whnf);cases h21;refine ⟨_, rfl, ?_⟩;refine Recast.trunc (Nat.le_of_ble_eq_true rfl) ?_ ?_
                      · repeat (first | exact .nil | refine .cons rfl (by first | exact OBnd.rwc (Nat.le_of_ble_eq_true rfl) rfl | exact OBnd.tail (Nat.le_of_ble_eq_true rfl) | trivial) ?_)
                      · repeat (first | exact .nil | refine .cons rfl (by first | exact Bnd.ptr (Nat.le_of_ble_eq_true rfl) | exact Bnd.vt (Nat.le_of_ble_eq_true rfl) | exact Bnd.cl) ?_)
                  · (conv=>whnf);refine pw_exit ?_;(conv=>whnf);cases h21;refine ⟨_, rfl, ?_⟩; rintro rfl;(conv=>whnf);refine ⟨_, rfl, ?_⟩;exact Recast.fz (fun _ => false) (Nat.le_of_ble_eq_true rfl) (.cons (.same rfl rfl (OBnd.rwl (Nat.le_of_ble_eq_true rfl) rfl (.cons .cl (.cons .cl (.cons .cl .nil))))) .nil) .nil
              · intro r31 hr; have H := h17 _ hr;refine pw_so ?_;refine po_all ?_;(conv=>whnf);refine pw_ret ?_;(conv=>whnf);cases H; rfl

/-- guidevane/guidevaneref08.PlantErr -/
noncomputable def f347 [LO]  (a0 : Int) (a1 : Int) (a2 : List (ByteArray × Int × Int × Int)) : Option Int :=
  obnd (f325 a0 a1 a2) fun (y1 : Int × Int) =>
  some y1.2
set_option maxHeartbeats 1000000 in
theorem c347 [LO]  {a0 : Int} {a1 : Int} {a2 : List (ByteArray × Int × Int × Int)} {x : Int} (H : f347 a0 a1 a2 = some x) : ICalls E 347 [(.agg ⟨[(.int .i64 a0), (.int .i64 a1), (VS 4 (a2.map e_SIII))]⟩)] AHeap.none fun v _ => v = (.int .i64 x) := by
  refine icalls_fn (pfnw ?_); unfold f347 at H;(conv=>whnf);refine pw_so ?_;refine po_all ?_;(conv=>whnf);refine pw_so ?_;refine po_all ?_;(conv=>whnf);obtain ⟨y1, h2, H⟩ := obnd_some H;refine (c325 h2).go ?_;(conv=>whnf);refine pw_so ?_;refine po_all ?_;(conv=>whnf);refine pw_ret ?_;(conv=>whnf);cases H; rfl

/-- guidevane/guidevaneref08.isPrice -/
noncomputable def f355  (a0 : Int) : Option Bool :=
  obnd (f15 a0 (-10000 : Int) (10000 : Int)) fun (y1 : Bool) =>
  some y1
set_option maxHeartbeats 1000000 in
theorem c355  {a0 : Int} {x : Bool} (H : f355 a0 = some x) : ICalls E 355 [(.int .i64 a0)] AHeap.none fun v _ => v = (.bool x) := by
  refine icalls_fn (pfnw ?_); unfold f355 at H;(conv=>whnf);refine pw_so ?_;refine po_all ?_;(conv=>whnf);refine pw_so ?_;refine po_all ?_;(conv=>whnf);obtain ⟨y1, h2, H⟩ := obnd_some H;refine (c15 h2).go ?_;(conv=>whnf);refine pw_ret ?_;(conv=>whnf);cases H; rfl

/-- guidevane/guidevaneref08.CheckTask -/
noncomputable def f326 [LO]  (a0 : Int) (a1 : Int) (a2 : List (ByteArray × Int × Int × Int)) (a3 : Int) (a4 : Int) (a5 : Int) (a6 : List (Int × Int × Int)) : Option (Int × Int) :=
  obnd (f347 a0 a1 a2) fun (y1 : Int) =>
  oite ((!(ieq y1 (0 : Int)))) (
   some ((0 : Int), y1)
    ) (
   obnd (f15 a3 a0 a1) fun (y4 : Bool) =>
   oite (!y4) (
    some ((0 : Int), (2 : Int))
     ) (
    obnd (f15 a4 (0 : Int) ((IntKind.i64.wrap (((a2.map e_SIII).length : Int) - (1 : Int))))) fun (y7 : Bool) =>
    oite (!y7) (
     some ((0 : Int), (6 : Int))
      ) (
     obnd (f355 a5) fun (y10 : Bool) =>
     oite (!y10) (
      some ((0 : Int), (2 : Int))
       ) (
      oite ((ieq ((a6.map e_III).length : Int) (0 : Int))) (
       some ((0 : Int), (10 : Int))
        ) (
       oite ((ilt (10 : Int) ((a6.map e_III).length : Int))) (
        some ((0 : Int), (8 : Int))
         ) (
        obndS (
         oloop (τ := Int) (ρ := (Unit) ⊕ (Int × Int)) (fun e19 =>
          oite ((ilt e19 ((a6.map e_III).length : Int))) (
           ogrd ((ile 0 e19)) (
           obnd (a6[e19.toNat]?) fun (x24 : Int × Int × Int) =>
           obnd (
            obnd (f355 x24.1) fun (y29 : Bool) =>
            obnd (
             oite (!y29) (
              some true
               ) (
              obnd (f355 x24.2.1) fun (y34 : Bool) =>
              some (!y34)
               )
              ) fun (r31 : Bool) =>
            oite r31 (
             some true
              ) (
             obnd (f355 x24.2.2) fun (y37 : Bool) =>
             some (!y37)
              )
             ) fun (r25 : Bool) =>
           oite r25 (
            some (.inr (.inr ((e19, (2 : Int)))))
             ) (
            oite ((ilt x24.1 x24.2.1)) (
             some (.inr (.inr ((e19, (9 : Int)))))
              ) (
             some (.inl (IntKind.i64.wrap (e19 + (1 : Int))))
              )
             )
           )
            ) (
           some (.inr (.inl ()))
            )
           ) (0 : Int)
          ) fun (_ : Unit) =>
        some ((0 : Int), (0 : Int))
         )
        )
       )
      )
     )
    )
set_option maxHeartbeats 1000000 in
theorem c326 [LO]  {a0 : Int} {a1 : Int} {a2 : List (ByteArray × Int × Int × Int)} {a3 : Int} {a4 : Int} {a5 : Int} {a6 : List (Int × Int × Int)} {x : Int × Int} (H : f326 a0 a1 a2 a3 a4 a5 a6 = some x) : ICalls E 326 [(.agg ⟨[(.int .i64 a0), (.int .i64 a1), (VS 4 (a2.map e_SIII))]⟩), (.agg ⟨[(.int .i64 a3), (.int .i64 a4), (.int .i64 a5), (VS 3 (a6.map e_III))]⟩)] AHeap.none fun v _ => v = (.tuple ⟨[(.int .i64 x.1), (.int .i64 x.2)]⟩) := by
  refine icalls_fn (pfnw ?_); unfold f326 at H;(conv=>whnf);refine pw_so ?_;refine po_all ?_;(conv=>whnf);refine pw_seq ?_;refine pw_so ?_;refine po_all ?_;(conv=>whnf);obtain ⟨y1, h2, H⟩ := obnd_some H;refine (c347 h2).go ?_;(conv=>whnf);refine pw_so ?_;refine po_all ?_;(conv=>whnf);refine pw_cond ?_;(conv=>whnf);refine pbr_oite H (fun g3 H => ?_) (fun g3 H => ?_)
  · (conv=>whnf);refine pw_so ?_;refine po_all ?_;(conv=>whnf);refine pw_ret ?_;(conv=>whnf);cases H; rfl
  · (conv=>whnf);refine pw_skip ?_;(conv=>whnf);refine pw_seq ?_;refine pw_so ?_;refine po_all ?_;(conv=>whnf);obtain ⟨y4, h5, H⟩ := obnd_some H;refine (c15 h5).go ?_;(conv=>whnf);refine pw_cond ?_;(conv=>whnf);refine pbr_oite H (fun g6 H => ?_) (fun g6 H => ?_)
    · (conv=>whnf);refine pw_so ?_;refine po_all ?_;(conv=>whnf);refine pw_ret ?_;(conv=>whnf);cases H; rfl
    · (conv=>whnf);refine pw_skip ?_;(conv=>whnf);refine pw_seq ?_;refine pw_so ?_;refine po_all ?_;(conv=>whnf);obtain ⟨y7, h8, H⟩ := obnd_some H;refine (c15 h8).go ?_;(conv=>whnf);refine pw_cond ?_;(conv=>whnf);refine pbr_oite H (fun g9 H => ?_) (fun g9 H => ?_)
      · (conv=>whnf);refine pw_so ?_;refine po_all ?_;(conv=>whnf);refine pw_ret ?_;(conv=>whnf);cases H; rfl
      · (conv=>whnf);refine pw_skip ?_;(conv=>whnf);refine pw_seq ?_;refine pw_so ?_;refine po_all ?_;(conv=>whnf);obtain ⟨y10, h11, H⟩ := obnd_some H;refine (c355 h11).go ?_;(conv=>whnf);refine pw_cond ?_;(conv=>whnf);refine pbr_oite H (fun g12 H => ?_) (fun g12 H => ?_)
        · (conv=>whnf);refine pw_so ?_;refine po_all ?_;(conv=>whnf);refine pw_ret ?_;(conv=>whnf);cases H; rfl
        · (conv=>whnf);refine pw_skip ?_;(conv=>whnf);refine pw_seq ?_;refine pw_so ?_;refine po_all ?_;(conv=>whnf);refine pw_cond ?_;(conv=>whnf);refine pbr_oite H (fun g13 H => ?_) (fun g13 H => ?_)
          · (conv=>whnf);refine pw_so ?_;refine po_all ?_;(conv=>whnf);refine pw_ret ?_;(conv=>whnf);cases H; rfl
          · (conv=>whnf);refine pw_skip ?_;(conv=>whnf);refine pw_seq ?_;refine pw_so ?_;refine po_all ?_;(conv=>whnf);refine pw_cond ?_;(conv=>whnf);refine pbr_oite H (fun g14 H => ?_) (fun g14 H => ?_)
            · (conv=>whnf);refine pw_so ?_;refine po_all ?_;(conv=>whnf);refine pw_ret ?_;(conv=>whnf);cases H; rfl
            · (conv=>whnf);refine pw_skip ?_;(conv=>whnf);obtain ⟨r15, h16, h17, h18⟩ := obndS_some H;refine pw_joinS (ρ := Unit) (fun e => ⟨[], ⟨2, [(1, .rw [(.int .i64 a3), (.int .i64 a4), (.int .i64 a5), (VS 3 (a6.map e_III))]), (0, .rw [(.int .i64 a0), (.int .i64 a1), (VS 4 (a2.map e_SIII))])], false⟩⟩) r15 ?_ ?_
              · refine pw_so ?_;refine po_all ?_;(conv=>whnf);refine pw_block ?_;refine pw_loop (τ := Int) (fun e => ⟨[(3, (.pointer (some ⟨1, 0, none⟩))), (7, (.int .i64 e))], ⟨2, [(1, .rw [(.int .i64 a3), (.int .i64 a4), (.int .i64 a5), (VS 3 (a6.map e_III))]), (0, .rw [(.int .i64 a0), (.int .i64 a1), (VS 4 (a2.map e_SIII))])], false⟩⟩) h16 ?_ (fun _ => Nat.le_of_ble_eq_true rfl) ?_
                · exact .sub' (Nat.le_of_ble_eq_true rfl) (.cons rfl (.cons rfl .nil))
                · intro e19 x20 h21;refine pw_seq ?_;refine pw_so ?_;refine po_all ?_;(conv=>whnf);refine pw_cond ?_;(conv=>whnf);refine pbr_oite h21 (fun g22 h21 => ?_) (fun g22 h21 => ?_)
                  · (conv=>whnf);refine pw_skip ?_;(conv=>whnf);refine pw_seq ?_;refine pw_block ?_;refine pw_so ?_;refine po_all ?_;(conv=>whnf);refine pbr_ogrd h21 (fun g23 h21 => ?_);(conv=>whnf);refine nth_o (l := a6) h21 (fun x24 _ h21 => ?_);(conv=>whnf);refine pw_seq ?_;obtain ⟨r25, h26, h21⟩ := obnd_some h21;refine pw_join (ρ := Bool) (fun e => ⟨[(3, (.pointer (some ⟨1, 0, none⟩))), (7, (.int .i64 e19)), (8, (.pointer (some ⟨2, 0, none⟩))), (69, (.bool e))], ⟨3, [(2, .rw [(.int .i64 x24.1), (.int .i64 x24.2.1), (.int .i64 x24.2.2)]), (1, .rw [(.int .i64 a3), (.int .i64 a4), (.int .i64 a5), (VS 3 (a6.map e_III))]), (0, .rw [(.int .i64 a0), (.int .i64 a1), (VS 4 (a2.map e_SIII))])], false⟩⟩) r25 ?_ ?_
                    · refine pw_ops ?_;refine po_ops 5 ?_;(conv=>whnf);obtain ⟨y29, h30, h26⟩ := obnd_some h26;refine (c355 h30).go ?_;(conv=>whnf);obtain ⟨r31, h32, h26⟩ := obnd_some h26;refine po_seg (τ := Bool) 5 (fun e => ⟨[(3, (.pointer (some ⟨1, 0, none⟩))), (7, (.int .i64 e19)), (8, (.pointer (some ⟨2, 0, none⟩))), (63, (.bool e))], ⟨3, [(2, .rw [(.int .i64 x24.1), (.int .i64 x24.2.1), (.int .i64 x24.2.2)]), (1, .rw [(.int .i64 a3), (.int .i64 a4), (.int .i64 a5), (VS 3 (a6.map e_III))]), (0, .rw [(.int .i64 a0), (.int .i64 a1), (VS 4 (a2.map e_SIII))])], false⟩⟩) r31 ?_ ?_
                      · refine po_all ?_;(conv=>whnf);refine pbr_oite h32 (fun g33 h32 => ?_) (fun g33 h32 => ?_)
                        · (conv=>whnf);refine pbr_t g33 ?_;(conv=>whnf);refine pbr_t g33 ?_;(conv=>whnf);refine pbr_t g33 ?_;(conv=>whnf);refine pbr_t g33 ?_;(conv=>whnf);cases h32;exact ⟨(.cons rfl (.cons rfl (.cons rfl (.cons rfl .nil)))), rfl⟩
                        · (conv=>whnf);refine pbr_f g33 ?_;(conv=>whnf);refine pbr_f g33 ?_;(conv=>whnf);obtain ⟨y34, h35, h32⟩ := obnd_some h32;refine (c355 h35).go ?_;(conv=>whnf);refine pbr_f g33 ?_;(conv=>whnf);refine pbr_f g33 ?_;(conv=>whnf);cases h32;exact ⟨(.cons rfl (.cons rfl (.cons rfl (.cons rfl .nil)))), rfl⟩
                      · refine po_all ?_;(conv=>whnf);refine pbr_oite h26 (fun g36 h26 => ?_) (fun g36 h26 => ?_)
                        · (conv=>whnf);refine pbr_t g36 ?_;(conv=>whnf);refine pbr_t g36 ?_;(conv=>whnf);refine pbr_t g36 ?_;(conv=>whnf);refine pbr_t g36 ?_;(conv=>whnf);cases h26;exact ⟨(.cons rfl (.cons rfl (.cons rfl (.cons rfl .nil)))), rfl⟩
                        · (conv=>whnf);refine pbr_f g36 ?_;(conv=>whnf);refine pbr_f g36 ?_;(conv=>whnf);obtain ⟨y37, h38, h26⟩ := obnd_some h26;refine (c355 h38).go ?_;(conv=>whnf);refine pbr_f g36 ?_;(conv=>whnf);refine pbr_f g36 ?_;(conv=>whnf);cases h26;exact ⟨(.cons rfl (.cons rfl (.cons rfl (.cons rfl .nil)))), rfl⟩
                    · refine pw_cond ?_;(conv=>whnf);refine pbr_oite h21 (fun g39 h21 => ?_) (fun g39 h21 => ?_)
                      · (conv=>whnf);refine pw_so ?_;refine po_all ?_;(conv=>whnf);refine pw_ret ?_;(conv=>whnf);cases h21;refine ⟨_, rfl, ?_⟩; rintro rfl;(conv=>whnf);obtain rfl := h18 _ rfl; rfl
                      · (conv=>whnf);refine pw_skip ?_;(conv=>whnf);refine pw_so ?_;refine po_all ?_;(conv=>whnf);refine pw_cond ?_;(conv=>whnf);refine pbr_oite h21 (fun g41 h21 => ?_) (fun g41 h21 => ?_)
                        · (conv=>whnf);refine pw_so ?_;refine po_all ?_;(conv=>whnf);refine pw_ret ?_;(conv=>whnf);cases h21;refine ⟨_, rfl, ?_⟩; rintro rfl;(conv=>whnf);obtain rfl := h18 _ rfl; rfl
                        · (conv=>whnf);refine pw_skip ?_;(conv=>whnf);refine pw_ops ?_;refine po_all ?_;(conv=>whnf);cases h21;refine ⟨_, rfl, ?_⟩;refine Recast.trunc (Nat.le_of_ble_eq_true rfl) ?_ ?_
                          · repeat (first | exact .nil | refine .cons rfl (by first | exact OBnd.rwc (Nat.le_of_ble_eq_true rfl) rfl | exact OBnd.tail (Nat.le_of_ble_eq_true rfl) | trivial) ?_)
                          · repeat (first | exact .nil | refine .cons rfl (by first | exact Bnd.ptr (Nat.le_of_ble_eq_true rfl) | exact Bnd.vt (Nat.le_of_ble_eq_true rfl) | exact Bnd.cl) ?_)
                  · (conv=>whnf);refine pw_exit ?_;(conv=>whnf);cases h21;refine ⟨_, rfl, ?_⟩; rintro rfl;(conv=>whnf);exact ⟨_, rfl, ⟨.nil, rfl⟩⟩
              · intro r44 hr; have H := h17 _ hr;refine pw_so ?_;refine po_all ?_;(conv=>whnf);refine pw_ret ?_;(conv=>whnf);cases H; rfl

/-- guidevane/guidevaneref08.TaskErr -/
noncomputable def f311 [LO]  (a0 : Int) (a1 : Int) (a2 : List (ByteArray × Int × Int × Int)) (a3 : Int) (a4 : Int) (a5 : Int) (a6 : List (Int × Int × Int)) : Option Int :=
  obnd (f326 a0 a1 a2 a3 a4 a5 a6) fun (y1 : Int × Int) =>
  some y1.2
set_option maxHeartbeats 1000000 in
theorem c311 [LO]  {a0 : Int} {a1 : Int} {a2 : List (ByteArray × Int × Int × Int)} {a3 : Int} {a4 : Int} {a5 : Int} {a6 : List (Int × Int × Int)} {x : Int} (H : f311 a0 a1 a2 a3 a4 a5 a6 = some x) : ICalls E 311 [(.agg ⟨[(.int .i64 a0), (.int .i64 a1), (VS 4 (a2.map e_SIII))]⟩), (.agg ⟨[(.int .i64 a3), (.int .i64 a4), (.int .i64 a5), (VS 3 (a6.map e_III))]⟩)] AHeap.none fun v _ => v = (.int .i64 x) := by
  refine icalls_fn (pfnw ?_); unfold f311 at H;(conv=>whnf);refine pw_so ?_;refine po_all ?_;(conv=>whnf);refine pw_so ?_;refine po_all ?_;(conv=>whnf);obtain ⟨y1, h2, H⟩ := obnd_some H;refine (c326 h2).go ?_;(conv=>whnf);refine pw_so ?_;refine po_all ?_;(conv=>whnf);refine pw_ret ?_;(conv=>whnf);cases H; rfl

/-- guidevane/guidevaneref08.HoldErr -/
noncomputable def f315  (_ : Int) (_ : Int) (a2 : List (ByteArray × Int × Int × Int)) (a3 : Int) (a4 : Int) : Option Int :=
  obnd (f15 a3 (0 : Int) ((IntKind.i64.wrap (((a2.map e_SIII).length : Int) - (1 : Int))))) fun (y1 : Bool) =>
  oite (!y1) (
   some (6 : Int)
    ) (
   obnd (f15 a4 (0 : Int) (10 : Int)) fun (y4 : Bool) =>
   oite (!y4) (
    some (2 : Int)
     ) (
    some (0 : Int)
     )
    )
set_option maxHeartbeats 1000000 in
theorem c315  {a0 : Int} {a1 : Int} {a2 : List (ByteArray × Int × Int × Int)} {a3 : Int} {a4 : Int} {x : Int} (H : f315 a0 a1 a2 a3 a4 = some x) : ICalls E 315 [(.agg ⟨[(.int .i64 a0), (.int .i64 a1), (VS 4 (a2.map e_SIII))]⟩), (.agg ⟨[(.int .i64 a3), (.int .i64 a4)]⟩)] AHeap.none fun v _ => v = (.int .i64 x) := by
  refine icalls_fn (pfnw ?_); unfold f315 at H;(conv=>whnf);refine pw_so ?_;refine po_all ?_;(conv=>whnf);refine pw_seq ?_;refine pw_so ?_;refine po_all ?_;(conv=>whnf);obtain ⟨y1, h2, H⟩ := obnd_some H;refine (c15 h2).go ?_;(conv=>whnf);refine pw_cond ?_;(conv=>whnf);refine pbr_oite H (fun g3 H => ?_) (fun g3 H => ?_)
  · (conv=>whnf);refine pw_so ?_;refine po_all ?_;(conv=>whnf);refine pw_ret ?_;(conv=>whnf);cases H; rfl
  · (conv=>whnf);refine pw_skip ?_;(conv=>whnf);refine pw_seq ?_;refine pw_so ?_;refine po_all ?_;(conv=>whnf);obtain ⟨y4, h5, H⟩ := obnd_some H;refine (c15 h5).go ?_;(conv=>whnf);refine pw_cond ?_;(conv=>whnf);refine pbr_oite H (fun g6 H => ?_) (fun g6 H => ?_)
    · (conv=>whnf);refine pw_so ?_;refine po_all ?_;(conv=>whnf);refine pw_ret ?_;(conv=>whnf);cases H; rfl
    · (conv=>whnf);refine pw_skip ?_;(conv=>whnf);refine pw_so ?_;refine po_all ?_;(conv=>whnf);refine pw_ret ?_;(conv=>whnf);cases H; rfl

/-- guidevane/guidevaneref08.given -/
noncomputable def f351 [LO]  (a0 : Int) (a1 : Int) (a2 : List (ByteArray × Int × Int × Int)) (_ : Int) (_ : Int) (_ : Int) (a6 : List (Int × Int × Int)) (a7 : Int) (a8 : Int) (a9 : Int) : Option Int :=
  obndS (
   oloop (τ := Int × Int × Int) (ρ := (Int) ⊕ Int) (fun e5 =>
    oite ((ilt e5.2.2 ((a6.map e_III).length : Int))) (
     ogrd ((ile 0 e5.2.2)) (
     obnd (a6[e5.2.2.toNat]?) fun (x10 : Int × Int × Int) =>
     ogrd ((ile 0 a9)) (
     obnd (a2[a9.toNat]?) fun (x12 : ByteArray × Int × Int × Int) =>
     obnd (f15 (IntKind.i64.wrap ((IntKind.i64.wrap (e5.1 + x10.2.2)) + x12.2.1)) a0 a1) fun (y13 : Bool) =>
     oite (!y13) (
      some (.inr (.inr (e5.2.1)))
       ) (
      some (.inl (((IntKind.i64.wrap ((IntKind.i64.wrap (e5.1 + x10.2.2)) + x12.2.1)), (IntKind.i64.wrap (e5.2.1 + (1 : Int))), (IntKind.i64.wrap (e5.2.2 + (1 : Int))))))
       )
     )
     )
      ) (
     some (.inr (.inl e5.2.1))
      )
     ) (a8, (0 : Int), a7)
    ) fun (r18 : Int) =>
  some r18
set_option maxHeartbeats 1000000 in
theorem c351 [LO]  {a0 : Int} {a1 : Int} {a2 : List (ByteArray × Int × Int × Int)} {a3 : Int} {a4 : Int} {a5 : Int} {a6 : List (Int × Int × Int)} {a7 : Int} {a8 : Int} {a9 : Int} {x : Int} (H : f351 a0 a1 a2 a3 a4 a5 a6 a7 a8 a9 = some x) : ICalls E 351 [(.agg ⟨[(.int .i64 a0), (.int .i64 a1), (VS 4 (a2.map e_SIII))]⟩), (.agg ⟨[(.int .i64 a3), (.int .i64 a4), (.int .i64 a5), (VS 3 (a6.map e_III))]⟩), (.int .i64 a7), (.int .i64 a8), (.int .i64 a9)] AHeap.none fun v _ => v = (.int .i64 x) := by
  refine icalls_fn (pfnw ?_); unfold f351 at H;(conv=>whnf);refine pw_so ?_;refine po_all ?_;(conv=>whnf);refine pw_so ?_;refine po_all ?_;(conv=>whnf);obtain ⟨r1, h2, h3, h4⟩ := obndS_some H;refine pw_joinS (ρ := Int) (fun e => ⟨[(11, (.int .i64 e))], ⟨2, [(1, .rw [(.int .i64 a3), (.int .i64 a4), (.int .i64 a5), (VS 3 (a6.map e_III))]), (0, .rw [(.int .i64 a0), (.int .i64 a1), (VS 4 (a2.map e_SIII))])], false⟩⟩) r1 ?_ ?_
  · refine pw_so ?_;refine po_all ?_;(conv=>whnf);refine pw_block ?_;refine pw_loop (τ := Int × Int × Int) (fun e => ⟨[(3, (.int .i64 e.1)), (4, (.int .i64 a9)), (5, (.pointer (some ⟨0, 0, none⟩))), (6, (.pointer (some ⟨1, 0, none⟩))), (11, (.int .i64 e.2.1)), (12, (.int .i64 e.2.2))], ⟨2, [(1, .rw [(.int .i64 a3), (.int .i64 a4), (.int .i64 a5), (VS 3 (a6.map e_III))]), (0, .rw [(.int .i64 a0), (.int .i64 a1), (VS 4 (a2.map e_SIII))])], false⟩⟩) h2 ?_ (fun _ => Nat.le_of_ble_eq_true rfl) ?_
    · exact .sub' (Nat.le_of_ble_eq_true rfl) (.cons rfl (.cons rfl (.cons rfl (.cons rfl (.cons rfl (.cons rfl .nil))))))
    · intro e5 x6 h7;refine pw_seq ?_;refine pw_so ?_;refine po_all ?_;(conv=>whnf);refine pw_cond ?_;(conv=>whnf);refine pbr_oite h7 (fun g8 h7 => ?_) (fun g8 h7 => ?_)
      · (conv=>whnf);refine pw_skip ?_;(conv=>whnf);refine pw_seq ?_;refine pw_block ?_;refine pw_sd ?_;(conv=>whnf);refine pbr_ogrd h7 (fun g9 h7 => ?_);(conv=>whnf);refine nth_o (l := a6) h7 (fun x10 _ h7 => ?_);(conv=>whnf);refine pbr_ogrd h7 (fun g11 h7 => ?_);(conv=>whnf);refine nth_o (l := a2) h7 (fun x12 _ h7 => ?_);(conv=>whnf);refine ⟨?_, trivial⟩;(conv=>whnf);refine ⟨by repeat (first | exact trivial | refine And.intro rfl ?_), ?_⟩;(conv=>whnf);refine pw_seq ?_;refine pw_so ?_;refine po_all ?_;(conv=>whnf);obtain ⟨y13, h14, h7⟩ := obnd_some h7;refine (c15 h14).go ?_;(conv=>whnf);refine pw_cond ?_;(conv=>whnf)
        refine pbr_oite h7 (fun g15 h7 => ?_) (fun g15 h7 => ?_)
        · (conv=>whnf);refine pw_so ?_;refine po_all ?_;(conv=>whnf);refine pw_ret ?_;(conv=>whnf);cases h7;refine ⟨_, rfl, ?_⟩; rintro rfl;(conv=>whnf);obtain rfl := h4 _ rfl; rfl
        · (conv=>whnf);refine pw_skip ?_;(conv=>whnf);refine pw_ops ?_;refine po_all ?_;(conv=>whnf);refine pw_ops ?_;refine po_all ?_;(conv=>whnf);cases h7;refine ⟨_, rfl, ?_⟩;exact .sub' (Nat.le_of_ble_eq_true rfl) (.cons rfl (.cons rfl (.cons rfl (.cons rfl (.cons rfl (.cons rfl .nil))))))
      · (conv=>whnf);refine pw_exit ?_;(conv=>whnf);cases h7;refine ⟨_, rfl, ?_⟩; rintro rfl;(conv=>whnf);exact ⟨_, rfl, ⟨(.cons rfl .nil), rfl⟩⟩
  · intro r18 hr; have H := h3 _ hr;refine pw_so ?_;refine po_all ?_;(conv=>whnf);refine pw_ret ?_;(conv=>whnf);cases H; rfl

/-- guidevane/guidevaneref08.Cell -/
noncomputable def f349  (a0 : Int) (_ : Int) (a2 : List (ByteArray × Int × Int × Int)) (a3 : Int) (a4 : Int) : Option Int :=
  some (IntKind.i64.wrap ((IntKind.i64.wrap ((IntKind.i64.wrap (a3 - a0)) * ((a2.map e_SIII).length : Int))) + a4))
set_option maxHeartbeats 1000000 in
theorem c349  {a0 : Int} {a1 : Int} {a2 : List (ByteArray × Int × Int × Int)} {a3 : Int} {a4 : Int} {x : Int} (H : f349 a0 a1 a2 a3 a4 = some x) : ICalls E 349 [(.agg ⟨[(.int .i64 a0), (.int .i64 a1), (VS 4 (a2.map e_SIII))]⟩), (.int .i64 a3), (.int .i64 a4)] AHeap.none fun v _ => v = (.int .i64 x) := by
  refine icalls_fn (pfnw ?_); unfold f349 at H;(conv=>whnf);refine pw_so ?_;refine po_all ?_;(conv=>whnf);refine pw_so ?_;refine po_all ?_;(conv=>whnf);refine pw_ret ?_;(conv=>whnf);cases H; rfl

/-- guidevane/guidevaneref08.Revenue -/
noncomputable def f350  (_ : Int) (_ : Int) (a2 : List (ByteArray × Int × Int × Int)) (a3 : Int) (a4 : Int) (_ : Int) (a6 : Int) (a7 : Int) : Option Int :=
  ogrd ((ile 0 a6)) (
  obnd (a2[a6.toNat]?) fun (x2 : ByteArray × Int × Int × Int) =>
  obnd (
   oite ((ilt (0 : Int) x2.2.2.1)) (
    some (IntKind.i64.wrap (x2.2.2.1 * a4))
     ) (
    some (IntKind.i64.wrap (x2.2.2.1 * a3))
     )
    ) fun (r3 : Int) =>
  oite ((!(ieq a6 a7))) (
   some (IntKind.i64.wrap (r3 - x2.2.2.2))
    ) (
   some r3
    )
  )
set_option maxHeartbeats 1000000 in
theorem c350  {a0 : Int} {a1 : Int} {a2 : List (ByteArray × Int × Int × Int)} {a3 : Int} {a4 : Int} {a5 : Int} {a6 : Int} {a7 : Int} {x : Int} (H : f350 a0 a1 a2 a3 a4 a5 a6 a7 = some x) : ICalls E 350 [(.agg ⟨[(.int .i64 a0), (.int .i64 a1), (VS 4 (a2.map e_SIII))]⟩), (.agg ⟨[(.int .i64 a3), (.int .i64 a4), (.int .i64 a5)]⟩), (.int .i64 a6), (.int .i64 a7)] AHeap.none fun v _ => v = (.int .i64 x) := by
  refine icalls_fn (pfnw ?_); unfold f350 at H;(conv=>whnf);refine pw_so ?_;refine po_all ?_;(conv=>whnf);refine pw_so ?_;refine po_all ?_;(conv=>whnf);refine pbr_ogrd H (fun g1 H => ?_);(conv=>whnf);refine nth_o (l := a2) H (fun x2 _ H => ?_);(conv=>whnf);refine pw_so ?_;refine po_all ?_;(conv=>whnf);obtain ⟨r3, h4, H⟩ := obnd_some H;refine pw_join (ρ := Int) (fun e => ⟨[(2, (.int .i64 a6)), (3, (.int .i64 a7)), (9, (.pointer (some ⟨2, 0, none⟩))), (10, (.int .i64 e))], ⟨3, [(2, .rw [(.string x2.1), (.int .i64 x2.2.1), (.int .i64 x2.2.2.1), (.int .i64 x2.2.2.2)]), (1, .rw [(.int .i64 a3), (.int .i64 a4), (.int .i64 a5)]), (0, .rw [(.int .i64 a0), (.int .i64 a1), (VS 4 (a2.map e_SIII))])], false⟩⟩) r3 ?_ ?_
  · refine pw_so ?_;refine po_all ?_;(conv=>whnf);refine pw_cond ?_;(conv=>whnf);refine pbr_oite h4 (fun g7 h4 => ?_) (fun g7 h4 => ?_)
    · (conv=>whnf);refine pw_ops ?_;refine po_all ?_;(conv=>whnf);cases h4;exact ⟨(.cons rfl (.cons rfl (.cons rfl (.cons rfl .nil)))), rfl⟩
    · (conv=>whnf);refine pw_skip ?_;(conv=>whnf);cases h4;exact ⟨(.cons rfl (.cons rfl (.cons rfl (.cons rfl .nil)))), rfl⟩
  · refine pw_seq ?_;refine pw_so ?_;refine po_all ?_;(conv=>whnf);refine pw_cond ?_;(conv=>whnf);refine pbr_oite H (fun g8 H => ?_) (fun g8 H => ?_)
    · (conv=>whnf);refine pw_ops ?_;refine po_all ?_;(conv=>whnf);refine pw_so ?_;refine po_all ?_;(conv=>whnf);refine pw_ret ?_;(conv=>whnf);cases H; rfl
    · (conv=>whnf);refine pw_skip ?_;(conv=>whnf);refine pw_so ?_;refine po_all ?_;(conv=>whnf);refine pw_ret ?_;(conv=>whnf);cases H; rfl

/-- guidevane/guidevaneref08.BestWith -/
noncomputable def f316 [LO]  (a0 : Int) (a1 : Int) (a2 : List (ByteArray × Int × Int × Int)) (a3 : Int) (a4 : Int) (a5 : Int) (a6 : List (Int × Int × Int)) (a7 : Int) (a8 : Int) : Option ((List Int) × Int × Bool) :=
  obnd (
   ogrd (mfits 24 (IntKind.i64.wrap (((a6.map e_III).length : Int) + (1 : Int))) (IntKind.i64.wrap (((a6.map e_III).length : Int) + (1 : Int)))) (
   some ()
   )
    ) fun (_ : Unit) =>
  obnd (
   oloop (τ := Int × (List ((List Int))) × (List ((List Bool)))) (ρ := (List ((List Int))) × (List ((List Bool)))) (fun e10 =>
    oite ((ile (0 : Int) e10.1)) (
     obnd (
      obnd (
       ogrd (mfits 8 (IntKind.i64.wrap ((IntKind.i64.wrap ((IntKind.i64.wrap (a1 - a0)) + (1 : Int))) * ((a2.map e_SIII).length : Int))) (IntKind.i64.wrap ((IntKind.i64.wrap ((IntKind.i64.wrap (a1 - a0)) + (1 : Int))) * ((a2.map e_SIII).length : Int)))) (
       ogrd ((ile 0 e10.1)) (
       ogrd ((ilt e10.1 ((IntKind.i64.wrap (((a6.map e_III).length : Int) + (1 : Int))).toNat : Int))) (
       ogrd (mfits 1 (IntKind.i64.wrap ((IntKind.i64.wrap ((IntKind.i64.wrap (a1 - a0)) + (1 : Int))) * ((a2.map e_SIII).length : Int))) (IntKind.i64.wrap ((IntKind.i64.wrap ((IntKind.i64.wrap (a1 - a0)) + (1 : Int))) * ((a2.map e_SIII).length : Int)))) (
       ogrd (Nat.blt e10.1.toNat e10.2.1.length) (
       ogrd (Nat.blt e10.1.toNat e10.2.2.length) (
       some ()
       )
       )
       )
       )
       )
       )
        ) fun (_ : Unit) =>
      oloop (τ := Int × (List Int) × (List Bool)) (ρ := (List Int) × (List Bool)) (fun e28 =>
       oite ((ilt e28.1 (IntKind.i64.wrap ((IntKind.i64.wrap ((IntKind.i64.wrap (a1 - a0)) + (1 : Int))) * ((a2.map e_SIII).length : Int))))) (
        obnd (
         ogrd (!((ieq ((a2.map e_SIII).length : Int) 0))) (
         oite ((ieq e10.1 ((a6.map e_III).length : Int))) (
          ogrd ((ile 0 e10.1)) (
          ogrd ((ilt e10.1 ((IntKind.i64.wrap (((a6.map e_III).length : Int) + (1 : Int))).toNat : Int))) (
          ogrd (Nat.blt e10.1.toNat e10.2.1.length) (
          ogrd (Nat.blt e10.1.toNat e10.2.2.length) (
          ogrd ((ile 0 e28.1)) (
          ogrd ((ilt e28.1 ((IntKind.i64.wrap ((IntKind.i64.wrap ((IntKind.i64.wrap (a1 - a0)) + (1 : Int))) * ((a2.map e_SIII).length : Int))).toNat : Int))) (
          ogrd (Nat.blt e28.1.toNat e28.2.1.length) (
          ogrd (Nat.blt e28.1.toNat e28.2.2.length) (
          some ((e28.2.1.set e28.1.toNat (IntKind.i64.wrap (a5 * (IntKind.i64.wrap (a0 + (IntKind.i64.wrap (e28.1.tdiv ((a2.map e_SIII).length : Int)))))))), (e28.2.2.set e28.1.toNat true))
          )
          )
          )
          )
          )
          )
          )
          )
           ) (
          obnd (f351 a0 a1 a2 a3 a4 a5 a6 e10.1 (IntKind.i64.wrap (a0 + (IntKind.i64.wrap (e28.1.tdiv ((a2.map e_SIII).length : Int))))) a7) fun (y46 : Int) =>
          oite ((ilt y46 (imin a8 (IntKind.i64.wrap (((a6.map e_III).length : Int) - e10.1))))) (
           some (e28.2.1, e28.2.2)
            ) (
           oloop (τ := Int × (List Int) × (List Bool)) (ρ := (List Int) × (List Bool)) (fun e49 =>
            oite ((ilt e49.1 ((a2.map e_SIII).length : Int))) (
             ogrd ((ile 0 e10.1)) (
             obnd (a6[e10.1.toNat]?) fun (x54 : Int × Int × Int) =>
             ogrd ((ile 0 e49.1)) (
             obnd (a2[e49.1.toNat]?) fun (x56 : ByteArray × Int × Int × Int) =>
             obnd (f15 (IntKind.i64.wrap ((IntKind.i64.wrap ((IntKind.i64.wrap (a0 + (IntKind.i64.wrap (e28.1.tdiv ((a2.map e_SIII).length : Int))))) + x54.2.2)) + x56.2.1)) a0 a1) fun (y57 : Bool) =>
             oite (!y57) (
              some (.inl ((IntKind.i64.wrap (e49.1 + (1 : Int))), e49.2.1, e49.2.2))
               ) (
              obnd (f349 a0 a1 a2 (IntKind.i64.wrap ((IntKind.i64.wrap ((IntKind.i64.wrap (a0 + (IntKind.i64.wrap (e28.1.tdiv ((a2.map e_SIII).length : Int))))) + x54.2.2)) + x56.2.1)) e49.1) fun (y60 : Int) =>
              obnd (a6[e10.1.toNat]?) fun (x62 : Int × Int × Int) =>
              ogrd ((ile 0 (IntKind.i64.wrap (e10.1 + (1 : Int))))) (
              ogrd ((ilt (IntKind.i64.wrap (e10.1 + (1 : Int))) ((IntKind.i64.wrap (((a6.map e_III).length : Int) + (1 : Int))).toNat : Int))) (
              ogrd (!(Nat.beq e10.1.toNat (IntKind.i64.wrap (e10.1 + (1 : Int))).toNat)) (
              obnd (e10.2.1[(IntKind.i64.wrap (e10.1 + (1 : Int))).toNat]?) fun (x65 : (List Int)) =>
              ogrd ((ile 0 y60)) (
              obnd (x65[y60.toNat]?) fun (x69 : Int) =>
              obnd (f350 a0 a1 a2 x62.1 x62.2.1 x62.2.2 e49.1 (e28.1.tmod ((a2.map e_SIII).length : Int))) fun (y70 : Int) =>
              obnd (
               ogrd (!(Nat.beq e10.1.toNat (IntKind.i64.wrap (e10.1 + (1 : Int))).toNat)) (
               obnd (e10.2.2[(IntKind.i64.wrap (e10.1 + (1 : Int))).toNat]?) fun (x76 : (List Bool)) =>
               obnd (x76[y60.toNat]?) fun (x79 : Bool) =>
               oite x79 (
                ogrd ((ilt e10.1 ((IntKind.i64.wrap (((a6.map e_III).length : Int) + (1 : Int))).toNat : Int))) (
                ogrd (Nat.blt e10.1.toNat e10.2.2.length) (
                ogrd ((ile 0 e28.1)) (
                ogrd ((ilt e28.1 ((IntKind.i64.wrap ((IntKind.i64.wrap ((IntKind.i64.wrap (a1 - a0)) + (1 : Int))) * ((a2.map e_SIII).length : Int))).toNat : Int))) (
                obnd (e49.2.2[e28.1.toNat]?) fun (x85 : Bool) =>
                obnd (
                 oite (!x85) (
                  some true
                   ) (
                  ogrd (Nat.blt e10.1.toNat e10.2.1.length) (
                  obnd (e49.2.1[e28.1.toNat]?) fun (x92 : Int) =>
                  some (ilt x92 (IntKind.i64.wrap (y70 + x69)))
                  )
                   )
                  ) fun (r88 : Bool) =>
                some r88
                )
                )
                )
                )
                 ) (
                some false
                 )
               )
                ) fun (r72 : Bool) =>
              oite r72 (
               ogrd ((ilt e10.1 ((IntKind.i64.wrap (((a6.map e_III).length : Int) + (1 : Int))).toNat : Int))) (
               ogrd (Nat.blt e10.1.toNat e10.2.1.length) (
               ogrd (Nat.blt e10.1.toNat e10.2.2.length) (
               ogrd ((ile 0 e28.1)) (
               ogrd ((ilt e28.1 ((IntKind.i64.wrap ((IntKind.i64.wrap ((IntKind.i64.wrap (a1 - a0)) + (1 : Int))) * ((a2.map e_SIII).length : Int))).toNat : Int))) (
               ogrd (Nat.blt e28.1.toNat e49.2.1.length) (
               ogrd (Nat.blt e28.1.toNat e49.2.2.length) (
               some (.inl (((IntKind.i64.wrap (e49.1 + (1 : Int))), (e49.2.1.set e28.1.toNat (IntKind.i64.wrap (y70 + x69))), (e49.2.2.set e28.1.toNat true))))
               )
               )
               )
               )
               )
               )
               )
                ) (
               some (.inl ((IntKind.i64.wrap (e49.1 + (1 : Int))), e49.2.1, e49.2.2))
                )
              )
              )
              )
              )
               )
             )
             )
              ) (
             some (.inr ((e49.2.1, e49.2.2)))
              )
             ) ((0 : Int), e28.2.1, e28.2.2)
            )
           )
         )
          ) fun (r32 : (List Int) × (List Bool)) =>
        some (.inl ((IntKind.i64.wrap (e28.1 + (1 : Int))), r32.1, r32.2))
         ) (
        some (.inr ((e28.2.1, e28.2.2)))
         )
        ) (((0 : Int), (List.replicate (IntKind.i64.wrap ((IntKind.i64.wrap ((IntKind.i64.wrap (a1 - a0)) + (1 : Int))) * ((a2.map e_SIII).length : Int))).toNat (0 : Int)), (List.replicate (IntKind.i64.wrap ((IntKind.i64.wrap ((IntKind.i64.wrap (a1 - a0)) + (1 : Int))) * ((a2.map e_SIII).length : Int))).toNat false)))
       ) fun (r14 : (List Int) × (List Bool)) =>
     ogrd (Nat.beq (IntKind.i64.wrap ((IntKind.i64.wrap ((IntKind.i64.wrap (a1 - a0)) + (1 : Int))) * ((a2.map e_SIII).length : Int))).toNat r14.2.length) (
     ogrd (Nat.beq (IntKind.i64.wrap ((IntKind.i64.wrap ((IntKind.i64.wrap (a1 - a0)) + (1 : Int))) * ((a2.map e_SIII).length : Int))).toNat r14.1.length) (
     some (.inl (((IntKind.i64.wrap (e10.1 - (1 : Int))), (e10.2.1.set e10.1.toNat r14.1), (e10.2.2.set e10.1.toNat r14.2))))
     )
     )
      ) (
     some (.inr ((e10.2.1, e10.2.2)))
      )
     ) ((((a6.map e_III).length : Int), (List.replicate (IntKind.i64.wrap (((a6.map e_III).length : Int) + (1 : Int))).toNat ([] : List Int)), (List.replicate (IntKind.i64.wrap (((a6.map e_III).length : Int) + (1 : Int))).toNat ([] : List Bool))))
    ) fun (r6 : (List ((List Int))) × (List ((List Bool)))) =>
  obnd (
   ogrd ((ilt (0 : Int) ((IntKind.i64.wrap (((a6.map e_III).length : Int) + (1 : Int))).toNat : Int))) (
   obnd (r6.2[(0 : Int).toNat]?) fun (x113 : (List Bool)) =>
   obnd (f349 a0 a1 a2 a3 a4) fun (y116 : Int) =>
   ogrd ((ile 0 y116)) (
   obnd (x113[y116.toNat]?) fun (x119 : Bool) =>
   oite x119 (
    obnd (r6.1[(0 : Int).toNat]?) fun (x121 : (List Int)) =>
    obnd (f349 a0 a1 a2 a3 a4) fun (y124 : Int) =>
    ogrd ((ile 0 y124)) (
    obnd (x121[y124.toNat]?) fun (x127 : Int) =>
    some (x127, true)
    )
     ) (
    some ((0 : Int), false)
     )
   )
   )
    ) fun (r108 : Int × Bool) =>
  obnd (
   oloop (τ := (List Int) × Int × Int × Int) (ρ := (List Int)) (fun e132 =>
    oite ((ilt e132.2.2.2 ((a6.map e_III).length : Int))) (
     oite r108.2 (
      obnd (
       oloop (τ := Int) (ρ := (List Int) × Int × Int) (fun e141 =>
        oite ((ilt e141 ((a2.map e_SIII).length : Int))) (
         ogrd ((ile 0 e132.2.2.2)) (
         obnd (a6[e132.2.2.2.toNat]?) fun (x146 : Int × Int × Int) =>
         ogrd ((ile 0 e141)) (
         obnd (a2[e141.toNat]?) fun (x148 : ByteArray × Int × Int × Int) =>
         obnd (f15 (IntKind.i64.wrap ((IntKind.i64.wrap (e132.2.1 + x146.2.2)) + x148.2.1)) a0 a1) fun (y149 : Bool) =>
         oite (!y149) (
          some (.inl (IntKind.i64.wrap (e141 + (1 : Int))))
           ) (
          obnd (f349 a0 a1 a2 (IntKind.i64.wrap ((IntKind.i64.wrap (e132.2.1 + x146.2.2)) + x148.2.1)) e141) fun (y152 : Int) =>
          obnd (
           ogrd ((ile 0 (IntKind.i64.wrap (e132.2.2.2 + (1 : Int))))) (
           ogrd ((ilt (IntKind.i64.wrap (e132.2.2.2 + (1 : Int))) ((IntKind.i64.wrap (((a6.map e_III).length : Int) + (1 : Int))).toNat : Int))) (
           obnd (r6.2[(IntKind.i64.wrap (e132.2.2.2 + (1 : Int))).toNat]?) fun (x160 : (List Bool)) =>
           ogrd ((ile 0 y152)) (
           obnd (x160[y152.toNat]?) fun (x164 : Bool) =>
           oite x164 (
            obnd (a6[e132.2.2.2.toNat]?) fun (x166 : Int × Int × Int) =>
            obnd (r6.1[(IntKind.i64.wrap (e132.2.2.2 + (1 : Int))).toNat]?) fun (x167 : (List Int)) =>
            obnd (x167[y152.toNat]?) fun (x170 : Int) =>
            ogrd ((ilt e132.2.2.2 ((IntKind.i64.wrap (((a6.map e_III).length : Int) + (1 : Int))).toNat : Int))) (
            obnd (r6.1[e132.2.2.2.toNat]?) fun (x172 : (List Int)) =>
            obnd (f350 a0 a1 a2 x166.1 x166.2.1 x166.2.2 e141 e132.2.2.1) fun (y175 : Int) =>
            obnd (f349 a0 a1 a2 e132.2.1 e132.2.2.1) fun (y177 : Int) =>
            ogrd ((ile 0 y177)) (
            obnd (x172[y177.toNat]?) fun (x180 : Int) =>
            some (ieq (IntKind.i64.wrap (y175 + x170)) x180)
            )
            )
             ) (
            some false
             )
           )
           )
           )
            ) fun (r154 : Bool) =>
          oite r154 (
           ogrd (fits 8 (e132.1.length + ([e141] : List Int).length)) (
           some (.inr (((e132.1 ++ ([e141] : List Int)), (IntKind.i64.wrap ((IntKind.i64.wrap (e132.2.1 + x146.2.2)) + x148.2.1)), e141)))
           )
            ) (
           some (.inl (IntKind.i64.wrap (e141 + (1 : Int))))
            )
           )
         )
         )
          ) (
         some (.inr ((e132.1, e132.2.1, e132.2.2.1)))
          )
         ) (0 : Int)
        ) fun (r137 : (List Int) × Int × Int) =>
      some (.inl (r137.1, r137.2.1, r137.2.2, (IntKind.i64.wrap (e132.2.2.2 + (1 : Int)))))
       ) (
      some (.inr (e132.1))
       )
      ) (
     some (.inr (e132.1))
      )
     ) ((([] : List Int), a3, a4, (0 : Int)))
    ) fun (r128 : (List Int)) =>
  some (r128, r108.1, r108.2)
set_option maxHeartbeats 1000000 in
theorem c316 [LO]  {a0 : Int} {a1 : Int} {a2 : List (ByteArray × Int × Int × Int)} {a3 : Int} {a4 : Int} {a5 : Int} {a6 : List (Int × Int × Int)} {a7 : Int} {a8 : Int} {x : (List Int) × Int × Bool} (H : f316 a0 a1 a2 a3 a4 a5 a6 a7 a8 = some x) : ICalls E 316 [(.agg ⟨[(.int .i64 a0), (.int .i64 a1), (VS 4 (a2.map e_SIII))]⟩), (.agg ⟨[(.int .i64 a3), (.int .i64 a4), (.int .i64 a5), (VS 3 (a6.map e_III))]⟩), (.agg ⟨[(.int .i64 a7), (.int .i64 a8)]⟩)] AHeap.none fun v _ => v = (.tuple ⟨[(VS 1 (x.1.map eI)), (.int .i64 x.2.1), (.bool x.2.2)]⟩) := by
  refine ICalls.frz ?_;refine icalls_fn (pfnw ?_); unfold f316 at H;(conv=>whnf);refine pw_so ?_;refine po_all ?_;(conv=>whnf);refine pw_so ?_;refine po_all ?_;(conv=>whnf);refine pw_so ?_;refine po_all ?_;(conv=>whnf);refine pw_so ?_;refine po_all ?_;(conv=>whnf);refine pw_so ?_;refine po_all ?_;(conv=>whnf);obtain ⟨r1, h2, H⟩ := obnd_some H;refine pw_joinR (ρ := Unit) (fun e => ⟨[(3, (.pointer (some ⟨0, 0, none⟩))), (4, (.pointer (some ⟨1, 0, none⟩))), (5, (.pointer (some ⟨2, 0, none⟩))), (9, (.int .i64 ((a6.map e_III).length : Int))), (10, (.slice none 0 0)), (11, (.int .i64 0)), (12, (.bool false)), (13, (.int .i64 (IntKind.i64.wrap ((IntKind.i64.wrap ((IntKind.i64.wrap (a1 - a0)) + (1 : Int))) * ((a2.map e_SIII).length : Int))))), (14, (.slice (some ⟨3, 0, none⟩) (IntKind.i64.wrap (((a6.map e_III).length : Int) + (1 : Int))).toNat 1)), (15, (.slice (some ⟨4, 0, none⟩) (IntKind.i64.wrap (((a6.map e_III).length : Int) + (1 : Int))).toNat 1))], ⟨5, [(4, .rw ((List.replicate (IntKind.i64.wrap (((a6.map e_III).length : Int) + (1 : Int))).toNat ([] : List Bool)).map e_L1B)), (3, .rw ((List.replicate (IntKind.i64.wrap (((a6.map e_III).length : Int) + (1 : Int))).toNat ([] : List Int)).map e_L1I)), (2, .rw [(.int .i64 a7), (.int .i64 a8)]), (1, .rw [(.int .i64 a3), (.int .i64 a4), (.int .i64 a5), (VS 3 (a6.map e_III))]), (0, .rw [(.int .i64 a0), (.int .i64 a1), (VS 4 (a2.map e_SIII))])], false⟩⟩) r1 ?_ ?_
  · refine pw_draw ?_;(conv=>whnf);refine ⟨?_, ?_⟩
    · (conv=>whnf);obtain ⟨g5, h2⟩ := ogrd_some h2;refine mk_n g5 ?_;(conv=>whnf);refine ⟨by repeat (first | exact trivial | refine And.intro rfl ?_), ?_⟩;(conv=>whnf);refine ⟨?_, trivial⟩;(conv=>whnf);refine mk_n g5 ?_;(conv=>whnf);refine ⟨by repeat (first | exact trivial | refine And.intro rfl ?_), ?_⟩;(conv=>whnf);cases h2;refine Recast.trans ((Recast.nilrow (b := 4) (f := e_L1B) (x := ([] : List Bool)) (l2 := [(4, .rw ((List.replicate (IntKind.i64.wrap (((a6.map e_III).length : Int) + (1 : Int))).toNat ([] : List Bool)).map e_L1B)), (3, .rw (replL (IntKind.i64.wrap (((a6.map e_III).length : Int) + (1 : Int))).toNat [.slice none 0 0])), (2, .rw [(.int .i64 a7), (.int .i64 a8)]), (1, .rw [(.int .i64 a3), (.int .i64 a4), (.int .i64 a5), (VS 3 (a6.map e_III))]), (0, .rw [(.int .i64 a0), (.int .i64 a1), (VS 4 (a2.map e_SIII))])]) rfl (Nat.le_of_ble_eq_true rfl) rfl rfl).trans (Recast.nilrow (b := 3) (f := e_L1I) (x := ([] : List Int)) (l2 := [(4, .rw ((List.replicate (IntKind.i64.wrap (((a6.map e_III).length : Int) + (1 : Int))).toNat ([] : List Bool)).map e_L1B)), (3, .rw ((List.replicate (IntKind.i64.wrap (((a6.map e_III).length : Int) + (1 : Int))).toNat ([] : List Int)).map e_L1I)), (2, .rw [(.int .i64 a7), (.int .i64 a8)]), (1, .rw [(.int .i64 a3), (.int .i64 a4), (.int .i64 a5), (VS 3 (a6.map e_III))]), (0, .rw [(.int .i64 a0), (.int .i64 a1), (VS 4 (a2.map e_SIII))])]) rfl (Nat.le_of_ble_eq_true rfl) rfl rfl)) ?_
      exact Recast.fz (fun _ => false) (Nat.le_of_ble_eq_true rfl) (.cons (.same rfl rfl (OBnd.rwc (Nat.le_of_ble_eq_true rfl) (oneL_map fun _ => rfl))) (.cons (.same rfl rfl (OBnd.rwc (Nat.le_of_ble_eq_true rfl) (oneL_map fun _ => rfl))) (.cons (.same rfl rfl (OBnd.rwl (Nat.le_of_ble_eq_true rfl) rfl (.cons .cl (.cons .cl .nil)))) (.cons (.same rfl rfl (OBnd.rwl (Nat.le_of_ble_eq_true rfl) rfl (.cons .cl (.cons .cl (.cons .cl (.cons .cl .nil)))))) (.cons (.same rfl rfl (OBnd.rwl (Nat.le_of_ble_eq_true rfl) rfl (.cons .cl (.cons .cl (.cons .cl .nil))))) .nil))))) (.cons rfl (.same _ (.ptr (Nat.le_of_ble_eq_true rfl))) (.cons rfl (.same _ (.ptr (Nat.le_of_ble_eq_true rfl))) (.cons rfl (.same _ (.ptr (Nat.le_of_ble_eq_true rfl))) (.cons rfl (.same _ .cl) (.cons rfl (.same _ .cl) (.cons rfl (.same _ .cl) (.cons rfl (.same _ .cl) (.cons rfl (.same _ .cl) (.cons rfl (.same _ (.slice (Nat.le_of_ble_eq_true rfl))) (.cons rfl (.same _ (.slice (Nat.le_of_ble_eq_true rfl))) .nil))))))))))
    · obtain ⟨g5, h2⟩ := ogrd_some h2;(conv=>whnf);refine ⟨?_, trivial⟩;(conv=>whnf);refine mk_n g5 ?_;(conv=>whnf);refine ⟨by repeat (first | exact trivial | refine And.intro rfl ?_), ?_⟩;(conv=>whnf);refine ⟨?_, trivial⟩;(conv=>whnf);refine mk_n g5 ?_;(conv=>whnf);refine ⟨by repeat (first | exact trivial | refine And.intro rfl ?_), ?_⟩;(conv=>whnf);cases h2;refine Recast.trans ((Recast.nilrow (b := 4) (f := e_L1I) (x := ([] : List Int)) (l2 := [(4, .rw ((List.replicate (IntKind.i64.wrap (((a6.map e_III).length : Int) + (1 : Int))).toNat ([] : List Int)).map e_L1I)), (3, .rw (replL (IntKind.i64.wrap (((a6.map e_III).length : Int) + (1 : Int))).toNat [.slice none 0 0])), (2, .rw [(.int .i64 a7), (.int .i64 a8)]), (1, .rw [(.int .i64 a3), (.int .i64 a4), (.int .i64 a5), (VS 3 (a6.map e_III))]), (0, .rw [(.int .i64 a0), (.int .i64 a1), (VS 4 (a2.map e_SIII))])]) rfl (Nat.le_of_ble_eq_true rfl) rfl rfl).trans (Recast.nilrow (b := 3) (f := e_L1B) (x := ([] : List Bool)) (l2 := [(4, .rw ((List.replicate (IntKind.i64.wrap (((a6.map e_III).length : Int) + (1 : Int))).toNat ([] : List Int)).map e_L1I)), (3, .rw ((List.replicate (IntKind.i64.wrap (((a6.map e_III).length : Int) + (1 : Int))).toNat ([] : List Bool)).map e_L1B)), (2, .rw [(.int .i64 a7), (.int .i64 a8)]), (1, .rw [(.int .i64 a3), (.int .i64 a4), (.int .i64 a5), (VS 3 (a6.map e_III))]), (0, .rw [(.int .i64 a0), (.int .i64 a1), (VS 4 (a2.map e_SIII))])]) rfl (Nat.le_of_ble_eq_true rfl) rfl rfl)) ?_
      refine Recast.trans (s' := ⟨[(3, (.pointer (some ⟨0, 0, none⟩))), (4, (.pointer (some ⟨1, 0, none⟩))), (5, (.pointer (some ⟨2, 0, none⟩))), (9, (.int .i64 ((a6.map e_III).length : Int))), (10, (.slice none 0 0)), (11, (.int .i64 0)), (12, (.bool false)), (13, (.int .i64 (IntKind.i64.wrap ((IntKind.i64.wrap ((IntKind.i64.wrap (a1 - a0)) + (1 : Int))) * ((a2.map e_SIII).length : Int))))), (14, (.slice (some ⟨4, 0, none⟩) (IntKind.i64.wrap (((a6.map e_III).length : Int) + (1 : Int))).toNat 1)), (15, (.slice (some ⟨5, 0, none⟩) (IntKind.i64.wrap (((a6.map e_III).length : Int) + (1 : Int))).toNat 1))], ⟨6, [(4, .rw ((List.replicate (IntKind.i64.wrap (((a6.map e_III).length : Int) + (1 : Int))).toNat ([] : List Int)).map e_L1I)), (5, .rw ((List.replicate (IntKind.i64.wrap (((a6.map e_III).length : Int) + (1 : Int))).toNat ([] : List Bool)).map e_L1B)), (2, .rw [(.int .i64 a7), (.int .i64 a8)]), (1, .rw [(.int .i64 a3), (.int .i64 a4), (.int .i64 a5), (VS 3 (a6.map e_III))]), (0, .rw [(.int .i64 a0), (.int .i64 a1), (VS 4 (a2.map e_SIII))])], false⟩⟩) (Recast.mv 3 5 (Nat.le_of_ble_eq_true rfl) (Nat.le_of_ble_eq_true rfl) (.cons (.rw (Nat.ne_of_beq_eq_false rfl) (Nat.ne_of_beq_eq_false rfl) (Nat.le_of_ble_eq_true rfl) rfl (oneL_map fun _ => rfl) .cl) (.cons (.mv rfl (Nat.le_of_ble_eq_true rfl) rfl (oneL_map fun _ => rfl) .cl) (.cons (.rw (Nat.ne_of_beq_eq_false rfl) (Nat.ne_of_beq_eq_false rfl) (Nat.le_of_ble_eq_true rfl) rfl rfl (.of (.cons .cl (.cons .cl .nil)))) (.cons (.rw (Nat.ne_of_beq_eq_false rfl) (Nat.ne_of_beq_eq_false rfl) (Nat.le_of_ble_eq_true rfl) rfl rfl (.of (.cons .cl (.cons .cl (.cons .cl (.cons .cl .nil)))))) (.cons (.rw (Nat.ne_of_beq_eq_false rfl) (Nat.ne_of_beq_eq_false rfl) (Nat.le_of_ble_eq_true rfl) rfl rfl (.of (.cons .cl (.cons .cl (.cons .cl .nil))))) .nil))))) (.cons rfl (.ptr (Nat.ne_of_beq_eq_false rfl) (Nat.le_of_ble_eq_true rfl)) (.cons rfl (.ptr (Nat.ne_of_beq_eq_false rfl) (Nat.le_of_ble_eq_true rfl)) (.cons rfl (.ptr (Nat.ne_of_beq_eq_false rfl) (Nat.le_of_ble_eq_true rfl)) (.cons rfl .cl (.cons rfl .cl (.cons rfl .cl (.cons rfl .cl (.cons rfl .cl (.cons rfl (.slice (Nat.ne_of_beq_eq_false rfl) (Nat.le_of_ble_eq_true rfl)) (.cons rfl (.slicem (Nat.le_of_ble_eq_true rfl)) .nil))))))))))) ?_
      refine Recast.trans (s' := ⟨[(3, (.pointer (some ⟨0, 0, none⟩))), (4, (.pointer (some ⟨1, 0, none⟩))), (5, (.pointer (some ⟨2, 0, none⟩))), (9, (.int .i64 ((a6.map e_III).length : Int))), (10, (.slice none 0 0)), (11, (.int .i64 0)), (12, (.bool false)), (13, (.int .i64 (IntKind.i64.wrap ((IntKind.i64.wrap ((IntKind.i64.wrap (a1 - a0)) + (1 : Int))) * ((a2.map e_SIII).length : Int))))), (14, (.slice (some ⟨6, 0, none⟩) (IntKind.i64.wrap (((a6.map e_III).length : Int) + (1 : Int))).toNat 1)), (15, (.slice (some ⟨5, 0, none⟩) (IntKind.i64.wrap (((a6.map e_III).length : Int) + (1 : Int))).toNat 1))], ⟨7, [(6, .rw ((List.replicate (IntKind.i64.wrap (((a6.map e_III).length : Int) + (1 : Int))).toNat ([] : List Int)).map e_L1I)), (5, .rw ((List.replicate (IntKind.i64.wrap (((a6.map e_III).length : Int) + (1 : Int))).toNat ([] : List Bool)).map e_L1B)), (2, .rw [(.int .i64 a7), (.int .i64 a8)]), (1, .rw [(.int .i64 a3), (.int .i64 a4), (.int .i64 a5), (VS 3 (a6.map e_III))]), (0, .rw [(.int .i64 a0), (.int .i64 a1), (VS 4 (a2.map e_SIII))])], false⟩⟩) (Recast.mv 4 6 (Nat.le_of_ble_eq_true rfl) (Nat.le_of_ble_eq_true rfl) (.cons (.mv rfl (Nat.le_of_ble_eq_true rfl) rfl (oneL_map fun _ => rfl) .cl) (.cons (.rw (Nat.ne_of_beq_eq_false rfl) (Nat.ne_of_beq_eq_false rfl) (Nat.le_of_ble_eq_true rfl) rfl (oneL_map fun _ => rfl) .cl) (.cons (.rw (Nat.ne_of_beq_eq_false rfl) (Nat.ne_of_beq_eq_false rfl) (Nat.le_of_ble_eq_true rfl) rfl rfl (.of (.cons .cl (.cons .cl .nil)))) (.cons (.rw (Nat.ne_of_beq_eq_false rfl) (Nat.ne_of_beq_eq_false rfl) (Nat.le_of_ble_eq_true rfl) rfl rfl (.of (.cons .cl (.cons .cl (.cons .cl (.cons .cl .nil)))))) (.cons (.rw (Nat.ne_of_beq_eq_false rfl) (Nat.ne_of_beq_eq_false rfl) (Nat.le_of_ble_eq_true rfl) rfl rfl (.of (.cons .cl (.cons .cl (.cons .cl .nil))))) .nil))))) (.cons rfl (.ptr (Nat.ne_of_beq_eq_false rfl) (Nat.le_of_ble_eq_true rfl)) (.cons rfl (.ptr (Nat.ne_of_beq_eq_false rfl) (Nat.le_of_ble_eq_true rfl)) (.cons rfl (.ptr (Nat.ne_of_beq_eq_false rfl) (Nat.le_of_ble_eq_true rfl)) (.cons rfl .cl (.cons rfl .cl (.cons rfl .cl (.cons rfl .cl (.cons rfl .cl (.cons rfl (.slicem (Nat.le_of_ble_eq_true rfl)) (.cons rfl (.slice (Nat.ne_of_beq_eq_false rfl) (Nat.le_of_ble_eq_true rfl)) .nil))))))))))) ?_
      refine Recast.trans (s' := ⟨[(3, (.pointer (some ⟨0, 0, none⟩))), (4, (.pointer (some ⟨1, 0, none⟩))), (5, (.pointer (some ⟨2, 0, none⟩))), (9, (.int .i64 ((a6.map e_III).length : Int))), (10, (.slice none 0 0)), (11, (.int .i64 0)), (12, (.bool false)), (13, (.int .i64 (IntKind.i64.wrap ((IntKind.i64.wrap ((IntKind.i64.wrap (a1 - a0)) + (1 : Int))) * ((a2.map e_SIII).length : Int))))), (14, (.slice (some ⟨6, 0, none⟩) (IntKind.i64.wrap (((a6.map e_III).length : Int) + (1 : Int))).toNat 1)), (15, (.slice (some ⟨4, 0, none⟩) (IntKind.i64.wrap (((a6.map e_III).length : Int) + (1 : Int))).toNat 1))], ⟨7, [(6, .rw ((List.replicate (IntKind.i64.wrap (((a6.map e_III).length : Int) + (1 : Int))).toNat ([] : List Int)).map e_L1I)), (4, .rw ((List.replicate (IntKind.i64.wrap (((a6.map e_III).length : Int) + (1 : Int))).toNat ([] : List Bool)).map e_L1B)), (2, .rw [(.int .i64 a7), (.int .i64 a8)]), (1, .rw [(.int .i64 a3), (.int .i64 a4), (.int .i64 a5), (VS 3 (a6.map e_III))]), (0, .rw [(.int .i64 a0), (.int .i64 a1), (VS 4 (a2.map e_SIII))])], false⟩⟩) (Recast.mv 5 4 (Nat.le_of_ble_eq_true rfl) (Nat.le_of_ble_eq_true rfl) (.cons (.rw (Nat.ne_of_beq_eq_false rfl) (Nat.ne_of_beq_eq_false rfl) (Nat.le_of_ble_eq_true rfl) rfl (oneL_map fun _ => rfl) .cl) (.cons (.mv rfl (Nat.le_of_ble_eq_true rfl) rfl (oneL_map fun _ => rfl) .cl) (.cons (.rw (Nat.ne_of_beq_eq_false rfl) (Nat.ne_of_beq_eq_false rfl) (Nat.le_of_ble_eq_true rfl) rfl rfl (.of (.cons .cl (.cons .cl .nil)))) (.cons (.rw (Nat.ne_of_beq_eq_false rfl) (Nat.ne_of_beq_eq_false rfl) (Nat.le_of_ble_eq_true rfl) rfl rfl (.of (.cons .cl (.cons .cl (.cons .cl (.cons .cl .nil)))))) (.cons (.rw (Nat.ne_of_beq_eq_false rfl) (Nat.ne_of_beq_eq_false rfl) (Nat.le_of_ble_eq_true rfl) rfl rfl (.of (.cons .cl (.cons .cl (.cons .cl .nil))))) .nil))))) (.cons rfl (.ptr (Nat.ne_of_beq_eq_false rfl) (Nat.le_of_ble_eq_true rfl)) (.cons rfl (.ptr (Nat.ne_of_beq_eq_false rfl) (Nat.le_of_ble_eq_true rfl)) (.cons rfl (.ptr (Nat.ne_of_beq_eq_false rfl) (Nat.le_of_ble_eq_true rfl)) (.cons rfl .cl (.cons rfl .cl (.cons rfl .cl (.cons rfl .cl (.cons rfl .cl (.cons rfl (.slice (Nat.ne_of_beq_eq_false rfl) (Nat.le_of_ble_eq_true rfl)) (.cons rfl (.slicem (Nat.le_of_ble_eq_true rfl)) .nil))))))))))) ?_
      exact (Recast.mv 6 3 (Nat.le_of_ble_eq_true rfl) (Nat.le_of_ble_eq_true rfl) (.cons (.rw (Nat.ne_of_beq_eq_false rfl) (Nat.ne_of_beq_eq_false rfl) (Nat.le_of_ble_eq_true rfl) rfl (oneL_map fun _ => rfl) .cl) (.cons (.mv rfl (Nat.le_of_ble_eq_true rfl) rfl (oneL_map fun _ => rfl) .cl) (.cons (.rw (Nat.ne_of_beq_eq_false rfl) (Nat.ne_of_beq_eq_false rfl) (Nat.le_of_ble_eq_true rfl) rfl rfl (.of (.cons .cl (.cons .cl .nil)))) (.cons (.rw (Nat.ne_of_beq_eq_false rfl) (Nat.ne_of_beq_eq_false rfl) (Nat.le_of_ble_eq_true rfl) rfl rfl (.of (.cons .cl (.cons .cl (.cons .cl (.cons .cl .nil)))))) (.cons (.rw (Nat.ne_of_beq_eq_false rfl) (Nat.ne_of_beq_eq_false rfl) (Nat.le_of_ble_eq_true rfl) rfl rfl (.of (.cons .cl (.cons .cl (.cons .cl .nil))))) .nil))))) (.cons rfl (.ptr (Nat.ne_of_beq_eq_false rfl) (Nat.le_of_ble_eq_true rfl)) (.cons rfl (.ptr (Nat.ne_of_beq_eq_false rfl) (Nat.le_of_ble_eq_true rfl)) (.cons rfl (.ptr (Nat.ne_of_beq_eq_false rfl) (Nat.le_of_ble_eq_true rfl)) (.cons rfl .cl (.cons rfl .cl (.cons rfl .cl (.cons rfl .cl (.cons rfl .cl (.cons rfl (.slicem (Nat.le_of_ble_eq_true rfl)) (.cons rfl (.slice (Nat.ne_of_beq_eq_false rfl) (Nat.le_of_ble_eq_true rfl)) .nil)))))))))))
  · obtain ⟨r6, h7, H⟩ := obnd_some H;refine pw_join (ρ := (List ((List Int))) × (List ((List Bool)))) (fun e => ⟨[(3, (.pointer (some ⟨0, 0, none⟩))), (4, (.pointer (some ⟨1, 0, none⟩))), (9, (.int .i64 ((a6.map e_III).length : Int))), (10, (.slice none 0 0)), (11, (.int .i64 0)), (12, (.bool false)), (14, (.slice (some ⟨3, 0, none⟩) (IntKind.i64.wrap (((a6.map e_III).length : Int) + (1 : Int))).toNat 1)), (15, (.slice (some ⟨4, 0, none⟩) (IntKind.i64.wrap (((a6.map e_III).length : Int) + (1 : Int))).toNat 1))], ⟨5, [(4, .rw (e.2.map e_L1B)), (3, .rw (e.1.map e_L1I)), (2, .rw [(.int .i64 a7), (.int .i64 a8)]), (1, .rw [(.int .i64 a3), (.int .i64 a4), (.int .i64 a5), (VS 3 (a6.map e_III))]), (0, .rw [(.int .i64 a0), (.int .i64 a1), (VS 4 (a2.map e_SIII))])], false⟩⟩) r6 ?_ ?_
    · refine pw_so ?_;refine po_all ?_;(conv=>whnf);refine pw_block ?_;refine pw_loop (τ := Int × (List ((List Int))) × (List ((List Bool)))) (fun e => ⟨[(3, (.pointer (some ⟨0, 0, none⟩))), (4, (.pointer (some ⟨1, 0, none⟩))), (5, (.pointer (some ⟨2, 0, none⟩))), (9, (.int .i64 ((a6.map e_III).length : Int))), (10, (.slice none 0 0)), (11, (.int .i64 0)), (12, (.bool false)), (13, (.int .i64 (IntKind.i64.wrap ((IntKind.i64.wrap ((IntKind.i64.wrap (a1 - a0)) + (1 : Int))) * ((a2.map e_SIII).length : Int))))), (14, (.slice (some ⟨3, 0, none⟩) (IntKind.i64.wrap (((a6.map e_III).length : Int) + (1 : Int))).toNat 1)), (15, (.slice (some ⟨4, 0, none⟩) (IntKind.i64.wrap (((a6.map e_III).length : Int) + (1 : Int))).toNat 1)), (16, (.int .i64 e.1))], ⟨5, [(4, .rw (e.2.2.map e_L1B)), (3, .rw (e.2.1.map e_L1I)), (2, .rw [(.int .i64 a7), (.int .i64 a8)]), (1, .rw [(.int .i64 a3), (.int .i64 a4), (.int .i64 a5), (VS 3 (a6.map e_III))]), (0, .rw [(.int .i64 a0), (.int .i64 a1), (VS 4 (a2.map e_SIII))])], false⟩⟩) h7 ?_ (fun _ => Nat.le_of_ble_eq_true rfl) ?_
      · exact .sub' (Nat.le_of_ble_eq_true rfl) (.cons rfl (.cons rfl (.cons rfl (.cons rfl (.cons rfl (.cons rfl (.cons rfl (.cons rfl (.cons rfl (.cons rfl (.cons rfl .nil)))))))))))
      · intro e10 x11 h12;refine pw_seq ?_;refine pw_so ?_;refine po_all ?_;(conv=>whnf);refine pw_cond ?_;(conv=>whnf);refine pbr_oite h12 (fun g13 h12 => ?_) (fun g13 h12 => ?_)
        · (conv=>whnf);refine pw_skip ?_;(conv=>whnf);obtain ⟨r14, h15, h12⟩ := obnd_some h12;refine pw_join (ρ := (List Int) × (List Bool)) (fun e => ⟨[(3, (.pointer (some ⟨0, 0, none⟩))), (4, (.pointer (some ⟨1, 0, none⟩))), (5, (.pointer (some ⟨2, 0, none⟩))), (9, (.int .i64 ((a6.map e_III).length : Int))), (10, (.slice none 0 0)), (11, (.int .i64 0)), (12, (.bool false)), (13, (.int .i64 (IntKind.i64.wrap ((IntKind.i64.wrap ((IntKind.i64.wrap (a1 - a0)) + (1 : Int))) * ((a2.map e_SIII).length : Int))))), (14, (.slice (some ⟨3, 0, none⟩) (IntKind.i64.wrap (((a6.map e_III).length : Int) + (1 : Int))).toNat 1)), (15, (.slice (some ⟨4, 0, none⟩) (IntKind.i64.wrap (((a6.map e_III).length : Int) + (1 : Int))).toNat 1)), (16, (.int .i64 e10.1))], ⟨7, [(6, .rw (e.2.map eB)), (5, .rw (e.1.map eI)), (4, .rw ((e10.2.2.map e_L1B).set e10.1.toNat (.slice (some ⟨6, 0, none⟩) (IntKind.i64.wrap ((IntKind.i64.wrap ((IntKind.i64.wrap (a1 - a0)) + (1 : Int))) * ((a2.map e_SIII).length : Int))).toNat 1))), (3, .rw ((e10.2.1.map e_L1I).set e10.1.toNat (.slice (some ⟨5, 0, none⟩) (IntKind.i64.wrap ((IntKind.i64.wrap ((IntKind.i64.wrap (a1 - a0)) + (1 : Int))) * ((a2.map e_SIII).length : Int))).toNat 1))), (2, .rw [(.int .i64 a7), (.int .i64 a8)]), (1, .rw [(.int .i64 a3), (.int .i64 a4), (.int .i64 a5), (VS 3 (a6.map e_III))]), (0, .rw [(.int .i64 a0), (.int .i64 a1), (VS 4 (a2.map e_SIII))])], false⟩⟩) r14 ?_ ?_
          · refine pw_block ?_;obtain ⟨r18, h19, h15⟩ := obnd_some h15;refine pw_joinR (ρ := Unit) (fun e => ⟨[(3, (.pointer (some ⟨0, 0, none⟩))), (4, (.pointer (some ⟨1, 0, none⟩))), (5, (.pointer (some ⟨2, 0, none⟩))), (9, (.int .i64 ((a6.map e_III).length : Int))), (10, (.slice none 0 0)), (11, (.int .i64 0)), (12, (.bool false)), (13, (.int .i64 (IntKind.i64.wrap ((IntKind.i64.wrap ((IntKind.i64.wrap (a1 - a0)) + (1 : Int))) * ((a2.map e_SIII).length : Int))))), (14, (.slice (some ⟨3, 0, none⟩) (IntKind.i64.wrap (((a6.map e_III).length : Int) + (1 : Int))).toNat 1)), (15, (.slice (some ⟨4, 0, none⟩) (IntKind.i64.wrap (((a6.map e_III).length : Int) + (1 : Int))).toNat 1)), (16, (.int .i64 e10.1))], ⟨7, [(6, .rw ((List.replicate (IntKind.i64.wrap ((IntKind.i64.wrap ((IntKind.i64.wrap (a1 - a0)) + (1 : Int))) * ((a2.map e_SIII).length : Int))).toNat false).map eB)), (5, .rw ((List.replicate (IntKind.i64.wrap ((IntKind.i64.wrap ((IntKind.i64.wrap (a1 - a0)) + (1 : Int))) * ((a2.map e_SIII).length : Int))).toNat (0 : Int)).map eI)), (4, .rw ((e10.2.2.map e_L1B).set e10.1.toNat (.slice (some ⟨6, 0, none⟩) (IntKind.i64.wrap ((IntKind.i64.wrap ((IntKind.i64.wrap (a1 - a0)) + (1 : Int))) * ((a2.map e_SIII).length : Int))).toNat 1))), (3, .rw ((e10.2.1.map e_L1I).set e10.1.toNat (.slice (some ⟨5, 0, none⟩) (IntKind.i64.wrap ((IntKind.i64.wrap ((IntKind.i64.wrap (a1 - a0)) + (1 : Int))) * ((a2.map e_SIII).length : Int))).toNat 1))), (2, .rw [(.int .i64 a7), (.int .i64 a8)]), (1, .rw [(.int .i64 a3), (.int .i64 a4), (.int .i64 a5), (VS 3 (a6.map e_III))]), (0, .rw [(.int .i64 a0), (.int .i64 a1), (VS 4 (a2.map e_SIII))])], false⟩⟩) r18 ?_ ?_
            · refine pw_draw ?_;(conv=>whnf);refine ⟨?_, ?_⟩
              · (conv=>whnf);obtain ⟨g22, h19⟩ := ogrd_some h19;refine mk_o (f := eI) (x := (0 : Int)) rfl g22 ?_;(conv=>whnf);refine ⟨by repeat (first | exact trivial | refine And.intro rfl ?_), ?_⟩;(conv=>whnf);refine pbr_ogrd h19 (fun g23 h19 => ?_);(conv=>whnf);refine pbr_ogrd h19 (fun g24 h19 => ?_);(conv=>whnf);refine ⟨?_, ?_⟩
                · (conv=>whnf);obtain ⟨g25, h19⟩ := ogrd_some h19;refine mk_o (f := eB) (x := false) rfl g25 ?_;(conv=>whnf);refine ⟨by repeat (first | exact trivial | refine And.intro rfl ?_), ?_⟩;(conv=>whnf);refine ⟨?_, trivial⟩;(conv=>whnf);obtain ⟨g26, h19⟩ := ogrd_some h19;refine set_h (l := e10.2.1) (f := e_L1I) g26 rfl ?_;(conv=>whnf);refine ⟨by repeat (first | exact trivial | refine And.intro rfl ?_), ?_⟩;(conv=>whnf);refine pbr_t g23 ?_;(conv=>whnf);refine pbr_t g24 ?_;(conv=>whnf);refine ⟨?_, trivial⟩;(conv=>whnf);obtain ⟨g27, h19⟩ := ogrd_some h19;refine set_h (l := e10.2.2) (f := e_L1B) g27 rfl ?_;(conv=>whnf)
                  refine ⟨by repeat (first | exact trivial | refine And.intro rfl ?_), ?_⟩;(conv=>whnf);cases h19;exact Recast.fz (fun _ => false) (Nat.le_of_ble_eq_true rfl) (.cons (.same rfl rfl (OBnd.rwc (Nat.le_of_ble_eq_true rfl) (oneL_map fun _ => rfl))) (.cons (.same rfl rfl (OBnd.rwc (Nat.le_of_ble_eq_true rfl) (oneL_map fun _ => rfl))) (.cons (.same rfl rfl (OBnd.rwh (Nat.le_of_ble_eq_true rfl) (fun _ => rfl) rfl (.slice (Nat.le_of_ble_eq_true rfl)))) (.cons (.same rfl rfl (OBnd.rwh (Nat.le_of_ble_eq_true rfl) (fun _ => rfl) rfl (.slice (Nat.le_of_ble_eq_true rfl)))) (.cons (.same rfl rfl (OBnd.rwl (Nat.le_of_ble_eq_true rfl) rfl (.cons .cl (.cons .cl .nil)))) (.cons (.same rfl rfl (OBnd.rwl (Nat.le_of_ble_eq_true rfl) rfl (.cons .cl (.cons .cl (.cons .cl (.cons .cl .nil)))))) (.cons (.same rfl rfl (OBnd.rwl (Nat.le_of_ble_eq_true rfl) rfl (.cons .cl (.cons .cl (.cons .cl .nil))))) .nil))))))) (.cons rfl (.same _ (.ptr (Nat.le_of_ble_eq_true rfl))) (.cons rfl (.same _ (.ptr (Nat.le_of_ble_eq_true rfl))) (.cons rfl (.same _ (.ptr (Nat.le_of_ble_eq_true rfl))) (.cons rfl (.same _ .cl) (.cons rfl (.same _ .cl) (.cons rfl (.same _ .cl) (.cons rfl (.same _ .cl) (.cons rfl (.same _ .cl) (.cons rfl (.same _ (.slice (Nat.le_of_ble_eq_true rfl))) (.cons rfl (.same _ (.slice (Nat.le_of_ble_eq_true rfl))) (.cons rfl (.same _ .cl) .nil)))))))))))
                · obtain ⟨g25, h19⟩ := ogrd_some h19;obtain ⟨g26, h19⟩ := ogrd_some h19;obtain ⟨g27, h19⟩ := ogrd_some h19;(conv=>whnf);refine ⟨?_, trivial⟩;(conv=>whnf);refine set_h (l := e10.2.1) (f := e_L1I) g26 rfl ?_;(conv=>whnf);refine ⟨by repeat (first | exact trivial | refine And.intro rfl ?_), ?_⟩;(conv=>whnf);refine ⟨?_, trivial⟩;(conv=>whnf);refine mk_o (f := eB) (x := false) rfl g25 ?_;(conv=>whnf);refine ⟨by repeat (first | exact trivial | refine And.intro rfl ?_), ?_⟩;(conv=>whnf);refine pbr_t g23 ?_;(conv=>whnf);refine pbr_t g24 ?_;(conv=>whnf);refine ⟨?_, trivial⟩;(conv=>whnf);refine set_h (l := e10.2.2) (f := e_L1B) g27 rfl ?_
                  (conv=>whnf);refine ⟨by repeat (first | exact trivial | refine And.intro rfl ?_), ?_⟩;(conv=>whnf);cases h19;exact Recast.fz (fun _ => false) (Nat.le_of_ble_eq_true rfl) (.cons (.same rfl rfl (OBnd.rwc (Nat.le_of_ble_eq_true rfl) (oneL_map fun _ => rfl))) (.cons (.same rfl rfl (OBnd.rwc (Nat.le_of_ble_eq_true rfl) (oneL_map fun _ => rfl))) (.cons (.same rfl rfl (OBnd.rwh (Nat.le_of_ble_eq_true rfl) (fun _ => rfl) rfl (.slice (Nat.le_of_ble_eq_true rfl)))) (.cons (.same rfl rfl (OBnd.rwh (Nat.le_of_ble_eq_true rfl) (fun _ => rfl) rfl (.slice (Nat.le_of_ble_eq_true rfl)))) (.cons (.same rfl rfl (OBnd.rwl (Nat.le_of_ble_eq_true rfl) rfl (.cons .cl (.cons .cl .nil)))) (.cons (.same rfl rfl (OBnd.rwl (Nat.le_of_ble_eq_true rfl) rfl (.cons .cl (.cons .cl (.cons .cl (.cons .cl .nil)))))) (.cons (.same rfl rfl (OBnd.rwl (Nat.le_of_ble_eq_true rfl) rfl (.cons .cl (.cons .cl (.cons .cl .nil))))) .nil))))))) (.cons rfl (.same _ (.ptr (Nat.le_of_ble_eq_true rfl))) (.cons rfl (.same _ (.ptr (Nat.le_of_ble_eq_true rfl))) (.cons rfl (.same _ (.ptr (Nat.le_of_ble_eq_true rfl))) (.cons rfl (.same _ .cl) (.cons rfl (.same _ .cl) (.cons rfl (.same _ .cl) (.cons rfl (.same _ .cl) (.cons rfl (.same _ .cl) (.cons rfl (.same _ (.slice (Nat.le_of_ble_eq_true rfl))) (.cons rfl (.same _ (.slice (Nat.le_of_ble_eq_true rfl))) (.cons rfl (.same _ .cl) .nil)))))))))))
              · obtain ⟨g22, h19⟩ := ogrd_some h19;obtain ⟨g23, h19⟩ := ogrd_some h19;obtain ⟨g24, h19⟩ := ogrd_some h19;obtain ⟨g25, h19⟩ := ogrd_some h19;obtain ⟨g26, h19⟩ := ogrd_some h19;obtain ⟨g27, h19⟩ := ogrd_some h19;(conv=>whnf);refine ⟨?_, trivial⟩;(conv=>whnf);refine mk_o (f := eB) (x := false) rfl g25 ?_;(conv=>whnf);refine ⟨by repeat (first | exact trivial | refine And.intro rfl ?_), ?_⟩;(conv=>whnf);refine ⟨?_, trivial⟩;(conv=>whnf);refine mk_o (f := eI) (x := (0 : Int)) rfl g22 ?_;(conv=>whnf);refine ⟨by repeat (first | exact trivial | refine And.intro rfl ?_), ?_⟩;(conv=>whnf);refine pbr_t g23 ?_;(conv=>whnf)
                refine pbr_t g24 ?_;(conv=>whnf);refine ⟨?_, trivial⟩;(conv=>whnf);refine set_h (l := e10.2.1) (f := e_L1I) g26 rfl ?_;(conv=>whnf);refine ⟨by repeat (first | exact trivial | refine And.intro rfl ?_), ?_⟩;(conv=>whnf);refine pbr_t g23 ?_;(conv=>whnf);refine pbr_t g24 ?_;(conv=>whnf);refine ⟨?_, trivial⟩;(conv=>whnf);refine set_h (l := e10.2.2) (f := e_L1B) g27 rfl ?_;(conv=>whnf);refine ⟨by repeat (first | exact trivial | refine And.intro rfl ?_), ?_⟩;(conv=>whnf);cases h19;refine Recast.trans (s' := ⟨[(3, (.pointer (some ⟨0, 0, none⟩))), (4, (.pointer (some ⟨1, 0, none⟩))), (5, (.pointer (some ⟨2, 0, none⟩))), (9, (.int .i64 ((a6.map e_III).length : Int))), (10, (.slice none 0 0)), (11, (.int .i64 0)), (12, (.bool false)), (13, (.int .i64 (IntKind.i64.wrap ((IntKind.i64.wrap ((IntKind.i64.wrap (a1 - a0)) + (1 : Int))) * ((a2.map e_SIII).length : Int))))), (14, (.slice (some ⟨3, 0, none⟩) (IntKind.i64.wrap (((a6.map e_III).length : Int) + (1 : Int))).toNat 1)), (15, (.slice (some ⟨4, 0, none⟩) (IntKind.i64.wrap (((a6.map e_III).length : Int) + (1 : Int))).toNat 1)), (16, (.int .i64 e10.1))], ⟨8, [(6, .rw ((List.replicate (IntKind.i64.wrap ((IntKind.i64.wrap ((IntKind.i64.wrap (a1 - a0)) + (1 : Int))) * ((a2.map e_SIII).length : Int))).toNat (0 : Int)).map eI)), (7, .rw ((List.replicate (IntKind.i64.wrap ((IntKind.i64.wrap ((IntKind.i64.wrap (a1 - a0)) + (1 : Int))) * ((a2.map e_SIII).length : Int))).toNat false).map eB)), (4, .rw ((e10.2.2.map e_L1B).set e10.1.toNat (.slice (some ⟨7, 0, none⟩) (IntKind.i64.wrap ((IntKind.i64.wrap ((IntKind.i64.wrap (a1 - a0)) + (1 : Int))) * ((a2.map e_SIII).length : Int))).toNat 1))), (3, .rw ((e10.2.1.map e_L1I).set e10.1.toNat (.slice (some ⟨6, 0, none⟩) (IntKind.i64.wrap ((IntKind.i64.wrap ((IntKind.i64.wrap (a1 - a0)) + (1 : Int))) * ((a2.map e_SIII).length : Int))).toNat 1))), (2, .rw [(.int .i64 a7), (.int .i64 a8)]), (1, .rw [(.int .i64 a3), (.int .i64 a4), (.int .i64 a5), (VS 3 (a6.map e_III))]), (0, .rw [(.int .i64 a0), (.int .i64 a1), (VS 4 (a2.map e_SIII))])], false⟩⟩) (Recast.mv 5 7 (Nat.le_of_ble_eq_true rfl) (Nat.le_of_ble_eq_true rfl) (.cons (.rw (Nat.ne_of_beq_eq_false rfl) (Nat.ne_of_beq_eq_false rfl) (Nat.le_of_ble_eq_true rfl) rfl (oneL_map fun _ => rfl) .cl) (.cons (.mv rfl (Nat.le_of_ble_eq_true rfl) rfl (oneL_map fun _ => rfl) .cl) (.cons (.rw (Nat.ne_of_beq_eq_false rfl) (Nat.ne_of_beq_eq_false rfl) (Nat.le_of_ble_eq_true rfl) rfl (oneL_set rfl (oneL_map fun _ => rfl)) (.hole (.slicem (Nat.le_of_ble_eq_true rfl)))) (.cons (.rw (Nat.ne_of_beq_eq_false rfl) (Nat.ne_of_beq_eq_false rfl) (Nat.le_of_ble_eq_true rfl) rfl (oneL_set rfl (oneL_map fun _ => rfl)) (.hole (.slice (Nat.ne_of_beq_eq_false rfl) (Nat.le_of_ble_eq_true rfl)))) (.cons (.rw (Nat.ne_of_beq_eq_false rfl) (Nat.ne_of_beq_eq_false rfl) (Nat.le_of_ble_eq_true rfl) rfl rfl (.of (.cons .cl (.cons .cl .nil)))) (.cons (.rw (Nat.ne_of_beq_eq_false rfl) (Nat.ne_of_beq_eq_false rfl) (Nat.le_of_ble_eq_true rfl) rfl rfl (.of (.cons .cl (.cons .cl (.cons .cl (.cons .cl .nil)))))) (.cons (.rw (Nat.ne_of_beq_eq_false rfl) (Nat.ne_of_beq_eq_false rfl) (Nat.le_of_ble_eq_true rfl) rfl rfl (.of (.cons .cl (.cons .cl (.cons .cl .nil))))) .nil))))))) (.cons rfl (.ptr (Nat.ne_of_beq_eq_false rfl) (Nat.le_of_ble_eq_true rfl)) (.cons rfl (.ptr (Nat.ne_of_beq_eq_false rfl) (Nat.le_of_ble_eq_true rfl)) (.cons rfl (.ptr (Nat.ne_of_beq_eq_false rfl) (Nat.le_of_ble_eq_true rfl)) (.cons rfl .cl (.cons rfl .cl (.cons rfl .cl (.cons rfl .cl (.cons rfl .cl (.cons rfl (.slice (Nat.ne_of_beq_eq_false rfl) (Nat.le_of_ble_eq_true rfl)) (.cons rfl (.slice (Nat.ne_of_beq_eq_false rfl) (Nat.le_of_ble_eq_true rfl)) (.cons rfl .cl .nil)))))))))))) ?_
                refine Recast.trans (s' := ⟨[(3, (.pointer (some ⟨0, 0, none⟩))), (4, (.pointer (some ⟨1, 0, none⟩))), (5, (.pointer (some ⟨2, 0, none⟩))), (9, (.int .i64 ((a6.map e_III).length : Int))), (10, (.slice none 0 0)), (11, (.int .i64 0)), (12, (.bool false)), (13, (.int .i64 (IntKind.i64.wrap ((IntKind.i64.wrap ((IntKind.i64.wrap (a1 - a0)) + (1 : Int))) * ((a2.map e_SIII).length : Int))))), (14, (.slice (some ⟨3, 0, none⟩) (IntKind.i64.wrap (((a6.map e_III).length : Int) + (1 : Int))).toNat 1)), (15, (.slice (some ⟨4, 0, none⟩) (IntKind.i64.wrap (((a6.map e_III).length : Int) + (1 : Int))).toNat 1)), (16, (.int .i64 e10.1))], ⟨9, [(8, .rw ((List.replicate (IntKind.i64.wrap ((IntKind.i64.wrap ((IntKind.i64.wrap (a1 - a0)) + (1 : Int))) * ((a2.map e_SIII).length : Int))).toNat (0 : Int)).map eI)), (7, .rw ((List.replicate (IntKind.i64.wrap ((IntKind.i64.wrap ((IntKind.i64.wrap (a1 - a0)) + (1 : Int))) * ((a2.map e_SIII).length : Int))).toNat false).map eB)), (4, .rw ((e10.2.2.map e_L1B).set e10.1.toNat (.slice (some ⟨7, 0, none⟩) (IntKind.i64.wrap ((IntKind.i64.wrap ((IntKind.i64.wrap (a1 - a0)) + (1 : Int))) * ((a2.map e_SIII).length : Int))).toNat 1))), (3, .rw ((e10.2.1.map e_L1I).set e10.1.toNat (.slice (some ⟨8, 0, none⟩) (IntKind.i64.wrap ((IntKind.i64.wrap ((IntKind.i64.wrap (a1 - a0)) + (1 : Int))) * ((a2.map e_SIII).length : Int))).toNat 1))), (2, .rw [(.int .i64 a7), (.int .i64 a8)]), (1, .rw [(.int .i64 a3), (.int .i64 a4), (.int .i64 a5), (VS 3 (a6.map e_III))]), (0, .rw [(.int .i64 a0), (.int .i64 a1), (VS 4 (a2.map e_SIII))])], false⟩⟩) (Recast.mv 6 8 (Nat.le_of_ble_eq_true rfl) (Nat.le_of_ble_eq_true rfl) (.cons (.mv rfl (Nat.le_of_ble_eq_true rfl) rfl (oneL_map fun _ => rfl) .cl) (.cons (.rw (Nat.ne_of_beq_eq_false rfl) (Nat.ne_of_beq_eq_false rfl) (Nat.le_of_ble_eq_true rfl) rfl (oneL_map fun _ => rfl) .cl) (.cons (.rw (Nat.ne_of_beq_eq_false rfl) (Nat.ne_of_beq_eq_false rfl) (Nat.le_of_ble_eq_true rfl) rfl (oneL_set rfl (oneL_map fun _ => rfl)) (.hole (.slice (Nat.ne_of_beq_eq_false rfl) (Nat.le_of_ble_eq_true rfl)))) (.cons (.rw (Nat.ne_of_beq_eq_false rfl) (Nat.ne_of_beq_eq_false rfl) (Nat.le_of_ble_eq_true rfl) rfl (oneL_set rfl (oneL_map fun _ => rfl)) (.hole (.slicem (Nat.le_of_ble_eq_true rfl)))) (.cons (.rw (Nat.ne_of_beq_eq_false rfl) (Nat.ne_of_beq_eq_false rfl) (Nat.le_of_ble_eq_true rfl) rfl rfl (.of (.cons .cl (.cons .cl .nil)))) (.cons (.rw (Nat.ne_of_beq_eq_false rfl) (Nat.ne_of_beq_eq_false rfl) (Nat.le_of_ble_eq_true rfl) rfl rfl (.of (.cons .cl (.cons .cl (.cons .cl (.cons .cl .nil)))))) (.cons (.rw (Nat.ne_of_beq_eq_false rfl) (Nat.ne_of_beq_eq_false rfl) (Nat.le_of_ble_eq_true rfl) rfl rfl (.of (.cons .cl (.cons .cl (.cons .cl .nil))))) .nil))))))) (.cons rfl (.ptr (Nat.ne_of_beq_eq_false rfl) (Nat.le_of_ble_eq_true rfl)) (.cons rfl (.ptr (Nat.ne_of_beq_eq_false rfl) (Nat.le_of_ble_eq_true rfl)) (.cons rfl (.ptr (Nat.ne_of_beq_eq_false rfl) (Nat.le_of_ble_eq_true rfl)) (.cons rfl .cl (.cons rfl .cl (.cons rfl .cl (.cons rfl .cl (.cons rfl .cl (.cons rfl (.slice (Nat.ne_of_beq_eq_false rfl) (Nat.le_of_ble_eq_true rfl)) (.cons rfl (.slice (Nat.ne_of_beq_eq_false rfl) (Nat.le_of_ble_eq_true rfl)) (.cons rfl .cl .nil)))))))))))) ?_
                refine Recast.trans (s' := ⟨[(3, (.pointer (some ⟨0, 0, none⟩))), (4, (.pointer (some ⟨1, 0, none⟩))), (5, (.pointer (some ⟨2, 0, none⟩))), (9, (.int .i64 ((a6.map e_III).length : Int))), (10, (.slice none 0 0)), (11, (.int .i64 0)), (12, (.bool false)), (13, (.int .i64 (IntKind.i64.wrap ((IntKind.i64.wrap ((IntKind.i64.wrap (a1 - a0)) + (1 : Int))) * ((a2.map e_SIII).length : Int))))), (14, (.slice (some ⟨3, 0, none⟩) (IntKind.i64.wrap (((a6.map e_III).length : Int) + (1 : Int))).toNat 1)), (15, (.slice (some ⟨4, 0, none⟩) (IntKind.i64.wrap (((a6.map e_III).length : Int) + (1 : Int))).toNat 1)), (16, (.int .i64 e10.1))], ⟨9, [(8, .rw ((List.replicate (IntKind.i64.wrap ((IntKind.i64.wrap ((IntKind.i64.wrap (a1 - a0)) + (1 : Int))) * ((a2.map e_SIII).length : Int))).toNat (0 : Int)).map eI)), (6, .rw ((List.replicate (IntKind.i64.wrap ((IntKind.i64.wrap ((IntKind.i64.wrap (a1 - a0)) + (1 : Int))) * ((a2.map e_SIII).length : Int))).toNat false).map eB)), (4, .rw ((e10.2.2.map e_L1B).set e10.1.toNat (.slice (some ⟨6, 0, none⟩) (IntKind.i64.wrap ((IntKind.i64.wrap ((IntKind.i64.wrap (a1 - a0)) + (1 : Int))) * ((a2.map e_SIII).length : Int))).toNat 1))), (3, .rw ((e10.2.1.map e_L1I).set e10.1.toNat (.slice (some ⟨8, 0, none⟩) (IntKind.i64.wrap ((IntKind.i64.wrap ((IntKind.i64.wrap (a1 - a0)) + (1 : Int))) * ((a2.map e_SIII).length : Int))).toNat 1))), (2, .rw [(.int .i64 a7), (.int .i64 a8)]), (1, .rw [(.int .i64 a3), (.int .i64 a4), (.int .i64 a5), (VS 3 (a6.map e_III))]), (0, .rw [(.int .i64 a0), (.int .i64 a1), (VS 4 (a2.map e_SIII))])], false⟩⟩) (Recast.mv 7 6 (Nat.le_of_ble_eq_true rfl) (Nat.le_of_ble_eq_true rfl) (.cons (.rw (Nat.ne_of_beq_eq_false rfl) (Nat.ne_of_beq_eq_false rfl) (Nat.le_of_ble_eq_true rfl) rfl (oneL_map fun _ => rfl) .cl) (.cons (.mv rfl (Nat.le_of_ble_eq_true rfl) rfl (oneL_map fun _ => rfl) .cl) (.cons (.rw (Nat.ne_of_beq_eq_false rfl) (Nat.ne_of_beq_eq_false rfl) (Nat.le_of_ble_eq_true rfl) rfl (oneL_set rfl (oneL_map fun _ => rfl)) (.hole (.slicem (Nat.le_of_ble_eq_true rfl)))) (.cons (.rw (Nat.ne_of_beq_eq_false rfl) (Nat.ne_of_beq_eq_false rfl) (Nat.le_of_ble_eq_true rfl) rfl (oneL_set rfl (oneL_map fun _ => rfl)) (.hole (.slice (Nat.ne_of_beq_eq_false rfl) (Nat.le_of_ble_eq_true rfl)))) (.cons (.rw (Nat.ne_of_beq_eq_false rfl) (Nat.ne_of_beq_eq_false rfl) (Nat.le_of_ble_eq_true rfl) rfl rfl (.of (.cons .cl (.cons .cl .nil)))) (.cons (.rw (Nat.ne_of_beq_eq_false rfl) (Nat.ne_of_beq_eq_false rfl) (Nat.le_of_ble_eq_true rfl) rfl rfl (.of (.cons .cl (.cons .cl (.cons .cl (.cons .cl .nil)))))) (.cons (.rw (Nat.ne_of_beq_eq_false rfl) (Nat.ne_of_beq_eq_false rfl) (Nat.le_of_ble_eq_true rfl) rfl rfl (.of (.cons .cl (.cons .cl (.cons .cl .nil))))) .nil))))))) (.cons rfl (.ptr (Nat.ne_of_beq_eq_false rfl) (Nat.le_of_ble_eq_true rfl)) (.cons rfl (.ptr (Nat.ne_of_beq_eq_false rfl) (Nat.le_of_ble_eq_true rfl)) (.cons rfl (.ptr (Nat.ne_of_beq_eq_false rfl) (Nat.le_of_ble_eq_true rfl)) (.cons rfl .cl (.cons rfl .cl (.cons rfl .cl (.cons rfl .cl (.cons rfl .cl (.cons rfl (.slice (Nat.ne_of_beq_eq_false rfl) (Nat.le_of_ble_eq_true rfl)) (.cons rfl (.slice (Nat.ne_of_beq_eq_false rfl) (Nat.le_of_ble_eq_true rfl)) (.cons rfl .cl .nil)))))))))))) ?_
                exact (Recast.mv 8 5 (Nat.le_of_ble_eq_true rfl) (Nat.le_of_ble_eq_true rfl) (.cons (.rw (Nat.ne_of_beq_eq_false rfl) (Nat.ne_of_beq_eq_false rfl) (Nat.le_of_ble_eq_true rfl) rfl (oneL_map fun _ => rfl) .cl) (.cons (.mv rfl (Nat.le_of_ble_eq_true rfl) rfl (oneL_map fun _ => rfl) .cl) (.cons (.rw (Nat.ne_of_beq_eq_false rfl) (Nat.ne_of_beq_eq_false rfl) (Nat.le_of_ble_eq_true rfl) rfl (oneL_set rfl (oneL_map fun _ => rfl)) (.hole (.slice (Nat.ne_of_beq_eq_false rfl) (Nat.le_of_ble_eq_true rfl)))) (.cons (.rw (Nat.ne_of_beq_eq_false rfl) (Nat.ne_of_beq_eq_false rfl) (Nat.le_of_ble_eq_true rfl) rfl (oneL_set rfl (oneL_map fun _ => rfl)) (.hole (.slicem (Nat.le_of_ble_eq_true rfl)))) (.cons (.rw (Nat.ne_of_beq_eq_false rfl) (Nat.ne_of_beq_eq_false rfl) (Nat.le_of_ble_eq_true rfl) rfl rfl (.of (.cons .cl (.cons .cl .nil)))) (.cons (.rw (Nat.ne_of_beq_eq_false rfl) (Nat.ne_of_beq_eq_false rfl) (Nat.le_of_ble_eq_true rfl) rfl rfl (.of (.cons .cl (.cons .cl (.cons .cl (.cons .cl .nil)))))) (.cons (.rw (Nat.ne_of_beq_eq_false rfl) (Nat.ne_of_beq_eq_false rfl) (Nat.le_of_ble_eq_true rfl) rfl rfl (.of (.cons .cl (.cons .cl (.cons .cl .nil))))) .nil))))))) (.cons rfl (.ptr (Nat.ne_of_beq_eq_false rfl) (Nat.le_of_ble_eq_true rfl)) (.cons rfl (.ptr (Nat.ne_of_beq_eq_false rfl) (Nat.le_of_ble_eq_true rfl)) (.cons rfl (.ptr (Nat.ne_of_beq_eq_false rfl) (Nat.le_of_ble_eq_true rfl)) (.cons rfl .cl (.cons rfl .cl (.cons rfl .cl (.cons rfl .cl (.cons rfl .cl (.cons rfl (.slice (Nat.ne_of_beq_eq_false rfl) (Nat.le_of_ble_eq_true rfl)) (.cons rfl (.slice (Nat.ne_of_beq_eq_false rfl) (Nat.le_of_ble_eq_true rfl)) (.cons rfl .cl .nil))))))))))))
            · refine pw_so ?_;refine po_all ?_;(conv=>whnf);refine pw_block ?_;refine pw_loop (τ := Int × (List Int) × (List Bool)) (fun e => ⟨[(3, (.pointer (some ⟨0, 0, none⟩))), (4, (.pointer (some ⟨1, 0, none⟩))), (5, (.pointer (some ⟨2, 0, none⟩))), (9, (.int .i64 ((a6.map e_III).length : Int))), (10, (.slice none 0 0)), (11, (.int .i64 0)), (12, (.bool false)), (13, (.int .i64 (IntKind.i64.wrap ((IntKind.i64.wrap ((IntKind.i64.wrap (a1 - a0)) + (1 : Int))) * ((a2.map e_SIII).length : Int))))), (14, (.slice (some ⟨3, 0, none⟩) (IntKind.i64.wrap (((a6.map e_III).length : Int) + (1 : Int))).toNat 1)), (15, (.slice (some ⟨4, 0, none⟩) (IntKind.i64.wrap (((a6.map e_III).length : Int) + (1 : Int))).toNat 1)), (16, (.int .i64 e10.1)), (17, (.int .i64 e.1))], ⟨7, [(6, .rw (e.2.2.map eB)), (5, .rw (e.2.1.map eI)), (4, .rw ((e10.2.2.map e_L1B).set e10.1.toNat (.slice (some ⟨6, 0, none⟩) (IntKind.i64.wrap ((IntKind.i64.wrap ((IntKind.i64.wrap (a1 - a0)) + (1 : Int))) * ((a2.map e_SIII).length : Int))).toNat 1))), (3, .rw ((e10.2.1.map e_L1I).set e10.1.toNat (.slice (some ⟨5, 0, none⟩) (IntKind.i64.wrap ((IntKind.i64.wrap ((IntKind.i64.wrap (a1 - a0)) + (1 : Int))) * ((a2.map e_SIII).length : Int))).toNat 1))), (2, .rw [(.int .i64 a7), (.int .i64 a8)]), (1, .rw [(.int .i64 a3), (.int .i64 a4), (.int .i64 a5), (VS 3 (a6.map e_III))]), (0, .rw [(.int .i64 a0), (.int .i64 a1), (VS 4 (a2.map e_SIII))])], false⟩⟩) h15 ?_ (fun _ => Nat.le_of_ble_eq_true rfl) ?_
              · exact .sub' (Nat.le_of_ble_eq_true rfl) (.cons rfl (.cons rfl (.cons rfl (.cons rfl (.cons rfl (.cons rfl (.cons rfl (.cons rfl (.cons rfl (.cons rfl (.cons rfl (.cons rfl .nil))))))))))))
              · intro e28 x29 h30;refine pw_seq ?_;refine pw_so ?_;refine po_all ?_;(conv=>whnf);refine pw_cond ?_;(conv=>whnf);refine pbr_oite h30 (fun g31 h30 => ?_) (fun g31 h30 => ?_)
                · (conv=>whnf);refine pw_skip ?_;(conv=>whnf);obtain ⟨r32, h33, h30⟩ := obnd_some h30;refine pw_join (ρ := (List Int) × (List Bool)) (fun e => ⟨[(3, (.pointer (some ⟨0, 0, none⟩))), (4, (.pointer (some ⟨1, 0, none⟩))), (5, (.pointer (some ⟨2, 0, none⟩))), (9, (.int .i64 ((a6.map e_III).length : Int))), (10, (.slice none 0 0)), (11, (.int .i64 0)), (12, (.bool false)), (13, (.int .i64 (IntKind.i64.wrap ((IntKind.i64.wrap ((IntKind.i64.wrap (a1 - a0)) + (1 : Int))) * ((a2.map e_SIII).length : Int))))), (14, (.slice (some ⟨3, 0, none⟩) (IntKind.i64.wrap (((a6.map e_III).length : Int) + (1 : Int))).toNat 1)), (15, (.slice (some ⟨4, 0, none⟩) (IntKind.i64.wrap (((a6.map e_III).length : Int) + (1 : Int))).toNat 1)), (16, (.int .i64 e10.1)), (17, (.int .i64 e28.1))], ⟨7, [(6, .rw (e.2.map eB)), (5, .rw (e.1.map eI)), (4, .rw ((e10.2.2.map e_L1B).set e10.1.toNat (.slice (some ⟨6, 0, none⟩) (IntKind.i64.wrap ((IntKind.i64.wrap ((IntKind.i64.wrap (a1 - a0)) + (1 : Int))) * ((a2.map e_SIII).length : Int))).toNat 1))), (3, .rw ((e10.2.1.map e_L1I).set e10.1.toNat (.slice (some ⟨5, 0, none⟩) (IntKind.i64.wrap ((IntKind.i64.wrap ((IntKind.i64.wrap (a1 - a0)) + (1 : Int))) * ((a2.map e_SIII).length : Int))).toNat 1))), (2, .rw [(.int .i64 a7), (.int .i64 a8)]), (1, .rw [(.int .i64 a3), (.int .i64 a4), (.int .i64 a5), (VS 3 (a6.map e_III))]), (0, .rw [(.int .i64 a0), (.int .i64 a1), (VS 4 (a2.map e_SIII))])], false⟩⟩) r32 ?_ ?_
                  · refine pw_block ?_;refine pw_sd ?_;(conv=>whnf);refine pbr_ogrdn h33 (fun g36 h33 => ?_);(conv=>whnf);refine pbr_f g36 ?_;(conv=>whnf);refine pw_seq ?_;refine pw_so ?_;refine po_all ?_;(conv=>whnf);refine pw_cond ?_;(conv=>whnf);refine pbr_oite h33 (fun g37 h33 => ?_) (fun g37 h33 => ?_)
                    · (conv=>whnf);refine pw_sd ?_;(conv=>whnf);refine pbr_ogrd h33 (fun g38 h33 => ?_);(conv=>whnf);refine pbr_ogrd h33 (fun g39 h33 => ?_);(conv=>whnf);obtain ⟨g40, h33⟩ := ogrd_some h33;refine nth_h g40 ?_;(conv=>whnf);refine pbr_t g38 ?_;(conv=>whnf);refine pbr_t g39 ?_;(conv=>whnf);obtain ⟨g41, h33⟩ := ogrd_some h33;refine nth_h g41 ?_;(conv=>whnf);refine pbr_ogrd h33 (fun g42 h33 => ?_);(conv=>whnf);refine pbr_ogrd h33 (fun g43 h33 => ?_);(conv=>whnf);refine ⟨?_, trivial⟩;(conv=>whnf);obtain ⟨g44, h33⟩ := ogrd_some h33;refine set_a (l := e28.2.1) (f := eI) (x := (IntKind.i64.wrap (a5 * (IntKind.i64.wrap (a0 + (IntKind.i64.wrap (e28.1.tdiv ((a2.map e_SIII).length : Int)))))))) g44 rfl ?_
                      (conv=>whnf);refine ⟨by repeat (first | exact trivial | refine And.intro rfl ?_ | refine And.intro (lev_h (l := e10.2.1) (f := e_L1I) rfl g40) ?_ | refine And.intro (lev_h (l := e10.2.2) (f := e_L1B) rfl g41) ?_), ?_⟩;(conv=>whnf);refine pbr_t g42 ?_;(conv=>whnf);refine pbr_t g43 ?_;(conv=>whnf);refine ⟨?_, trivial⟩;(conv=>whnf);obtain ⟨g45, h33⟩ := ogrd_some h33;refine set_a (l := e28.2.2) (f := eB) (x := true) g45 rfl ?_;(conv=>whnf);refine ⟨by repeat (first | exact trivial | refine And.intro rfl ?_ | refine And.intro (lev_h (l := e10.2.1) (f := e_L1I) rfl g40) ?_ | refine And.intro (lev_h (l := e10.2.2) (f := e_L1B) rfl g41) ?_), ?_⟩
                      (conv=>whnf);refine pw_exit ?_;(conv=>whnf);cases h33;exact ⟨(.cons rfl (.cons rfl (.cons rfl (.cons rfl (.cons rfl (.cons rfl (.cons rfl (.cons rfl (.cons rfl (.cons rfl (.cons rfl (.cons rfl .nil)))))))))))), rfl⟩
                    · (conv=>whnf);refine pw_skip ?_;(conv=>whnf);refine pw_seq ?_;refine pw_sd ?_;(conv=>whnf);refine ⟨?_, trivial⟩;(conv=>whnf);obtain ⟨y46, h47, h33⟩ := obnd_some h33;refine (c351 h47).go ?_;(conv=>whnf);refine ⟨by repeat (first | exact trivial | refine And.intro rfl ?_), ?_⟩;(conv=>whnf);refine pw_cond ?_;(conv=>whnf);refine pbr_oite h33 (fun g48 h33 => ?_) (fun g48 h33 => ?_)
                      · (conv=>whnf);refine pw_exit ?_;(conv=>whnf);cases h33;exact ⟨(.cons rfl (.cons rfl (.cons rfl (.cons rfl (.cons rfl (.cons rfl (.cons rfl (.cons rfl (.cons rfl (.cons rfl (.cons rfl (.cons rfl .nil)))))))))))), rfl⟩
                      · (conv=>whnf);refine pw_skip ?_;(conv=>whnf);refine pw_so ?_;refine po_all ?_;(conv=>whnf);refine pw_block ?_;refine pw_loop (τ := Int × (List Int) × (List Bool)) (fun e => ⟨[(3, (.pointer (some ⟨0, 0, none⟩))), (4, (.pointer (some ⟨1, 0, none⟩))), (5, (.pointer (some ⟨2, 0, none⟩))), (9, (.int .i64 ((a6.map e_III).length : Int))), (10, (.slice none 0 0)), (11, (.int .i64 0)), (12, (.bool false)), (13, (.int .i64 (IntKind.i64.wrap ((IntKind.i64.wrap ((IntKind.i64.wrap (a1 - a0)) + (1 : Int))) * ((a2.map e_SIII).length : Int))))), (14, (.slice (some ⟨3, 0, none⟩) (IntKind.i64.wrap (((a6.map e_III).length : Int) + (1 : Int))).toNat 1)), (15, (.slice (some ⟨4, 0, none⟩) (IntKind.i64.wrap (((a6.map e_III).length : Int) + (1 : Int))).toNat 1)), (16, (.int .i64 e10.1)), (17, (.int .i64 e28.1)), (18, (.int .i64 (IntKind.i64.wrap (a0 + (IntKind.i64.wrap (e28.1.tdiv ((a2.map e_SIII).length : Int))))))), (19, (.int .i64 (e28.1.tmod ((a2.map e_SIII).length : Int)))), (20, (.int .i64 e.1))], ⟨7, [(6, .rw (e.2.2.map eB)), (5, .rw (e.2.1.map eI)), (4, .rw ((e10.2.2.map e_L1B).set e10.1.toNat (.slice (some ⟨6, 0, none⟩) (IntKind.i64.wrap ((IntKind.i64.wrap ((IntKind.i64.wrap (a1 - a0)) + (1 : Int))) * ((a2.map e_SIII).length : Int))).toNat 1))), (3, .rw ((e10.2.1.map e_L1I).set e10.1.toNat (.slice (some ⟨5, 0, none⟩) (IntKind.i64.wrap ((IntKind.i64.wrap ((IntKind.i64.wrap (a1 - a0)) + (1 : Int))) * ((a2.map e_SIII).length : Int))).toNat 1))), (2, .rw [(.int .i64 a7), (.int .i64 a8)]), (1, .rw [(.int .i64 a3), (.int .i64 a4), (.int .i64 a5), (VS 3 (a6.map e_III))]), (0, .rw [(.int .i64 a0), (.int .i64 a1), (VS 4 (a2.map e_SIII))])], false⟩⟩) h33 ?_ (fun _ => Nat.le_of_ble_eq_true rfl) ?_
                        · exact .sub' (Nat.le_of_ble_eq_true rfl) (.cons rfl (.cons rfl (.cons rfl (.cons rfl (.cons rfl (.cons rfl (.cons rfl (.cons rfl (.cons rfl (.cons rfl (.cons rfl (.cons rfl (.cons rfl (.cons rfl (.cons rfl .nil)))))))))))))))
                        · intro e49 x50 h51;refine pw_seq ?_;refine pw_so ?_;refine po_all ?_;(conv=>whnf);refine pw_cond ?_;(conv=>whnf);refine pbr_oite h51 (fun g52 h51 => ?_) (fun g52 h51 => ?_)
                          · (conv=>whnf);refine pw_skip ?_;(conv=>whnf);refine pw_seq ?_;refine pw_block ?_;refine pw_sd ?_;(conv=>whnf);refine pbr_ogrd h51 (fun g53 h51 => ?_);(conv=>whnf);refine nth_o (l := a6) h51 (fun x54 _ h51 => ?_);(conv=>whnf);refine pbr_ogrd h51 (fun g55 h51 => ?_);(conv=>whnf);refine nth_o (l := a2) h51 (fun x56 _ h51 => ?_);(conv=>whnf);refine pw_seq ?_;refine pw_so ?_;refine po_all ?_;(conv=>whnf);obtain ⟨y57, h58, h51⟩ := obnd_some h51;refine (c15 h58).go ?_;(conv=>whnf);refine pw_cond ?_;(conv=>whnf);refine pbr_oite h51 (fun g59 h51 => ?_) (fun g59 h51 => ?_)
                            · (conv=>whnf);refine pw_exit ?_;(conv=>whnf);refine pw_ops ?_;refine po_all ?_;(conv=>whnf);cases h51;refine ⟨_, rfl, ?_⟩;exact .sub' (Nat.le_of_ble_eq_true rfl) (.cons rfl (.cons rfl (.cons rfl (.cons rfl (.cons rfl (.cons rfl (.cons rfl (.cons rfl (.cons rfl (.cons rfl (.cons rfl (.cons rfl (.cons rfl (.cons rfl (.cons rfl .nil)))))))))))))))
                            · (conv=>whnf);refine pw_skip ?_;(conv=>whnf);refine pw_so ?_;refine po_all ?_;(conv=>whnf);obtain ⟨y60, h61, h51⟩ := obnd_some h51;refine (c349 h61).go ?_;(conv=>whnf);refine pw_sd ?_;(conv=>whnf);refine pbr_t g53 ?_;(conv=>whnf);refine nth_o (l := a6) h51 (fun x62 _ h51 => ?_);(conv=>whnf);refine pbr_ogrd h51 (fun g63 h51 => ?_);(conv=>whnf);refine pbr_ogrd h51 (fun g64 h51 => ?_);(conv=>whnf);refine nth_n (l := e10.2.1) (f := e_L1I) h51 (fun x65 g67 h66 h51 => ?_);(conv=>whnf);refine pbr_ogrd h51 (fun g68 h51 => ?_);(conv=>whnf);refine nth_o (l := x65) h51 (fun x69 _ h51 => ?_);(conv=>whnf);refine ⟨?_, trivial⟩
                              (conv=>whnf);obtain ⟨y70, h71, h51⟩ := obnd_some h51;refine (c350 h71).go ?_;(conv=>whnf);refine ⟨by repeat (first | exact trivial | refine And.intro rfl ?_ | refine And.intro (lev_n (l := e10.2.1) (f := e_L1I) rfl g67 h66) ?_), ?_⟩;(conv=>whnf);obtain ⟨r72, h73, h51⟩ := obnd_some h51;refine pw_join (ρ := Bool) (fun e => ⟨[(3, (.pointer (some ⟨0, 0, none⟩))), (4, (.pointer (some ⟨1, 0, none⟩))), (5, (.pointer (some ⟨2, 0, none⟩))), (9, (.int .i64 ((a6.map e_III).length : Int))), (10, (.slice none 0 0)), (11, (.int .i64 0)), (12, (.bool false)), (13, (.int .i64 (IntKind.i64.wrap ((IntKind.i64.wrap ((IntKind.i64.wrap (a1 - a0)) + (1 : Int))) * ((a2.map e_SIII).length : Int))))), (14, (.slice (some ⟨3, 0, none⟩) (IntKind.i64.wrap (((a6.map e_III).length : Int) + (1 : Int))).toNat 1)), (15, (.slice (some ⟨4, 0, none⟩) (IntKind.i64.wrap (((a6.map e_III).length : Int) + (1 : Int))).toNat 1)), (16, (.int .i64 e10.1)), (17, (.int .i64 e28.1)), (18, (.int .i64 (IntKind.i64.wrap (a0 + (IntKind.i64.wrap (e28.1.tdiv ((a2.map e_SIII).length : Int))))))), (19, (.int .i64 (e28.1.tmod ((a2.map e_SIII).length : Int)))), (20, (.int .i64 e49.1)), (23, (.int .i64 (IntKind.i64.wrap (y70 + x69)))), (194, (.bool e))], ⟨7, [(6, .rw (e49.2.2.map eB)), (5, .rw (e49.2.1.map eI)), (4, .rw ((e10.2.2.map e_L1B).set e10.1.toNat (.slice (some ⟨6, 0, none⟩) (IntKind.i64.wrap ((IntKind.i64.wrap ((IntKind.i64.wrap (a1 - a0)) + (1 : Int))) * ((a2.map e_SIII).length : Int))).toNat 1))), (3, .rw ((e10.2.1.map e_L1I).set e10.1.toNat (.slice (some ⟨5, 0, none⟩) (IntKind.i64.wrap ((IntKind.i64.wrap ((IntKind.i64.wrap (a1 - a0)) + (1 : Int))) * ((a2.map e_SIII).length : Int))).toNat 1))), (2, .rw [(.int .i64 a7), (.int .i64 a8)]), (1, .rw [(.int .i64 a3), (.int .i64 a4), (.int .i64 a5), (VS 3 (a6.map e_III))]), (0, .rw [(.int .i64 a0), (.int .i64 a1), (VS 4 (a2.map e_SIII))])], false⟩⟩) r72 ?_ ?_
                              · refine pw_ops ?_;refine po_ops 18 ?_;(conv=>whnf);refine pbr_t g63 ?_;(conv=>whnf);refine pbr_t g64 ?_;(conv=>whnf);refine nth_n (l := e10.2.2) (f := e_L1B) h73 (fun x76 g78 h77 h73 => ?_);(conv=>whnf);refine pbr_t g68 ?_;(conv=>whnf);refine nth_o (l := x76) h73 (fun x79 _ h73 => ?_);(conv=>whnf);refine pbr_oite h73 (fun g80 h73 => ?_) (fun g80 h73 => ?_)
                                · (conv=>whnf);refine pbr_t g80 ?_;(conv=>whnf);refine pbr_t g80 ?_;(conv=>whnf);refine pbr_t g53 ?_;(conv=>whnf);refine pbr_ogrd h73 (fun g81 h73 => ?_);(conv=>whnf);refine pbr_t g80 ?_;(conv=>whnf);obtain ⟨g82, h73⟩ := ogrd_some h73;refine nth_h g82 ?_;(conv=>whnf);refine pbr_t g80 ?_;(conv=>whnf);refine pbr_t g80 ?_;(conv=>whnf);refine pbr_ogrd h73 (fun g83 h73 => ?_);(conv=>whnf);refine pbr_ogrd h73 (fun g84 h73 => ?_);(conv=>whnf);refine pbr_t g80 ?_;(conv=>whnf);refine nth_a (l := e49.2.2) (f := eB) h73 (fun x85 h86 h73 => ?_);(conv=>whnf);refine pbr_t g80 ?_;(conv=>whnf);refine pbr_t g80 ?_
                                  (conv=>whnf);obtain ⟨r88, h89, h73⟩ := obnd_some h73;refine po_seg (τ := Bool) 10 (fun e => ⟨[(3, (.pointer (some ⟨0, 0, none⟩))), (4, (.pointer (some ⟨1, 0, none⟩))), (5, (.pointer (some ⟨2, 0, none⟩))), (9, (.int .i64 ((a6.map e_III).length : Int))), (10, (.slice none 0 0)), (11, (.int .i64 0)), (12, (.bool false)), (13, (.int .i64 (IntKind.i64.wrap ((IntKind.i64.wrap ((IntKind.i64.wrap (a1 - a0)) + (1 : Int))) * ((a2.map e_SIII).length : Int))))), (14, (.slice (some ⟨3, 0, none⟩) (IntKind.i64.wrap (((a6.map e_III).length : Int) + (1 : Int))).toNat 1)), (15, (.slice (some ⟨4, 0, none⟩) (IntKind.i64.wrap (((a6.map e_III).length : Int) + (1 : Int))).toNat 1)), (16, (.int .i64 e10.1)), (17, (.int .i64 e28.1)), (18, (.int .i64 (IntKind.i64.wrap (a0 + (IntKind.i64.wrap (e28.1.tdiv ((a2.map e_SIII).length : Int))))))), (19, (.int .i64 (e28.1.tmod ((a2.map e_SIII).length : Int)))), (20, (.int .i64 e49.1)), (23, (.int .i64 (IntKind.i64.wrap (y70 + x69)))), (174, (.bool x79)), (175, (.slice (some ⟨4, 0, none⟩) (IntKind.i64.wrap (((a6.map e_III).length : Int) + (1 : Int))).toNat 1)), (176, (.int .i64 e10.1)), (177, (.pointer (some ⟨4, 0 + e10.1.toNat * 1, none⟩))), (178, (.slice (some ⟨6, 0, none⟩) (IntKind.i64.wrap ((IntKind.i64.wrap ((IntKind.i64.wrap (a1 - a0)) + (1 : Int))) * ((a2.map e_SIII).length : Int))).toNat 1)), (179, (.int .i64 e28.1)), (180, (.pointer (some ⟨6, 0 + e28.1.toNat * 1, none⟩))), (181, (.bool x85)), (182, (.bool (!x85))), (183, (.bool (!x85))), (193, (.bool e))], ⟨7, [(6, .rw (e49.2.2.map eB)), (5, .rw (e49.2.1.map eI)), (4, .rw ((e10.2.2.map e_L1B).set e10.1.toNat (.slice (some ⟨6, 0, none⟩) (IntKind.i64.wrap ((IntKind.i64.wrap ((IntKind.i64.wrap (a1 - a0)) + (1 : Int))) * ((a2.map e_SIII).length : Int))).toNat 1))), (3, .rw ((e10.2.1.map e_L1I).set e10.1.toNat (.slice (some ⟨5, 0, none⟩) (IntKind.i64.wrap ((IntKind.i64.wrap ((IntKind.i64.wrap (a1 - a0)) + (1 : Int))) * ((a2.map e_SIII).length : Int))).toNat 1))), (2, .rw [(.int .i64 a7), (.int .i64 a8)]), (1, .rw [(.int .i64 a3), (.int .i64 a4), (.int .i64 a5), (VS 3 (a6.map e_III))]), (0, .rw [(.int .i64 a0), (.int .i64 a1), (VS 4 (a2.map e_SIII))])], false⟩⟩) r88 ?_ ?_
                                  · refine po_all ?_;(conv=>whnf);refine pbr_oite h89 (fun g90 h89 => ?_) (fun g90 h89 => ?_)
                                    · (conv=>whnf);refine pbr_t g90 ?_;(conv=>whnf);refine pbr_t g90 ?_;(conv=>whnf);refine pbr_t g90 ?_;(conv=>whnf);refine pbr_t g90 ?_;(conv=>whnf);refine pbr_t g90 ?_;(conv=>whnf);refine pbr_t g90 ?_;(conv=>whnf);refine pbr_t g90 ?_;(conv=>whnf);refine pbr_t g90 ?_;(conv=>whnf);refine pbr_t g80 ?_;(conv=>whnf);refine pbr_t g90 ?_;(conv=>whnf);cases h89;exact ⟨(.cons rfl (.cons rfl (.cons rfl (.cons rfl (.cons rfl (.cons rfl (.cons rfl (.cons rfl (.cons rfl (.cons rfl (.cons rfl (.cons rfl (.cons rfl (.cons rfl (.cons rfl (.cons rfl (.cons rfl (.cons rfl (.cons rfl (.cons rfl (.cons rfl (.cons rfl (.cons rfl (.cons rfl (.cons rfl (.cons rfl (.cons rfl .nil))))))))))))))))))))))))))), rfl⟩
                                    · (conv=>whnf);refine pbr_f g90 ?_;(conv=>whnf);refine pbr_f g90 ?_;(conv=>whnf);refine pbr_f g90 ?_;(conv=>whnf);refine pbr_t g53 ?_;(conv=>whnf);refine pbr_t g81 ?_;(conv=>whnf);refine pbr_f g90 ?_;(conv=>whnf);obtain ⟨g91, h89⟩ := ogrd_some h89;refine nth_h g91 ?_;(conv=>whnf);refine pbr_f g90 ?_;(conv=>whnf);refine pbr_f g90 ?_;(conv=>whnf);refine pbr_t g83 ?_;(conv=>whnf);refine pbr_t g84 ?_;(conv=>whnf);refine pbr_f g90 ?_;(conv=>whnf);refine nth_a (l := e49.2.1) (f := eI) h89 (fun x92 h93 h89 => ?_);(conv=>whnf);refine pbr_f g90 ?_;(conv=>whnf);refine pbr_t g80 ?_;(conv=>whnf);refine pbr_f g90 ?_
                                      (conv=>whnf);cases h89;exact ⟨(.cons rfl (.cons rfl (.cons rfl (.cons rfl (.cons rfl (.cons rfl (.cons rfl (.cons rfl (.cons rfl (.cons rfl (.cons rfl (.cons rfl (.cons rfl (.cons rfl (.cons rfl (.cons rfl (.cons rfl (.cons rfl (.cons rfl (.cons rfl (.cons rfl (.cons rfl (.cons rfl (.cons rfl (.cons rfl (.cons rfl (.cons rfl .nil))))))))))))))))))))))))))), rfl⟩
                                  · refine po_all ?_;(conv=>whnf);refine pbr_t g80 ?_;(conv=>whnf);cases h73;exact ⟨(.cons rfl (.cons rfl (.cons rfl (.cons rfl (.cons rfl (.cons rfl (.cons rfl (.cons rfl (.cons rfl (.cons rfl (.cons rfl (.cons rfl (.cons rfl (.cons rfl (.cons rfl (.cons rfl (.cons rfl .nil))))))))))))))))), rfl⟩
                                · (conv=>whnf);refine pbr_f g80 ?_;(conv=>whnf);refine pbr_f g80 ?_;(conv=>whnf);refine pbr_f g80 ?_;(conv=>whnf);refine pbr_f g80 ?_;(conv=>whnf);refine pbr_f g80 ?_;(conv=>whnf);refine pbr_f g80 ?_;(conv=>whnf);refine pbr_f g80 ?_;(conv=>whnf);refine pbr_f g80 ?_;(conv=>whnf);refine po_ops 10 ?_;(conv=>whnf);refine pbr_f g80 ?_;(conv=>whnf);refine po_all ?_;(conv=>whnf);refine pbr_f g80 ?_;(conv=>whnf);cases h73;exact ⟨(.cons rfl (.cons rfl (.cons rfl (.cons rfl (.cons rfl (.cons rfl (.cons rfl (.cons rfl (.cons rfl (.cons rfl (.cons rfl (.cons rfl (.cons rfl (.cons rfl (.cons rfl (.cons rfl (.cons rfl .nil))))))))))))))))), rfl⟩
                              · refine pw_cond ?_;(conv=>whnf);refine pbr_oite h51 (fun g95 h51 => ?_) (fun g95 h51 => ?_)
                                · (conv=>whnf);refine pw_draw ?_;(conv=>whnf);refine pbr_t g53 ?_;(conv=>whnf);refine pbr_ogrd h51 (fun g96 h51 => ?_);(conv=>whnf);obtain ⟨g97, h51⟩ := ogrd_some h51;refine nth_h g97 ?_;(conv=>whnf);refine pbr_t g53 ?_;(conv=>whnf);refine pbr_t g96 ?_;(conv=>whnf);obtain ⟨g98, h51⟩ := ogrd_some h51;refine nth_h g98 ?_;(conv=>whnf);refine pbr_ogrd h51 (fun g99 h51 => ?_);(conv=>whnf);refine pbr_ogrd h51 (fun g100 h51 => ?_);(conv=>whnf);refine ⟨?_, trivial⟩;(conv=>whnf);obtain ⟨g101, h51⟩ := ogrd_some h51;refine set_a (l := e49.2.1) (f := eI) (x := (IntKind.i64.wrap (y70 + x69))) g101 rfl ?_;(conv=>whnf)
                                  refine ⟨by repeat (first | exact trivial | refine And.intro rfl ?_ | refine And.intro (lev_h (l := e10.2.1) (f := e_L1I) rfl g97) ?_ | refine And.intro (lev_h (l := e10.2.2) (f := e_L1B) rfl g98) ?_), ?_⟩;(conv=>whnf);refine pbr_t g99 ?_;(conv=>whnf);refine pbr_t g100 ?_;(conv=>whnf);refine ⟨?_, trivial⟩;(conv=>whnf);obtain ⟨g102, h51⟩ := ogrd_some h51;refine set_a (l := e49.2.2) (f := eB) (x := true) g102 rfl ?_;(conv=>whnf);refine ⟨by repeat (first | exact trivial | refine And.intro rfl ?_ | refine And.intro (lev_h (l := e10.2.1) (f := e_L1I) rfl g97) ?_ | refine And.intro (lev_h (l := e10.2.2) (f := e_L1B) rfl g98) ?_), ?_⟩
                                  (conv=>whnf);refine pw_ops ?_;refine po_all ?_;(conv=>whnf);cases h51;refine ⟨_, rfl, ?_⟩;exact .sub' (Nat.le_of_ble_eq_true rfl) (.cons rfl (.cons rfl (.cons rfl (.cons rfl (.cons rfl (.cons rfl (.cons rfl (.cons rfl (.cons rfl (.cons rfl (.cons rfl (.cons rfl (.cons rfl (.cons rfl (.cons rfl .nil)))))))))))))))
                                · (conv=>whnf);refine pw_skip ?_;(conv=>whnf);refine pw_ops ?_;refine po_all ?_;(conv=>whnf);cases h51;refine ⟨_, rfl, ?_⟩;exact .sub' (Nat.le_of_ble_eq_true rfl) (.cons rfl (.cons rfl (.cons rfl (.cons rfl (.cons rfl (.cons rfl (.cons rfl (.cons rfl (.cons rfl (.cons rfl (.cons rfl (.cons rfl (.cons rfl (.cons rfl (.cons rfl .nil)))))))))))))))
                          · (conv=>whnf);refine pw_exit ?_;(conv=>whnf);cases h51;refine ⟨_, rfl, ?_⟩; rintro rfl;(conv=>whnf);exact ⟨(.cons rfl (.cons rfl (.cons rfl (.cons rfl (.cons rfl (.cons rfl (.cons rfl (.cons rfl (.cons rfl (.cons rfl (.cons rfl (.cons rfl .nil)))))))))))), rfl⟩
                  · refine pw_ops ?_;refine po_all ?_;(conv=>whnf);cases h30;refine ⟨_, rfl, ?_⟩;exact .sub' (Nat.le_of_ble_eq_true rfl) (.cons rfl (.cons rfl (.cons rfl (.cons rfl (.cons rfl (.cons rfl (.cons rfl (.cons rfl (.cons rfl (.cons rfl (.cons rfl (.cons rfl .nil))))))))))))
                · (conv=>whnf);refine pw_exit ?_;(conv=>whnf);cases h30;refine ⟨_, rfl, ?_⟩; rintro rfl;(conv=>whnf);exact ⟨(.cons rfl (.cons rfl (.cons rfl (.cons rfl (.cons rfl (.cons rfl (.cons rfl (.cons rfl (.cons rfl (.cons rfl (.cons rfl .nil))))))))))), rfl⟩
          · refine pw_ops ?_;refine po_all ?_;(conv=>whnf);obtain ⟨g105, h12⟩ := ogrd_some h12;obtain ⟨g106, h12⟩ := ogrd_some h12;cases h12;refine ⟨_, rfl, ?_⟩;exact Recast.fz (fun b => Nat.beq b 6 || Nat.beq b 5) (Nat.le_of_ble_eq_true rfl) (.cons (.hole rfl (Nat.le_of_ble_eq_true rfl) rfl (.slm rfl rfl g105 (fun _ => rfl)) (fun _ => rfl)) (.cons (.hole rfl (Nat.le_of_ble_eq_true rfl) rfl (.slm rfl rfl g106 (fun _ => rfl)) (fun _ => rfl)) (.cons (.same rfl rfl (OBnd.rwl (Nat.le_of_ble_eq_true rfl) rfl (.cons .cl (.cons .cl .nil)))) (.cons (.same rfl rfl (OBnd.rwl (Nat.le_of_ble_eq_true rfl) rfl (.cons .cl (.cons .cl (.cons .cl (.cons .cl .nil)))))) (.cons (.same rfl rfl (OBnd.rwl (Nat.le_of_ble_eq_true rfl) rfl (.cons .cl (.cons .cl (.cons .cl .nil))))) .nil))))) (.cons rfl (.same _ (.ptr (Nat.le_of_ble_eq_true rfl))) (.cons rfl (.same _ (.ptr (Nat.le_of_ble_eq_true rfl))) (.cons rfl (.same _ (.ptr (Nat.le_of_ble_eq_true rfl))) (.cons rfl (.same _ .cl) (.cons rfl (.same _ .cl) (.cons rfl (.same _ .cl) (.cons rfl (.same _ .cl) (.cons rfl (.same _ .cl) (.cons rfl (.same _ (.slice (Nat.le_of_ble_eq_true rfl))) (.cons rfl (.same _ (.slice (Nat.le_of_ble_eq_true rfl))) (.cons rfl (.same _ .cl) .nil)))))))))))
        · (conv=>whnf);refine pw_exit ?_;(conv=>whnf);cases h12;refine ⟨_, rfl, ?_⟩; rintro rfl;(conv=>whnf);exact ⟨(.cons rfl (.cons rfl (.cons rfl (.cons rfl (.cons rfl (.cons rfl (.cons rfl (.cons rfl .nil)))))))), rfl⟩
    · refine pw_sd ?_;(conv=>whnf);obtain ⟨r108, h109, H⟩ := obnd_some H;refine pw_join (ρ := Int × Bool) (fun e => ⟨[(3, (.pointer (some ⟨0, 0, none⟩))), (4, (.pointer (some ⟨1, 0, none⟩))), (9, (.int .i64 ((a6.map e_III).length : Int))), (10, (.slice none 0 0)), (11, (.int .i64 e.1)), (12, (.bool e.2)), (14, (.slice (some ⟨3, 0, none⟩) (IntKind.i64.wrap (((a6.map e_III).length : Int) + (1 : Int))).toNat 1)), (15, (.slice (some ⟨4, 0, none⟩) (IntKind.i64.wrap (((a6.map e_III).length : Int) + (1 : Int))).toNat 1)), (24, (.int .i64 a3)), (25, (.int .i64 a4))], ⟨5, [(4, .rw (r6.2.map e_L1B)), (3, .rw (r6.1.map e_L1I)), (2, .rw [(.int .i64 a7), (.int .i64 a8)]), (1, .rw [(.int .i64 a3), (.int .i64 a4), (.int .i64 a5), (VS 3 (a6.map e_III))]), (0, .rw [(.int .i64 a0), (.int .i64 a1), (VS 4 (a2.map e_SIII))])], false⟩⟩) r108 ?_ ?_
      · refine pw_sd ?_;(conv=>whnf);refine pbr_ogrd h109 (fun g112 h109 => ?_);(conv=>whnf);refine nth_a (l := r6.2) (f := e_L1B) h109 (fun x113 h114 h109 => ?_);(conv=>whnf);refine ⟨?_, trivial⟩;(conv=>whnf);obtain ⟨y116, h117, h109⟩ := obnd_some h109;refine (c349 h117).go ?_;(conv=>whnf);refine ⟨by repeat (first | exact trivial | refine And.intro rfl ?_ | refine And.intro (lev_a (l := r6.2) (f := e_L1B) rfl h114) ?_), ?_⟩;(conv=>whnf);refine pbr_ogrd h109 (fun g118 h109 => ?_);(conv=>whnf);refine nth_o (l := x113) h109 (fun x119 _ h109 => ?_);(conv=>whnf);refine pw_cond ?_;(conv=>whnf);refine pbr_oite h109 (fun g120 h109 => ?_) (fun g120 h109 => ?_)
        · (conv=>whnf);refine pw_draw ?_;(conv=>whnf);refine pbr_t g112 ?_;(conv=>whnf);refine nth_a (l := r6.1) (f := e_L1I) h109 (fun x121 h122 h109 => ?_);(conv=>whnf);refine ⟨?_, trivial⟩;(conv=>whnf);obtain ⟨y124, h125, h109⟩ := obnd_some h109;refine (c349 h125).go ?_;(conv=>whnf);refine ⟨by repeat (first | exact trivial | refine And.intro rfl ?_ | refine And.intro (lev_a (l := r6.1) (f := e_L1I) rfl h122) ?_), ?_⟩;(conv=>whnf);refine pbr_ogrd h109 (fun g126 h109 => ?_);(conv=>whnf);refine nth_o (l := x121) h109 (fun x127 _ h109 => ?_);(conv=>whnf);cases h109;exact ⟨(.cons rfl (.cons rfl (.cons rfl (.cons rfl (.cons rfl (.cons rfl (.cons rfl (.cons rfl (.cons rfl (.cons rfl .nil)))))))))), rfl⟩
        · (conv=>whnf);refine pw_skip ?_;(conv=>whnf);cases h109;exact ⟨(.cons rfl (.cons rfl (.cons rfl (.cons rfl (.cons rfl (.cons rfl (.cons rfl (.cons rfl (.cons rfl (.cons rfl .nil)))))))))), rfl⟩
      · obtain ⟨r128, h129, H⟩ := obnd_some H;refine pw_join (ρ := (List Int)) (fun e => ⟨[(10, (VT 1 (e.map eI) 5)), (11, (.int .i64 r108.1)), (12, (.bool r108.2))], ⟨6, [(5, .tail (e.map eI).length 1), (4, .rw (r6.2.map e_L1B)), (3, .rw (r6.1.map e_L1I)), (2, .rw [(.int .i64 a7), (.int .i64 a8)]), (1, .rw [(.int .i64 a3), (.int .i64 a4), (.int .i64 a5), (VS 3 (a6.map e_III))]), (0, .rw [(.int .i64 a0), (.int .i64 a1), (VS 4 (a2.map e_SIII))])], false⟩⟩) r128 ?_ ?_
        · refine pw_so ?_;refine po_all ?_;(conv=>whnf);refine pw_block ?_;refine pw_loop (τ := (List Int) × Int × Int × Int) (fun e => ⟨[(3, (.pointer (some ⟨0, 0, none⟩))), (4, (.pointer (some ⟨1, 0, none⟩))), (9, (.int .i64 ((a6.map e_III).length : Int))), (10, (VT 1 (e.1.map eI) 5)), (11, (.int .i64 r108.1)), (12, (.bool r108.2)), (14, (.slice (some ⟨3, 0, none⟩) (IntKind.i64.wrap (((a6.map e_III).length : Int) + (1 : Int))).toNat 1)), (15, (.slice (some ⟨4, 0, none⟩) (IntKind.i64.wrap (((a6.map e_III).length : Int) + (1 : Int))).toNat 1)), (24, (.int .i64 e.2.1)), (25, (.int .i64 e.2.2.1)), (26, (.int .i64 e.2.2.2))], ⟨6, [(5, .tail (e.1.map eI).length 1), (4, .rw (r6.2.map e_L1B)), (3, .rw (r6.1.map e_L1I)), (2, .rw [(.int .i64 a7), (.int .i64 a8)]), (1, .rw [(.int .i64 a3), (.int .i64 a4), (.int .i64 a5), (VS 3 (a6.map e_III))]), (0, .rw [(.int .i64 a0), (.int .i64 a1), (VS 4 (a2.map e_SIII))])], false⟩⟩) h129 ?_ (fun _ => Nat.le_of_ble_eq_true rfl) ?_
          · exact (Recast.nilTs 1 (Nat.le_of_ble_eq_true rfl) (.same rfl (.same rfl (.same rfl (.turn rfl (.same rfl (.same rfl (.same rfl (.same rfl (.same rfl (.same rfl (.same rfl .nil))))))))))))
          · intro e132 x133 h134;refine pw_seq ?_;refine pw_so ?_;refine po_all ?_;(conv=>whnf);refine pbr_oite h134 (fun g135 h134 => ?_) (fun g135 h134 => ?_)
            · (conv=>whnf);refine pbr_t g135 ?_;(conv=>whnf);refine pw_cond ?_;(conv=>whnf);refine pbr_oite h134 (fun g136 h134 => ?_) (fun g136 h134 => ?_)
              · (conv=>whnf);refine pw_skip ?_;(conv=>whnf);obtain ⟨r137, h138, h134⟩ := obnd_some h134;refine pw_joinR (ρ := (List Int) × Int × Int) (fun e => ⟨[(3, (.pointer (some ⟨0, 0, none⟩))), (4, (.pointer (some ⟨1, 0, none⟩))), (9, (.int .i64 ((a6.map e_III).length : Int))), (10, (VT 1 (e.1.map eI) 5)), (11, (.int .i64 r108.1)), (12, (.bool r108.2)), (14, (.slice (some ⟨3, 0, none⟩) (IntKind.i64.wrap (((a6.map e_III).length : Int) + (1 : Int))).toNat 1)), (15, (.slice (some ⟨4, 0, none⟩) (IntKind.i64.wrap (((a6.map e_III).length : Int) + (1 : Int))).toNat 1)), (24, (.int .i64 e.2.1)), (25, (.int .i64 e.2.2)), (26, (.int .i64 e132.2.2.2))], ⟨6, [(5, .tail (e.1.map eI).length 1), (4, .rw (r6.2.map e_L1B)), (3, .rw (r6.1.map e_L1I)), (2, .rw [(.int .i64 a7), (.int .i64 a8)]), (1, .rw [(.int .i64 a3), (.int .i64 a4), (.int .i64 a5), (VS 3 (a6.map e_III))]), (0, .rw [(.int .i64 a0), (.int .i64 a1), (VS 4 (a2.map e_SIII))])], false⟩⟩) r137 ?_ ?_
                · refine pw_block ?_;refine pw_so ?_;refine po_all ?_;(conv=>whnf);refine pw_block ?_;refine pw_loop (τ := Int) (fun e => ⟨[(3, (.pointer (some ⟨0, 0, none⟩))), (4, (.pointer (some ⟨1, 0, none⟩))), (9, (.int .i64 ((a6.map e_III).length : Int))), (10, (VT 1 (e132.1.map eI) 5)), (11, (.int .i64 r108.1)), (12, (.bool r108.2)), (14, (.slice (some ⟨3, 0, none⟩) (IntKind.i64.wrap (((a6.map e_III).length : Int) + (1 : Int))).toNat 1)), (15, (.slice (some ⟨4, 0, none⟩) (IntKind.i64.wrap (((a6.map e_III).length : Int) + (1 : Int))).toNat 1)), (24, (.int .i64 e132.2.1)), (25, (.int .i64 e132.2.2.1)), (26, (.int .i64 e132.2.2.2)), (27, (.int .i64 e))], ⟨6, [(5, .tail (e132.1.map eI).length 1), (4, .rw (r6.2.map e_L1B)), (3, .rw (r6.1.map e_L1I)), (2, .rw [(.int .i64 a7), (.int .i64 a8)]), (1, .rw [(.int .i64 a3), (.int .i64 a4), (.int .i64 a5), (VS 3 (a6.map e_III))]), (0, .rw [(.int .i64 a0), (.int .i64 a1), (VS 4 (a2.map e_SIII))])], false⟩⟩) h138 ?_ (fun _ => Nat.le_of_ble_eq_true rfl) ?_
                  · exact .sub' (Nat.le_of_ble_eq_true rfl) (.cons rfl (.cons rfl (.cons rfl (.cons rfl (.cons rfl (.cons rfl (.cons rfl (.cons rfl (.cons rfl (.cons rfl (.cons rfl (.cons rfl .nil))))))))))))
                  · intro e141 x142 h143;refine pw_seq ?_;refine pw_so ?_;refine po_all ?_;(conv=>whnf);refine pw_cond ?_;(conv=>whnf);refine pbr_oite h143 (fun g144 h143 => ?_) (fun g144 h143 => ?_)
                    · (conv=>whnf);refine pw_skip ?_;(conv=>whnf);refine pw_seq ?_;refine pw_block ?_;refine pw_sd ?_;(conv=>whnf);refine pbr_ogrd h143 (fun g145 h143 => ?_);(conv=>whnf);refine nth_o (l := a6) h143 (fun x146 _ h143 => ?_);(conv=>whnf);refine pbr_ogrd h143 (fun g147 h143 => ?_);(conv=>whnf);refine nth_o (l := a2) h143 (fun x148 _ h143 => ?_);(conv=>whnf);refine pw_seq ?_;refine pw_so ?_;refine po_all ?_;(conv=>whnf);obtain ⟨y149, h150, h143⟩ := obnd_some h143;refine (c15 h150).go ?_;(conv=>whnf);refine pw_cond ?_;(conv=>whnf);refine pbr_oite h143 (fun g151 h143 => ?_) (fun g151 h143 => ?_)
                      · (conv=>whnf);refine pw_exit ?_;(conv=>whnf);refine pw_ops ?_;refine po_all ?_;(conv=>whnf);cases h143;refine ⟨_, rfl, ?_⟩;exact .sub' (Nat.le_of_ble_eq_true rfl) (.cons rfl (.cons rfl (.cons rfl (.cons rfl (.cons rfl (.cons rfl (.cons rfl (.cons rfl (.cons rfl (.cons rfl (.cons rfl (.cons rfl .nil))))))))))))
                      · (conv=>whnf);refine pw_skip ?_;(conv=>whnf);refine pw_so ?_;refine po_all ?_;(conv=>whnf);obtain ⟨y152, h153, h143⟩ := obnd_some h143;refine (c349 h153).go ?_;(conv=>whnf);obtain ⟨r154, h155, h143⟩ := obnd_some h143;refine pw_join (ρ := Bool) (fun e => ⟨[(3, (.pointer (some ⟨0, 0, none⟩))), (4, (.pointer (some ⟨1, 0, none⟩))), (9, (.int .i64 ((a6.map e_III).length : Int))), (10, (VT 1 (e132.1.map eI) 5)), (11, (.int .i64 r108.1)), (12, (.bool r108.2)), (14, (.slice (some ⟨3, 0, none⟩) (IntKind.i64.wrap (((a6.map e_III).length : Int) + (1 : Int))).toNat 1)), (15, (.slice (some ⟨4, 0, none⟩) (IntKind.i64.wrap (((a6.map e_III).length : Int) + (1 : Int))).toNat 1)), (24, (.int .i64 e132.2.1)), (25, (.int .i64 e132.2.2.1)), (26, (.int .i64 e132.2.2.2)), (27, (.int .i64 e141)), (28, (.int .i64 (IntKind.i64.wrap ((IntKind.i64.wrap (e132.2.1 + x146.2.2)) + x148.2.1)))), (309, (.bool e))], ⟨6, [(5, .tail (e132.1.map eI).length 1), (4, .rw (r6.2.map e_L1B)), (3, .rw (r6.1.map e_L1I)), (2, .rw [(.int .i64 a7), (.int .i64 a8)]), (1, .rw [(.int .i64 a3), (.int .i64 a4), (.int .i64 a5), (VS 3 (a6.map e_III))]), (0, .rw [(.int .i64 a0), (.int .i64 a1), (VS 4 (a2.map e_SIII))])], false⟩⟩) r154 ?_ ?_
                        · refine pw_draw ?_;(conv=>whnf);refine pbr_ogrd h155 (fun g158 h155 => ?_);(conv=>whnf);refine pbr_ogrd h155 (fun g159 h155 => ?_);(conv=>whnf);refine nth_a (l := r6.2) (f := e_L1B) h155 (fun x160 h161 h155 => ?_);(conv=>whnf);refine pbr_ogrd h155 (fun g163 h155 => ?_);(conv=>whnf);refine nth_o (l := x160) h155 (fun x164 _ h155 => ?_);(conv=>whnf);refine pbr_oite h155 (fun g165 h155 => ?_) (fun g165 h155 => ?_)
                          · (conv=>whnf);refine pbr_t g165 ?_;(conv=>whnf);refine pbr_t g165 ?_;(conv=>whnf);refine pbr_t g165 ?_;(conv=>whnf);refine pbr_t g165 ?_;(conv=>whnf);refine pbr_t g145 ?_;(conv=>whnf);refine nth_o (l := a6) h155 (fun x166 _ h155 => ?_);(conv=>whnf);refine pbr_t g165 ?_;(conv=>whnf);refine pbr_t g165 ?_;(conv=>whnf);refine pbr_t g165 ?_;(conv=>whnf);refine pbr_t g165 ?_;(conv=>whnf);refine pbr_t g165 ?_;(conv=>whnf);refine pbr_t g165 ?_;(conv=>whnf);refine pbr_t g165 ?_;(conv=>whnf);refine pbr_t g158 ?_;(conv=>whnf);refine pbr_t g159 ?_;(conv=>whnf);refine pbr_t g165 ?_;(conv=>whnf);refine nth_a (l := r6.1) (f := e_L1I) h155 (fun x167 h168 h155 => ?_)
                            (conv=>whnf);refine pbr_t g165 ?_;(conv=>whnf);refine pbr_t g165 ?_;(conv=>whnf);refine pbr_t g163 ?_;(conv=>whnf);refine nth_o (l := x167) h155 (fun x170 _ h155 => ?_);(conv=>whnf);refine pbr_t g165 ?_;(conv=>whnf);refine pbr_t g165 ?_;(conv=>whnf);refine pbr_t g165 ?_;(conv=>whnf);refine pbr_t g165 ?_;(conv=>whnf);refine pbr_t g145 ?_;(conv=>whnf);refine pbr_ogrd h155 (fun g171 h155 => ?_);(conv=>whnf);refine pbr_t g165 ?_;(conv=>whnf);refine nth_a (l := r6.1) (f := e_L1I) h155 (fun x172 h173 h155 => ?_);(conv=>whnf);refine pbr_t g165 ?_;(conv=>whnf);refine pbr_t g165 ?_;(conv=>whnf);refine pbr_t g165 ?_
                            (conv=>whnf);refine ⟨?_, trivial⟩;(conv=>whnf);refine pbr_t g165 ?_;(conv=>whnf);obtain ⟨y175, h176, h155⟩ := obnd_some h155;refine (c350 h176).go ?_;(conv=>whnf);refine ⟨by repeat (first | exact trivial | refine And.intro rfl ?_ | refine And.intro (lev_a (l := r6.2) (f := e_L1B) rfl h161) ?_ | refine And.intro (lev_a (l := r6.1) (f := e_L1I) rfl h168) ?_ | refine And.intro (lev_a (l := r6.1) (f := e_L1I) rfl h173) ?_), ?_⟩;(conv=>whnf);refine pbr_t g165 ?_;(conv=>whnf);refine ⟨?_, trivial⟩;(conv=>whnf);refine pbr_t g165 ?_;(conv=>whnf);obtain ⟨y177, h178, h155⟩ := obnd_some h155;refine (c349 h178).go ?_
                            (conv=>whnf);refine ⟨by repeat (first | exact trivial | refine And.intro rfl ?_ | refine And.intro (lev_a (l := r6.2) (f := e_L1B) rfl h161) ?_ | refine And.intro (lev_a (l := r6.1) (f := e_L1I) rfl h168) ?_ | refine And.intro (lev_a (l := r6.1) (f := e_L1I) rfl h173) ?_), ?_⟩;(conv=>whnf);refine pbr_t g165 ?_;(conv=>whnf);refine pbr_ogrd h155 (fun g179 h155 => ?_);(conv=>whnf);refine nth_o (l := x172) h155 (fun x180 _ h155 => ?_);(conv=>whnf);refine pbr_t g165 ?_;(conv=>whnf);refine pbr_t g165 ?_;(conv=>whnf);refine pbr_t g165 ?_;(conv=>whnf);cases h155;exact ⟨(.cons rfl (.cons rfl (.cons rfl (.cons rfl (.cons rfl (.cons rfl (.cons rfl (.cons rfl (.cons rfl (.cons rfl (.cons rfl (.cons rfl (.cons rfl (.cons rfl .nil)))))))))))))), rfl⟩
                          · (conv=>whnf);refine pbr_f g165 ?_;(conv=>whnf);refine pbr_f g165 ?_;(conv=>whnf);refine pbr_f g165 ?_;(conv=>whnf);refine pbr_f g165 ?_;(conv=>whnf);refine pbr_f g165 ?_;(conv=>whnf);refine pbr_f g165 ?_;(conv=>whnf);refine pbr_f g165 ?_;(conv=>whnf);refine pbr_f g165 ?_;(conv=>whnf);refine pbr_f g165 ?_;(conv=>whnf);refine pbr_f g165 ?_;(conv=>whnf);refine pbr_f g165 ?_;(conv=>whnf);refine pbr_f g165 ?_;(conv=>whnf);refine pbr_f g165 ?_;(conv=>whnf);refine pbr_f g165 ?_;(conv=>whnf);refine pbr_f g165 ?_;(conv=>whnf);refine pbr_f g165 ?_;(conv=>whnf);refine pbr_f g165 ?_;(conv=>whnf);refine pbr_f g165 ?_
                            (conv=>whnf);refine pbr_f g165 ?_;(conv=>whnf);refine pbr_f g165 ?_;(conv=>whnf);refine pbr_f g165 ?_;(conv=>whnf);refine pbr_f g165 ?_;(conv=>whnf);refine ⟨?_, trivial⟩;(conv=>whnf);refine pbr_f g165 ?_;(conv=>whnf);refine pbr_f g165 ?_;(conv=>whnf);refine ⟨?_, trivial⟩;(conv=>whnf);refine pbr_f g165 ?_;(conv=>whnf);refine pbr_f g165 ?_;(conv=>whnf);refine pbr_f g165 ?_;(conv=>whnf);refine pbr_f g165 ?_;(conv=>whnf);refine pbr_f g165 ?_;(conv=>whnf);cases h155;exact ⟨(.cons rfl (.cons rfl (.cons rfl (.cons rfl (.cons rfl (.cons rfl (.cons rfl (.cons rfl (.cons rfl (.cons rfl (.cons rfl (.cons rfl (.cons rfl (.cons rfl .nil)))))))))))))), rfl⟩
                        · refine pw_cond ?_;(conv=>whnf);refine pbr_oite h143 (fun g181 h143 => ?_) (fun g181 h143 => ?_)
                          · (conv=>whnf);refine pw_so ?_;refine po_all ?_;(conv=>whnf);refine app_o (l := e132.1) (m := ([e141] : List Int)) (f := eI) h143 (by rfl) (by rfl) (by rfl) (fun h143 => ?_);(conv=>whnf);refine pw_exit ?_;(conv=>whnf);cases h143;refine ⟨_, rfl, ?_⟩; rintro rfl;(conv=>whnf);exact Recast.fz (fun _ => false) (Nat.le_of_ble_eq_true rfl) (.cons (.same rfl rfl (OBnd.tail (Nat.le_of_ble_eq_true rfl))) (.cons (.same rfl rfl (OBnd.rwc (Nat.le_of_ble_eq_true rfl) (oneL_map fun _ => rfl))) (.cons (.same rfl rfl (OBnd.rwc (Nat.le_of_ble_eq_true rfl) (oneL_map fun _ => rfl))) (.cons (.same rfl rfl (OBnd.rwl (Nat.le_of_ble_eq_true rfl) rfl (.cons .cl (.cons .cl .nil)))) (.cons (.same rfl rfl (OBnd.rwl (Nat.le_of_ble_eq_true rfl) rfl (.cons .cl (.cons .cl (.cons .cl (.cons .cl .nil)))))) (.cons (.same rfl rfl (OBnd.rwl (Nat.le_of_ble_eq_true rfl) rfl (.cons .cl (.cons .cl (.cons .cl .nil))))) .nil)))))) (.cons rfl (.same _ (.ptr (Nat.le_of_ble_eq_true rfl))) (.cons rfl (.same _ (.ptr (Nat.le_of_ble_eq_true rfl))) (.cons rfl (.same _ .cl) (.cons rfl (.same _ (.vt (Nat.le_of_ble_eq_true rfl))) (.cons rfl (.same _ .cl) (.cons rfl (.same _ .cl) (.cons rfl (.same _ (.slice (Nat.le_of_ble_eq_true rfl))) (.cons rfl (.same _ (.slice (Nat.le_of_ble_eq_true rfl))) (.cons rfl (.same _ .cl) (.cons rfl (.same _ .cl) (.cons rfl (.same _ .cl) .nil)))))))))))
                          · (conv=>whnf);refine pw_skip ?_;(conv=>whnf);refine pw_ops ?_;refine po_all ?_;(conv=>whnf);cases h143;refine ⟨_, rfl, ?_⟩;exact .sub' (Nat.le_of_ble_eq_true rfl) (.cons rfl (.cons rfl (.cons rfl (.cons rfl (.cons rfl (.cons rfl (.cons rfl (.cons rfl (.cons rfl (.cons rfl (.cons rfl (.cons rfl .nil))))))))))))
                    · (conv=>whnf);refine pw_exit ?_;(conv=>whnf);cases h143;refine ⟨_, rfl, ?_⟩; rintro rfl;(conv=>whnf);exact Recast.fz (fun _ => false) (Nat.le_of_ble_eq_true rfl) (.cons (.same rfl rfl (OBnd.tail (Nat.le_of_ble_eq_true rfl))) (.cons (.same rfl rfl (OBnd.rwc (Nat.le_of_ble_eq_true rfl) (oneL_map fun _ => rfl))) (.cons (.same rfl rfl (OBnd.rwc (Nat.le_of_ble_eq_true rfl) (oneL_map fun _ => rfl))) (.cons (.same rfl rfl (OBnd.rwl (Nat.le_of_ble_eq_true rfl) rfl (.cons .cl (.cons .cl .nil)))) (.cons (.same rfl rfl (OBnd.rwl (Nat.le_of_ble_eq_true rfl) rfl (.cons .cl (.cons .cl (.cons .cl (.cons .cl .nil)))))) (.cons (.same rfl rfl (OBnd.rwl (Nat.le_of_ble_eq_true rfl) rfl (.cons .cl (.cons .cl (.cons .cl .nil))))) .nil)))))) (.cons rfl (.same _ (.ptr (Nat.le_of_ble_eq_true rfl))) (.cons rfl (.same _ (.ptr (Nat.le_of_ble_eq_true rfl))) (.cons rfl (.same _ .cl) (.cons rfl (.same _ (.vt (Nat.le_of_ble_eq_true rfl))) (.cons rfl (.same _ .cl) (.cons rfl (.same _ .cl) (.cons rfl (.same _ (.slice (Nat.le_of_ble_eq_true rfl))) (.cons rfl (.same _ (.slice (Nat.le_of_ble_eq_true rfl))) (.cons rfl (.same _ .cl) (.cons rfl (.same _ .cl) (.cons rfl (.same _ .cl) .nil)))))))))))
                · refine pw_ops ?_;refine po_all ?_;(conv=>whnf);cases h134;refine ⟨_, rfl, ?_⟩;exact .sub' (Nat.le_of_ble_eq_true rfl) (.cons rfl (.cons rfl (.cons rfl (.cons rfl (.cons rfl (.cons rfl (.cons rfl (.cons rfl (.cons rfl (.cons rfl (.cons rfl .nil)))))))))))
              · (conv=>whnf);refine pw_exit ?_;(conv=>whnf);cases h134;refine ⟨_, rfl, ?_⟩; rintro rfl;(conv=>whnf);exact ⟨(.cons rfl (.cons rfl (.cons rfl .nil))), rfl⟩
            · (conv=>whnf);refine pbr_f g135 ?_;(conv=>whnf);refine pw_cond ?_;(conv=>whnf);refine pw_exit ?_;(conv=>whnf);cases h134;refine ⟨_, rfl, ?_⟩; rintro rfl;(conv=>whnf);exact ⟨(.cons rfl (.cons rfl (.cons rfl .nil))), rfl⟩
        · refine pw_so ?_;refine po_all ?_;(conv=>whnf);refine pw_ret ?_;(conv=>whnf);cases H; show ∃ D, Fz _ D 0 (.tuple ⟨[(VT 1 _ 5), (.int .i64 r108.1), (.bool r108.2)]⟩) _;exact ⟨fun _ => false, .tuplel (.cons .vtc (.cons .cl (.cons .cl (.nil))))⟩

/-- guidevane/guidevanelaw08.DispatchHolds -/
noncomputable def f299 [LO]  (a0 : Int) (a1 : Int) (a2 : List (ByteArray × Int × Int × Int)) (a3 : Int) (a4 : Int) (a5 : Int) (a6 : List (Int × Int × Int)) (a7 : Int) (a8 : Int) : Option Bool :=
  obnd (f198) fun (y1 : Bool) =>
  oite (!y1) (
   some false
    ) (
   obnd (
    obnd (f307 a0 a1 a2) fun (y8 : Bool) =>
    oite (!y8) (
     some true
      ) (
     obnd (f308 a3 a4 a5 a6) fun (y11 : Bool) =>
     some (!y11)
      )
     ) fun (r4 : Bool) =>
   oite r4 (
    some true
     ) (
    obnd (f309 a0 a1 a2) fun (y14 : Int × Int × (List (ByteArray × Int × Int × Int))) =>
    obnd (f310 a3 a4 a5 a6) fun (y16 : Int × Int × Int × (List (Int × Int × Int))) =>
    obnd (f314 y14.1 y14.2.1 y14.2.2 y16.1 y16.2.1 y16.2.2.1 y16.2.2.2 a7 a8) fun (y18 : (List Int) × Int × Int) =>
    obnd (f311 a0 a1 a2 a3 a4 a5 a6) fun (y20 : Int) =>
    obnd (
     oite ((ieq y20 (0 : Int))) (
      obnd (f315 a0 a1 a2 a7 a8) fun (y27 : Int) =>
      some y27
       ) (
      some y20
       )
      ) fun (r22 : Int) =>
    oite ((!(ieq r22 (0 : Int)))) (
     obnd (
      oite ((ieq y18.2.2 r22)) (
       some (ieq ((y18.1.map eI).length : Int) (0 : Int))
        ) (
       some false
        )
       ) fun (r30 : Bool) =>
     obnd (
      oite r30 (
       some (ieq y18.2.1 (0 : Int))
        ) (
       some false
        )
       ) fun (r33 : Bool) =>
     some r33
      ) (
     obnd (f316 a0 a1 a2 a3 a4 a5 a6 a7 a8) fun (y36 : (List Int) × Int × Bool) =>
     obnd (
      oite y36.2.2 (
       some (ieq y18.2.2 (0 : Int))
        ) (
       some false
        )
       ) fun (r38 : Bool) =>
     obnd (
      oite r38 (
       obnd (f26 y18.1 y36.1) fun (y44 : Bool) =>
       some y44
        ) (
       some false
        )
       ) fun (r41 : Bool) =>
     obnd (
      oite r41 (
       some (ieq y18.2.1 y36.2.1)
        ) (
       some false
        )
       ) fun (r46 : Bool) =>
     obnd (
      oite r46 (
       some true
        ) (
       oite (!y36.2.2) (
        oite ((ieq y18.2.2 (12 : Int))) (
         oite ((ieq ((y18.1.map eI).length : Int) (0 : Int))) (
          some (ieq y18.2.1 (0 : Int))
           ) (
          some false
           )
          ) (
         some false
          )
         ) (
        some false
         )
        )
       ) fun (r49 : Bool) =>
     some r49
      )
     )
    )
set_option maxHeartbeats 1000000 in
theorem c299 [LO]  {a0 : Int} {a1 : Int} {a2 : List (ByteArray × Int × Int × Int)} {a3 : Int} {a4 : Int} {a5 : Int} {a6 : List (Int × Int × Int)} {a7 : Int} {a8 : Int} {x : Bool} (H : f299 a0 a1 a2 a3 a4 a5 a6 a7 a8 = some x) : ICalls E 299 [(.agg ⟨[(.int .i64 a0), (.int .i64 a1), (VS 4 (a2.map e_SIII))]⟩), (.agg ⟨[(.int .i64 a3), (.int .i64 a4), (.int .i64 a5), (VS 3 (a6.map e_III))]⟩), (.agg ⟨[(.int .i64 a7), (.int .i64 a8)]⟩)] AHeap.none fun v _ => v = (.bool x) := by
  refine icalls_fn (pfnw ?_); unfold f299 at H;(conv=>whnf);refine pw_so ?_;refine po_all ?_;(conv=>whnf);refine pw_seq ?_;refine pw_so ?_;refine po_all ?_;(conv=>whnf);obtain ⟨y1, h2, H⟩ := obnd_some H;refine (c198 h2).go ?_;(conv=>whnf);refine pw_cond ?_;(conv=>whnf);refine pbr_oite H (fun g3 H => ?_) (fun g3 H => ?_)
  · (conv=>whnf);refine pw_so ?_;refine po_all ?_;(conv=>whnf);refine pw_ret ?_;(conv=>whnf);cases H; rfl
  · (conv=>whnf);refine pw_skip ?_;(conv=>whnf);refine pw_seq ?_;obtain ⟨r4, h5, H⟩ := obnd_some H;refine pw_join (ρ := Bool) (fun e => ⟨[(3, (.pointer (some ⟨0, 0, none⟩))), (4, (.pointer (some ⟨1, 0, none⟩))), (5, (.pointer (some ⟨2, 0, none⟩))), (23, (.bool e))], ⟨3, [(2, .rw [(.int .i64 a7), (.int .i64 a8)]), (1, .rw [(.int .i64 a3), (.int .i64 a4), (.int .i64 a5), (VS 3 (a6.map e_III))]), (0, .rw [(.int .i64 a0), (.int .i64 a1), (VS 4 (a2.map e_SIII))])], false⟩⟩) r4 ?_ ?_
    · refine pw_ops ?_;refine po_all ?_;(conv=>whnf);obtain ⟨y8, h9, h5⟩ := obnd_some h5;refine (c307 h9).go ?_;(conv=>whnf);refine pbr_oite h5 (fun g10 h5 => ?_) (fun g10 h5 => ?_)
      · (conv=>whnf);refine pbr_t g10 ?_;(conv=>whnf);refine pbr_t g10 ?_;(conv=>whnf);refine pbr_t g10 ?_;(conv=>whnf);cases h5;exact ⟨(.cons rfl (.cons rfl (.cons rfl (.cons rfl .nil)))), rfl⟩
      · (conv=>whnf);refine pbr_f g10 ?_;(conv=>whnf);obtain ⟨y11, h12, h5⟩ := obnd_some h5;refine (c308 h12).go ?_;(conv=>whnf);refine pbr_f g10 ?_;(conv=>whnf);refine pbr_f g10 ?_;(conv=>whnf);cases h5;exact ⟨(.cons rfl (.cons rfl (.cons rfl (.cons rfl .nil)))), rfl⟩
    · refine pw_cond ?_;(conv=>whnf);refine pbr_oite H (fun g13 H => ?_) (fun g13 H => ?_)
      · (conv=>whnf);refine pw_so ?_;refine po_all ?_;(conv=>whnf);refine pw_ret ?_;(conv=>whnf);cases H; rfl
      · (conv=>whnf);refine pw_skip ?_;(conv=>whnf);refine pw_sd ?_;(conv=>whnf);refine ⟨?_, trivial⟩;(conv=>whnf);obtain ⟨y14, h15, H⟩ := obnd_some H;refine (c309 h15).go ?_;(conv=>whnf);refine ⟨by repeat (first | exact trivial | refine And.intro rfl ?_), ?_⟩;(conv=>whnf);refine ⟨?_, trivial⟩;(conv=>whnf);obtain ⟨y16, h17, H⟩ := obnd_some H;refine (c310 h17).go ?_;(conv=>whnf);refine ⟨by repeat (first | exact trivial | refine And.intro rfl ?_), ?_⟩;(conv=>whnf);refine ⟨?_, trivial⟩;(conv=>whnf);obtain ⟨y18, h19, H⟩ := obnd_some H;refine (c314 h19).go ?_;(conv=>whnf);refine ⟨by repeat (first | exact trivial | refine And.intro rfl ?_), ?_⟩
        (conv=>whnf);refine pw_so ?_;refine po_all ?_;(conv=>whnf);obtain ⟨y20, h21, H⟩ := obnd_some H;refine (c311 h21).go ?_;(conv=>whnf);obtain ⟨r22, h23, H⟩ := obnd_some H;refine pw_join (ρ := Int) (fun e => ⟨[(3, (.pointer (some ⟨0, 0, none⟩))), (4, (.pointer (some ⟨1, 0, none⟩))), (5, (.pointer (some ⟨2, 0, none⟩))), (7, (VS 1 (y18.1.map eI))), (8, (.int .i64 y18.2.1)), (9, (.int .i64 y18.2.2)), (10, (.int .i64 e))], ⟨3, [(2, .rw [(.int .i64 a7), (.int .i64 a8)]), (1, .rw [(.int .i64 a3), (.int .i64 a4), (.int .i64 a5), (VS 3 (a6.map e_III))]), (0, .rw [(.int .i64 a0), (.int .i64 a1), (VS 4 (a2.map e_SIII))])], false⟩⟩) r22 ?_ ?_
        · refine pw_so ?_;refine po_all ?_;(conv=>whnf);refine pw_cond ?_;(conv=>whnf);refine pbr_oite h23 (fun g26 h23 => ?_) (fun g26 h23 => ?_)
          · (conv=>whnf);refine pw_ops ?_;refine po_all ?_;(conv=>whnf);obtain ⟨y27, h28, h23⟩ := obnd_some h23;refine (c315 h28).go ?_;(conv=>whnf);cases h23;exact ⟨(.cons rfl (.cons rfl (.cons rfl (.cons rfl (.cons rfl (.cons rfl (.cons rfl .nil))))))), rfl⟩
          · (conv=>whnf);refine pw_skip ?_;(conv=>whnf);cases h23;exact ⟨(.cons rfl (.cons rfl (.cons rfl (.cons rfl (.cons rfl (.cons rfl (.cons rfl .nil))))))), rfl⟩
        · refine pw_seq ?_;refine pw_so ?_;refine po_all ?_;(conv=>whnf);refine pw_cond ?_;(conv=>whnf);refine pbr_oite H (fun g29 H => ?_) (fun g29 H => ?_)
          · (conv=>whnf);refine pw_so ?_;refine po_ops 4 ?_;(conv=>whnf);obtain ⟨r30, h31, H⟩ := obnd_some H;refine po_seg (τ := Bool) 4 (fun e => ⟨[(8, (.int .i64 y18.2.1)), (51, (.bool e))], ⟨3, [(2, .rw [(.int .i64 a7), (.int .i64 a8)]), (1, .rw [(.int .i64 a3), (.int .i64 a4), (.int .i64 a5), (VS 3 (a6.map e_III))]), (0, .rw [(.int .i64 a0), (.int .i64 a1), (VS 4 (a2.map e_SIII))])], false⟩⟩) r30 ?_ ?_
            · refine po_all ?_;(conv=>whnf);refine pbr_oite h31 (fun g32 h31 => ?_) (fun g32 h31 => ?_)
              · (conv=>whnf);refine pbr_t g32 ?_;(conv=>whnf);refine pbr_t g32 ?_;(conv=>whnf);refine pbr_t g32 ?_;(conv=>whnf);cases h31;exact ⟨(.cons rfl (.cons rfl .nil)), rfl⟩
              · (conv=>whnf);refine pbr_f g32 ?_;(conv=>whnf);refine pbr_f g32 ?_;(conv=>whnf);refine pbr_f g32 ?_;(conv=>whnf);cases h31;exact ⟨(.cons rfl (.cons rfl .nil)), rfl⟩
            · refine po_ops 1 ?_;(conv=>whnf);obtain ⟨r33, h34, H⟩ := obnd_some H;refine po_seg (τ := Bool) 3 (fun e => ⟨[(55, (.bool e))], ⟨3, [(2, .rw [(.int .i64 a7), (.int .i64 a8)]), (1, .rw [(.int .i64 a3), (.int .i64 a4), (.int .i64 a5), (VS 3 (a6.map e_III))]), (0, .rw [(.int .i64 a0), (.int .i64 a1), (VS 4 (a2.map e_SIII))])], false⟩⟩) r33 ?_ ?_
              · refine po_all ?_;(conv=>whnf);refine pbr_oite h34 (fun g35 h34 => ?_) (fun g35 h34 => ?_)
                · (conv=>whnf);refine pbr_t g35 ?_;(conv=>whnf);refine pbr_t g35 ?_;(conv=>whnf);cases h34;exact ⟨(.cons rfl .nil), rfl⟩
                · (conv=>whnf);refine pbr_f g35 ?_;(conv=>whnf);refine pbr_f g35 ?_;(conv=>whnf);cases h34;exact ⟨(.cons rfl .nil), rfl⟩
              · refine po_all ?_;(conv=>whnf);refine pw_ret ?_;(conv=>whnf);cases H; rfl
          · (conv=>whnf);refine pw_skip ?_;(conv=>whnf);refine pw_so ?_;refine po_all ?_;(conv=>whnf);obtain ⟨y36, h37, H⟩ := obnd_some H;refine (c316 h37).go ?_;(conv=>whnf);refine pw_so ?_;refine po_ops 2 ?_;(conv=>whnf);obtain ⟨r38, h39, H⟩ := obnd_some H;refine po_seg (τ := Bool) 3 (fun e => ⟨[(7, (VS 1 (y18.1.map eI))), (8, (.int .i64 y18.2.1)), (9, (.int .i64 y18.2.2)), (11, (VS 1 (y36.1.map eI))), (12, (.int .i64 y36.2.1)), (13, (.bool y36.2.2)), (68, (.bool e))], ⟨3, [(2, .rw [(.int .i64 a7), (.int .i64 a8)]), (1, .rw [(.int .i64 a3), (.int .i64 a4), (.int .i64 a5), (VS 3 (a6.map e_III))]), (0, .rw [(.int .i64 a0), (.int .i64 a1), (VS 4 (a2.map e_SIII))])], false⟩⟩) r38 ?_ ?_
            · refine po_all ?_;(conv=>whnf);refine pbr_oite h39 (fun g40 h39 => ?_) (fun g40 h39 => ?_)
              · (conv=>whnf);refine pbr_t g40 ?_;(conv=>whnf);refine pbr_t g40 ?_;(conv=>whnf);cases h39;exact ⟨(.cons rfl (.cons rfl (.cons rfl (.cons rfl (.cons rfl (.cons rfl (.cons rfl .nil))))))), rfl⟩
              · (conv=>whnf);refine pbr_f g40 ?_;(conv=>whnf);refine pbr_f g40 ?_;(conv=>whnf);cases h39;exact ⟨(.cons rfl (.cons rfl (.cons rfl (.cons rfl (.cons rfl (.cons rfl (.cons rfl .nil))))))), rfl⟩
            · refine po_ops 1 ?_;(conv=>whnf);obtain ⟨r41, h42, H⟩ := obnd_some H;refine po_seg (τ := Bool) 4 (fun e => ⟨[(7, (VS 1 (y18.1.map eI))), (8, (.int .i64 y18.2.1)), (9, (.int .i64 y18.2.2)), (12, (.int .i64 y36.2.1)), (13, (.bool y36.2.2)), (73, (.bool e))], ⟨3, [(2, .rw [(.int .i64 a7), (.int .i64 a8)]), (1, .rw [(.int .i64 a3), (.int .i64 a4), (.int .i64 a5), (VS 3 (a6.map e_III))]), (0, .rw [(.int .i64 a0), (.int .i64 a1), (VS 4 (a2.map e_SIII))])], false⟩⟩) r41 ?_ ?_
              · refine po_all ?_;(conv=>whnf);refine pbr_oite h42 (fun g43 h42 => ?_) (fun g43 h42 => ?_)
                · (conv=>whnf);refine pbr_t g43 ?_;(conv=>whnf);refine pbr_t g43 ?_;(conv=>whnf);obtain ⟨y44, h45, h42⟩ := obnd_some h42;refine (c26 h45).go ?_;(conv=>whnf);refine pbr_t g43 ?_;(conv=>whnf);cases h42;exact ⟨(.cons rfl (.cons rfl (.cons rfl (.cons rfl (.cons rfl (.cons rfl .nil)))))), rfl⟩
                · (conv=>whnf);refine pbr_f g43 ?_;(conv=>whnf);refine pbr_f g43 ?_;(conv=>whnf);refine pbr_f g43 ?_;(conv=>whnf);cases h42;exact ⟨(.cons rfl (.cons rfl (.cons rfl (.cons rfl (.cons rfl (.cons rfl .nil)))))), rfl⟩
              · refine po_ops 1 ?_;(conv=>whnf);obtain ⟨r46, h47, H⟩ := obnd_some H;refine po_seg (τ := Bool) 4 (fun e => ⟨[(7, (VS 1 (y18.1.map eI))), (8, (.int .i64 y18.2.1)), (9, (.int .i64 y18.2.2)), (13, (.bool y36.2.2)), (78, (.bool e))], ⟨3, [(2, .rw [(.int .i64 a7), (.int .i64 a8)]), (1, .rw [(.int .i64 a3), (.int .i64 a4), (.int .i64 a5), (VS 3 (a6.map e_III))]), (0, .rw [(.int .i64 a0), (.int .i64 a1), (VS 4 (a2.map e_SIII))])], false⟩⟩) r46 ?_ ?_
                · refine po_all ?_;(conv=>whnf);refine pbr_oite h47 (fun g48 h47 => ?_) (fun g48 h47 => ?_)
                  · (conv=>whnf);refine pbr_t g48 ?_;(conv=>whnf);refine pbr_t g48 ?_;(conv=>whnf);refine pbr_t g48 ?_;(conv=>whnf);cases h47;exact ⟨(.cons rfl (.cons rfl (.cons rfl (.cons rfl (.cons rfl .nil))))), rfl⟩
                  · (conv=>whnf);refine pbr_f g48 ?_;(conv=>whnf);refine pbr_f g48 ?_;(conv=>whnf);refine pbr_f g48 ?_;(conv=>whnf);cases h47;exact ⟨(.cons rfl (.cons rfl (.cons rfl (.cons rfl (.cons rfl .nil))))), rfl⟩
                · refine po_ops 1 ?_;(conv=>whnf);obtain ⟨r49, h50, H⟩ := obnd_some H;refine po_seg (τ := Bool) 16 (fun e => ⟨[(95, (.bool e))], ⟨3, [(2, .rw [(.int .i64 a7), (.int .i64 a8)]), (1, .rw [(.int .i64 a3), (.int .i64 a4), (.int .i64 a5), (VS 3 (a6.map e_III))]), (0, .rw [(.int .i64 a0), (.int .i64 a1), (VS 4 (a2.map e_SIII))])], false⟩⟩) r49 ?_ ?_
                  · refine po_all ?_;(conv=>whnf);refine pbr_oite h50 (fun g51 h50 => ?_) (fun g51 h50 => ?_)
                    · (conv=>whnf);refine pbr_t g51 ?_;(conv=>whnf);refine pbr_t g51 ?_;(conv=>whnf);refine pbr_t g51 ?_;(conv=>whnf);refine pbr_t g51 ?_;(conv=>whnf);refine pbr_t g51 ?_;(conv=>whnf);refine pbr_t g51 ?_;(conv=>whnf);refine pbr_t g51 ?_;(conv=>whnf);refine pbr_t g51 ?_;(conv=>whnf);cases h50;exact ⟨(.cons rfl .nil), rfl⟩
                    · (conv=>whnf);refine pbr_f g51 ?_;(conv=>whnf);refine pbr_f g51 ?_;(conv=>whnf);refine pbr_oite h50 (fun g52 h50 => ?_) (fun g52 h50 => ?_)
                      · (conv=>whnf);refine pbr_t g52 ?_;(conv=>whnf);refine pbr_f g51 ?_;(conv=>whnf);refine pbr_t g52 ?_;(conv=>whnf);refine pbr_f g51 ?_;(conv=>whnf);refine pbr_oite h50 (fun g53 h50 => ?_) (fun g53 h50 => ?_)
                        · (conv=>whnf);refine pbr_t g53 ?_;(conv=>whnf);refine pbr_t g53 ?_;(conv=>whnf);refine pbr_f g51 ?_;(conv=>whnf);refine pbr_t g53 ?_;(conv=>whnf);refine pbr_f g51 ?_;(conv=>whnf);refine pbr_oite h50 (fun g54 h50 => ?_) (fun g54 h50 => ?_)
                          · (conv=>whnf);refine pbr_t g54 ?_;(conv=>whnf);refine pbr_f g51 ?_;(conv=>whnf);refine pbr_t g54 ?_;(conv=>whnf);refine pbr_f g51 ?_;(conv=>whnf);cases h50;exact ⟨(.cons rfl .nil), rfl⟩
                          · (conv=>whnf);refine pbr_f g54 ?_;(conv=>whnf);refine pbr_f g51 ?_;(conv=>whnf);refine pbr_f g54 ?_;(conv=>whnf);refine pbr_f g51 ?_;(conv=>whnf);cases h50;exact ⟨(.cons rfl .nil), rfl⟩
                        · (conv=>whnf);refine pbr_f g53 ?_;(conv=>whnf);refine pbr_f g53 ?_;(conv=>whnf);refine pbr_f g51 ?_;(conv=>whnf);refine pbr_f g53 ?_;(conv=>whnf);refine pbr_f g51 ?_;(conv=>whnf);refine pbr_f g51 ?_;(conv=>whnf);refine pbr_f g51 ?_;(conv=>whnf);cases h50;exact ⟨(.cons rfl .nil), rfl⟩
                      · (conv=>whnf);refine pbr_f g52 ?_;(conv=>whnf);refine pbr_f g51 ?_;(conv=>whnf);refine pbr_f g52 ?_;(conv=>whnf);refine pbr_f g51 ?_;(conv=>whnf);refine pbr_f g51 ?_;(conv=>whnf);refine pbr_f g51 ?_;(conv=>whnf);refine pbr_f g51 ?_;(conv=>whnf);refine pbr_f g51 ?_;(conv=>whnf);cases h50;exact ⟨(.cons rfl .nil), rfl⟩
                  · refine po_all ?_;(conv=>whnf);refine pw_ret ?_;(conv=>whnf);cases H; rfl

end Go.Proofs.YtmbekcealcjabaaGreat.AM
