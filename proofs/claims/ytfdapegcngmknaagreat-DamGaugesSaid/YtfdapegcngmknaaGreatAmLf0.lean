/- Computations of functions, and that the functions do them (printed by tools/lift.py). Conditions: none. -/
import Derived.Test.YtfdapegcngmknaaGreatAmMan
namespace Go.Proofs.YtfdapegcngmknaaGreat.AM
set_option linter.unusedSimpArgs false
set_option linter.unusedVariables false
open Go Go.RowKit
attribute [local irreducible] ICallV ICalls Recast
abbrev e_SI (x : ByteArray × Int) : Value := .agg ⟨[(.string x.1), (.int .i64 x.2)]⟩
instance {x : ByteArray × Int} : Cl (e_SI x) := inferInstanceAs (Cl (.agg ⟨[(.string x.1), (.int .i64 x.2)]⟩))
abbrev e_SIIII (x : ByteArray × Int × Int × Int × Int) : Value := .agg ⟨[(.string x.1), (.int .i64 x.2.1), (.int .i64 x.2.2.1), (.int .i64 x.2.2.2.1), (.int .i64 x.2.2.2.2)]⟩
instance {x : ByteArray × Int × Int × Int × Int} : Cl (e_SIIII x) := inferInstanceAs (Cl (.agg ⟨[(.string x.1), (.int .i64 x.2.1), (.int .i64 x.2.2.1), (.int .i64 x.2.2.2.1), (.int .i64 x.2.2.2.2)]⟩))
abbrev e_III (x : Int × Int × Int) : Value := .agg ⟨[(.int .i64 x.1), (.int .i64 x.2.1), (.int .i64 x.2.2)]⟩
instance {x : Int × Int × Int} : Cl (e_III x) := inferInstanceAs (Cl (.agg ⟨[(.int .i64 x.1), (.int .i64 x.2.1), (.int .i64 x.2.2)]⟩))
abbrev e_II (x : Int × Int) : Value := .agg ⟨[(.int .i64 x.1), (.int .i64 x.2)]⟩
instance {x : Int × Int} : Cl (e_II x) := inferInstanceAs (Cl (.agg ⟨[(.int .i64 x.1), (.int .i64 x.2)]⟩))

/-- guidevane/guidevanelaw09.fewRules -/
noncomputable def f35  (a0 : List Int) (a1 : List Int) (_ : Int) (a3 : List (ByteArray × Int)) : Option Bool :=
  obnd (
   obnd (
    oite ((ilt (7 : Int) ((a0.map eI).length : Int))) (
     some true
      ) (
     some (ilt (7 : Int) ((a1.map eI).length : Int))
      )
     ) fun (r5 : Bool) =>
   oite r5 (
    some true
     ) (
    some (ilt (12 : Int) ((a3.map e_SI).length : Int))
     )
    ) fun (r1 : Bool) =>
  oite r1 (
   some false
    ) (
   obndS (
    oloop (τ := Int) (ρ := (Unit) ⊕ Bool) (fun e11 =>
     oite ((ilt e11 ((a3.map e_SI).length : Int))) (
      ogrd ((ile 0 e11)) (
      obnd (a3[e11.toNat]?) fun (x14 : ByteArray × Int) =>
      oite ((ilt (30 : Int) (x14.1.size : Int))) (
       some (.inr (.inr (false)))
        ) (
       some (.inl (IntKind.i64.wrap (e11 + (1 : Int))))
        )
      )
       ) (
      some (.inr (.inl ()))
       )
      ) (0 : Int)
     ) fun (_ : Unit) =>
   some true
    )
set_option maxHeartbeats 1000000 in
theorem c35  {a0 : List Int} {a1 : List Int} {a2 : Int} {a3 : List (ByteArray × Int)} {x : Bool} (H : f35 a0 a1 a2 a3 = some x) : ICalls E 35 [(.agg ⟨[(VS 1 (a0.map eI)), (VS 1 (a1.map eI)), (.int .i64 a2), (VS 2 (a3.map e_SI))]⟩)] AHeap.none fun v _ => v = (.bool x) := by
  refine icalls_fn (pfnw rfl ?_); unfold f35 at H;(conv=>whnf);refine pw_so ?_;refine po_all ?_;(conv=>whnf);refine pw_seq ?_;obtain ⟨r1, h2, H⟩ := obnd_some H;refine pw_join (ρ := Bool) (fun e => ⟨[(1, (.pointer (some ⟨0, 0, none⟩))), (19, (.bool e))], ⟨1, [(0, .rw [(VS 1 (a0.map eI)), (VS 1 (a1.map eI)), (.int .i64 a2), (VS 2 (a3.map e_SI))])], false⟩⟩) r1 ?_ ?_
  · refine pw_ops ?_;refine po_ops 5 ?_;(conv=>whnf);obtain ⟨r5, h6, h2⟩ := obnd_some h2;refine po_seg (τ := Bool) 5 (fun e => ⟨[(1, (.pointer (some ⟨0, 0, none⟩))), (13, (.bool e))], ⟨1, [(0, .rw [(VS 1 (a0.map eI)), (VS 1 (a1.map eI)), (.int .i64 a2), (VS 2 (a3.map e_SI))])], false⟩⟩) r5 ?_ ?_
    · refine po_all ?_;(conv=>whnf);refine pbr_oite h6 (fun _ h6 => ?_) (fun _ h6 => ?_)
      · (conv=>whnf);refine pbr_t (by assumption) ?_;(conv=>whnf);refine pbr_t (by assumption) ?_;(conv=>whnf);refine pbr_t (by assumption) ?_;(conv=>whnf);refine pbr_t (by assumption) ?_;(conv=>whnf);cases h6;exact ⟨(.cons rfl (.cons rfl .nil)), rfl⟩
      · (conv=>whnf);refine pbr_f (by assumption) ?_;(conv=>whnf);refine pbr_f (by assumption) ?_;(conv=>whnf);refine pbr_f (by assumption) ?_;(conv=>whnf);refine pbr_f (by assumption) ?_;(conv=>whnf);cases h6;exact ⟨(.cons rfl (.cons rfl .nil)), rfl⟩
    · refine po_all ?_;(conv=>whnf);refine pbr_oite h2 (fun _ h2 => ?_) (fun _ h2 => ?_)
      · (conv=>whnf);refine pbr_t (by assumption) ?_;(conv=>whnf);refine pbr_t (by assumption) ?_;(conv=>whnf);refine pbr_t (by assumption) ?_;(conv=>whnf);refine pbr_t (by assumption) ?_;(conv=>whnf);cases h2;exact ⟨(.cons rfl (.cons rfl .nil)), rfl⟩
      · (conv=>whnf);refine pbr_f (by assumption) ?_;(conv=>whnf);refine pbr_f (by assumption) ?_;(conv=>whnf);refine pbr_f (by assumption) ?_;(conv=>whnf);refine pbr_f (by assumption) ?_;(conv=>whnf);cases h2;exact ⟨(.cons rfl (.cons rfl .nil)), rfl⟩
  · refine pw_cond ?_;(conv=>whnf);refine pbr_oite H (fun _ H => ?_) (fun _ H => ?_)
    · (conv=>whnf);refine pw_so ?_;refine po_all ?_;(conv=>whnf);refine pw_ret ?_;(conv=>whnf);cases H; rfl
    · (conv=>whnf);refine pw_skip ?_;(conv=>whnf);obtain ⟨r7, h8, h9, h10⟩ := obndS_some H;refine pw_joinS (ρ := Unit) (fun e => ⟨[], ⟨1, [(0, .rw [(VS 1 (a0.map eI)), (VS 1 (a1.map eI)), (.int .i64 a2), (VS 2 (a3.map e_SI))])], false⟩⟩) r7 ?_ ?_
      · refine pw_so ?_;refine po_all ?_;(conv=>whnf);refine pw_block ?_;refine pw_loop (τ := Int) (fun e => ⟨[(1, (.pointer (some ⟨0, 0, none⟩))), (3, (.int .i64 e))], ⟨1, [(0, .rw [(VS 1 (a0.map eI)), (VS 1 (a1.map eI)), (.int .i64 a2), (VS 2 (a3.map e_SI))])], false⟩⟩) h8 ?_ (fun _ => Nat.le_of_ble_eq_true rfl) ?_
        · exact .sub' (Nat.le_of_ble_eq_true rfl) (.cons rfl (.cons rfl .nil))
        · intro e11 x12 h13;refine pw_seq ?_;refine pw_so ?_;refine po_all ?_;(conv=>whnf);refine pw_cond ?_;(conv=>whnf);refine pbr_oite h13 (fun _ h13 => ?_) (fun _ h13 => ?_)
          · (conv=>whnf);refine pw_skip ?_;(conv=>whnf);refine pw_seq ?_;refine pw_block ?_;refine pw_so ?_;refine po_all ?_;(conv=>whnf);refine pbr_ogrd h13 (fun _ h13 => ?_);(conv=>whnf);refine nth_o (l := a3) h13 (fun x14 _ h13 => ?_);(conv=>whnf);refine pw_cond ?_;(conv=>whnf);refine pbr_oite h13 (fun _ h13 => ?_) (fun _ h13 => ?_)
            · (conv=>whnf);refine pw_so ?_;refine po_all ?_;(conv=>whnf);refine pw_ret ?_;(conv=>whnf);cases h13;refine ⟨_, rfl, ?_⟩; rintro rfl;(conv=>whnf);obtain rfl := h10 _ rfl; rfl
            · (conv=>whnf);refine pw_skip ?_;(conv=>whnf);refine pw_ops ?_;refine po_all ?_;(conv=>whnf);cases h13;refine ⟨_, rfl, ?_⟩;exact .sub' (Nat.le_of_ble_eq_true rfl) (.cons rfl (.cons rfl .nil))
          · (conv=>whnf);refine pw_exit ?_;(conv=>whnf);cases h13;refine ⟨_, rfl, ?_⟩; rintro rfl;(conv=>whnf);exact ⟨_, rfl, ⟨.nil, rfl⟩⟩
      · intro r17 hr; have H := h9 _ hr;refine pw_so ?_;refine po_all ?_;(conv=>whnf);refine pw_ret ?_;(conv=>whnf);cases H; rfl

/-- guidevane/guidevanebase.CopyInts -/
noncomputable def f38  (a0 : List Int) : Option ((List Int)) :=
  ogrd (fits 8 (([] : List Int).length + a0.length)) (
  some (([] : List Int) ++ a0)
  )
set_option maxHeartbeats 1000000 in
theorem c38  {a0 : List Int} {x : (List Int)} (H : f38 a0 = some x) : ICalls E 38 [(VS 1 (a0.map eI))] AHeap.none fun v _ => v = (VS 1 (x.map eI)) := by
  refine ICalls.frz ?_;refine icalls_fn (pfnw rfl ?_); unfold f38 at H;(conv=>whnf);refine pw_so ?_;refine po_all ?_;(conv=>whnf);refine pw_so ?_;refine po_all ?_;(conv=>whnf);refine app_o (l := ([] : List Int)) (m := a0) (f := eI) H (by rfl) (by rfl) (by rfl) (fun H => ?_);(conv=>whnf);refine pw_ret ?_;(conv=>whnf);cases H; show ∃ D, Fz _ D 0 (VT 1 _ 0) _;exact ⟨fun _ => false, .vtc⟩

/-- guidevane/guidevaneref09.CopyRules -/
noncomputable def f37  (a0 : List Int) (a1 : List Int) (a2 : Int) (a3 : List (ByteArray × Int)) : Option ((List Int) × (List Int) × Int × (List (ByteArray × Int))) :=
  obnd (f38 a0) fun (y1 : (List Int)) =>
  obnd (f38 a1) fun (y3 : (List Int)) =>
  ogrd (fits 24 (([] : List (ByteArray × Int)).length + a3.length)) (
  some (y1, y3, a2, (([] : List (ByteArray × Int)) ++ a3))
  )
set_option maxHeartbeats 1000000 in
theorem c37  {a0 : List Int} {a1 : List Int} {a2 : Int} {a3 : List (ByteArray × Int)} {x : (List Int) × (List Int) × Int × (List (ByteArray × Int))} (H : f37 a0 a1 a2 a3 = some x) : ICalls E 37 [(.agg ⟨[(VS 1 (a0.map eI)), (VS 1 (a1.map eI)), (.int .i64 a2), (VS 2 (a3.map e_SI))]⟩)] AHeap.none fun v _ => v = (.agg ⟨[(VS 1 (x.1.map eI)), (VS 1 (x.2.1.map eI)), (.int .i64 x.2.2.1), (VS 2 (x.2.2.2.map e_SI))]⟩) := by
  refine ICalls.frz ?_;refine icalls_fn (pfnw rfl ?_); unfold f37 at H;(conv=>whnf);refine pw_so ?_;refine po_all ?_;(conv=>whnf);refine pw_sd ?_;(conv=>whnf);refine ⟨?_, ?_⟩
  · (conv=>whnf);obtain ⟨y1, h2, H⟩ := obnd_some H;refine (c38 h2).go ?_;(conv=>whnf);refine ⟨by repeat (first | exact trivial | refine And.intro rfl ?_), ?_⟩;(conv=>whnf);refine ⟨?_, ?_⟩
    · (conv=>whnf);obtain ⟨y3, h4, H⟩ := obnd_some H;refine (c38 h4).go ?_;(conv=>whnf);refine ⟨by repeat (first | exact trivial | refine And.intro rfl ?_), ?_⟩;(conv=>whnf);refine ⟨?_, trivial⟩;(conv=>whnf);refine ⟨by repeat (first | exact trivial | refine And.intro rfl ?_), ?_⟩;(conv=>whnf);refine ⟨?_, trivial⟩;(conv=>whnf);refine app_o (l := ([] : List (ByteArray × Int))) (m := a3) (f := e_SI) H (by rfl) (by rfl) (by rfl) (fun H => ?_);(conv=>whnf);refine ⟨by repeat (first | exact trivial | refine And.intro rfl ?_), ?_⟩;(conv=>whnf);refine ⟨?_, trivial⟩;(conv=>whnf);refine ⟨by repeat (first | exact trivial | refine And.intro rfl ?_), ?_⟩
      (conv=>whnf);refine pw_ret ?_;(conv=>whnf);cases H; show ∃ D, Fz _ D 0 (.agg ⟨[(VS 1 _), (VS 1 _), (.int .i64 a2), (VT 2 _ 2)]⟩) _;exact ⟨fun _ => false, .aggl (.cons .cl (.cons .cl (.cons .cl (.cons .vtc (.nil)))))⟩
    · obtain ⟨y3, h4, H⟩ := obnd_some H;(conv=>whnf);refine ⟨?_, trivial⟩;(conv=>whnf);refine ⟨by repeat (first | exact trivial | refine And.intro rfl ?_), ?_⟩;(conv=>whnf);refine ⟨?_, trivial⟩;(conv=>whnf);refine (c38 h4).go ?_;(conv=>whnf);refine ⟨by repeat (first | exact trivial | refine And.intro rfl ?_), ?_⟩;(conv=>whnf);refine ⟨?_, trivial⟩;(conv=>whnf);refine app_o (l := ([] : List (ByteArray × Int))) (m := a3) (f := e_SI) H (by rfl) (by rfl) (by rfl) (fun H => ?_);(conv=>whnf);refine ⟨by repeat (first | exact trivial | refine And.intro rfl ?_), ?_⟩;(conv=>whnf);refine ⟨?_, trivial⟩;(conv=>whnf)
      refine ⟨by repeat (first | exact trivial | refine And.intro rfl ?_), ?_⟩;(conv=>whnf);refine pw_ret ?_;(conv=>whnf);cases H; show ∃ D, Fz _ D 0 (.agg ⟨[(VS 1 _), (VS 1 _), (.int .i64 a2), (VT 2 _ 2)]⟩) _;exact ⟨fun _ => false, .aggl (.cons .cl (.cons .cl (.cons .cl (.cons .vtc (.nil)))))⟩
  · obtain ⟨y1, h2, H⟩ := obnd_some H;obtain ⟨y3, h4, H⟩ := obnd_some H;(conv=>whnf);refine ⟨?_, trivial⟩;(conv=>whnf);refine ⟨by repeat (first | exact trivial | refine And.intro rfl ?_), ?_⟩;(conv=>whnf);refine ⟨?_, trivial⟩;(conv=>whnf);refine (c38 h2).go ?_;(conv=>whnf);refine ⟨by repeat (first | exact trivial | refine And.intro rfl ?_), ?_⟩;(conv=>whnf);refine ⟨?_, trivial⟩;(conv=>whnf);refine (c38 h4).go ?_;(conv=>whnf);refine ⟨by repeat (first | exact trivial | refine And.intro rfl ?_), ?_⟩;(conv=>whnf);refine ⟨?_, trivial⟩;(conv=>whnf);refine app_o (l := ([] : List (ByteArray × Int))) (m := a3) (f := e_SI) H (by rfl) (by rfl) (by rfl) (fun H => ?_)
    (conv=>whnf);refine ⟨by repeat (first | exact trivial | refine And.intro rfl ?_), ?_⟩;(conv=>whnf);refine ⟨?_, trivial⟩;(conv=>whnf);refine ⟨by repeat (first | exact trivial | refine And.intro rfl ?_), ?_⟩;(conv=>whnf);refine pw_ret ?_;(conv=>whnf);cases H; show ∃ D, Fz _ D 0 (.agg ⟨[(VS 1 _), (VS 1 _), (.int .i64 a2), (VT 2 _ 2)]⟩) _;exact ⟨fun _ => false, .aggl (.cons .cl (.cons .cl (.cons .cl (.cons .vtc (.nil)))))⟩

/-- guidevane/dam.unless -/
noncomputable def f64  (a0 : Bool) (a1 : Int) : Option Int :=
  oite a0 (
   some (0 : Int)
    ) (
   some a1
    )
set_option maxHeartbeats 1000000 in
theorem c64  {a0 : Bool} {a1 : Int} {x : Int} (H : f64 a0 a1 = some x) : ICalls E 64 [(.bool a0), (.int .i64 a1)] AHeap.none fun v _ => v = (.int .i64 x) := by
  refine icalls_fn (pfnw rfl ?_); unfold f64 at H;(conv=>whnf);refine pw_so ?_;refine po_all ?_;(conv=>whnf);refine pw_seq ?_;refine pw_so ?_;refine po_all ?_;(conv=>whnf);refine pw_cond ?_;(conv=>whnf);refine pbr_oite H (fun _ H => ?_) (fun _ H => ?_)
  · (conv=>whnf);refine pw_so ?_;refine po_all ?_;(conv=>whnf);refine pw_ret ?_;(conv=>whnf);cases H; rfl
  · (conv=>whnf);refine pw_skip ?_;(conv=>whnf);refine pw_so ?_;refine po_all ?_;(conv=>whnf);refine pw_ret ?_;(conv=>whnf);cases H; rfl

/-- guidevane/dam.first -/
noncomputable def f63  (a0 : List Int) : Option Int :=
  obndS (
   oloop (τ := Int) (ρ := (Unit) ⊕ Int) (fun e5 =>
    oite ((ilt e5 ((a0.map eI).length : Int))) (
     ogrd ((ile 0 e5)) (
     obnd (a0[e5.toNat]?) fun (x8 : Int) =>
     oite ((!(ieq x8 (0 : Int)))) (
      some (.inr (.inr (x8)))
       ) (
      some (.inl (IntKind.i64.wrap (e5 + (1 : Int))))
       )
     )
      ) (
     some (.inr (.inl ()))
      )
     ) (0 : Int)
    ) fun (_ : Unit) =>
  some (0 : Int)
set_option maxHeartbeats 1000000 in
theorem c63  {a0 : List Int} {x : Int} (H : f63 a0 = some x) : ICalls E 63 [(VS 1 (a0.map eI))] AHeap.none fun v _ => v = (.int .i64 x) := by
  refine icalls_fn (pfnw rfl ?_); unfold f63 at H;(conv=>whnf);refine pw_so ?_;refine po_all ?_;(conv=>whnf);obtain ⟨r1, h2, h3, h4⟩ := obndS_some H;refine pw_joinS (ρ := Unit) (fun e => ⟨[], ⟨0, [], false⟩⟩) r1 ?_ ?_
  · refine pw_so ?_;refine po_all ?_;(conv=>whnf);refine pw_block ?_;refine pw_loop (τ := Int) (fun e => ⟨[(5, (VS 1 (a0.map eI))), (6, (.int .i64 ((a0.map eI).length : Int))), (7, (.int .i64 e))], ⟨0, [], false⟩⟩) h2 ?_ (fun _ => Nat.le_of_ble_eq_true rfl) ?_
    · exact .sub' (Nat.le_of_ble_eq_true rfl) (.cons rfl (.cons rfl (.cons rfl .nil)))
    · intro e5 x6 h7;refine pw_so ?_;refine po_all ?_;(conv=>whnf);refine pw_seq ?_;refine pw_cond ?_;(conv=>whnf);refine pbr_oite h7 (fun _ h7 => ?_) (fun _ h7 => ?_)
      · (conv=>whnf);refine pw_skip ?_;(conv=>whnf);refine pw_seq ?_;refine pw_block ?_;refine pw_so ?_;refine po_all ?_;(conv=>whnf);refine pbr_ogrd h7 (fun _ h7 => ?_);(conv=>whnf);refine nth_o (l := a0) h7 (fun x8 _ h7 => ?_);(conv=>whnf);refine pw_so ?_;refine po_all ?_;(conv=>whnf);refine pw_cond ?_;(conv=>whnf);refine pbr_oite h7 (fun _ h7 => ?_) (fun _ h7 => ?_)
        · (conv=>whnf);refine pw_so ?_;refine po_all ?_;(conv=>whnf);refine pw_ret ?_;(conv=>whnf);cases h7;refine ⟨_, rfl, ?_⟩; rintro rfl;(conv=>whnf);obtain rfl := h4 _ rfl; rfl
        · (conv=>whnf);refine pw_skip ?_;(conv=>whnf);refine pw_ops ?_;refine po_all ?_;(conv=>whnf);cases h7;refine ⟨_, rfl, ?_⟩;exact .sub' (Nat.le_of_ble_eq_true rfl) (.cons rfl (.cons rfl (.cons rfl .nil)))
      · (conv=>whnf);refine pw_exit ?_;(conv=>whnf);cases h7;refine ⟨_, rfl, ?_⟩; rintro rfl;(conv=>whnf);exact ⟨_, rfl, ⟨.nil, rfl⟩⟩
  · intro r11 hr; have H := h3 _ hr;refine pw_so ?_;refine po_all ?_;(conv=>whnf);refine pw_ret ?_;(conv=>whnf);cases H; rfl

/-- guidevane/dam.within -/
noncomputable def f65  (a0 : Int) (a1 : Int) (a2 : Int) : Option Bool :=
  obnd (
   oite ((ile a1 a0)) (
    some (ile a0 a2)
     ) (
    some false
     )
    ) fun (r1 : Bool) =>
  some r1
set_option maxHeartbeats 1000000 in
theorem c65  {a0 : Int} {a1 : Int} {a2 : Int} {x : Bool} (H : f65 a0 a1 a2 = some x) : ICalls E 65 [(.int .i64 a0), (.int .i64 a1), (.int .i64 a2)] AHeap.none fun v _ => v = (.bool x) := by
  refine icalls_fn (pfnw rfl ?_); unfold f65 at H;(conv=>whnf);refine pw_so ?_;refine po_all ?_;(conv=>whnf);refine pw_so ?_;refine po_ops 4 ?_;(conv=>whnf);obtain ⟨r1, h2, H⟩ := obnd_some H;refine po_seg (τ := Bool) 4 (fun e => ⟨[(14, (.bool e))], ⟨0, [], false⟩⟩) r1 ?_ ?_
  · refine po_all ?_;(conv=>whnf);refine pbr_oite h2 (fun _ h2 => ?_) (fun _ h2 => ?_)
    · (conv=>whnf);refine pbr_t (by assumption) ?_;(conv=>whnf);refine pbr_t (by assumption) ?_;(conv=>whnf);refine pbr_t (by assumption) ?_;(conv=>whnf);cases h2;exact ⟨(.cons rfl .nil), rfl⟩
    · (conv=>whnf);refine pbr_f (by assumption) ?_;(conv=>whnf);refine pbr_f (by assumption) ?_;(conv=>whnf);refine pbr_f (by assumption) ?_;(conv=>whnf);cases h2;exact ⟨(.cons rfl .nil), rfl⟩
  · refine po_all ?_;(conv=>whnf);refine pw_ret ?_;(conv=>whnf);cases H; rfl

/-- guidevane/dam.CheckRules$1 -/
noncomputable def f85  (a0 : Int) : Option Bool :=
  obnd (f65 a0 (1 : Int) (1000000 : Int)) fun (y1 : Bool) =>
  some y1
set_option maxHeartbeats 1000000 in
theorem c85  {a0 : Int} {x : Bool} (H : f85 a0 = some x) : ICalls E 85 [(.int .i64 a0)] AHeap.none fun v _ => v = (.bool x) := by
  refine icalls_fn (pfnw rfl ?_); unfold f85 at H;(conv=>whnf);refine pw_so ?_;refine po_all ?_;(conv=>whnf);refine pw_so ?_;refine po_all ?_;(conv=>whnf);obtain ⟨y1, h2, H⟩ := obnd_some H;refine (c65 h2).go ?_;(conv=>whnf);refine pw_ret ?_;(conv=>whnf);cases H; rfl

/-- slices.IndexFunc[[]guidevane/api.DamPerson,guidevane/api.DamPerson] -/
noncomputable def f110 (p0 : ByteArray → Int → Option Bool) (a0 : List (ByteArray × Int)) : Option Int :=
  obndS (
   oloop (τ := Int) (ρ := (Unit) ⊕ Int) (fun e5 =>
    oite ((ilt e5 ((a0.map e_SI).length : Int))) (
     ogrd ((ile 0 e5)) (
     obnd (a0[e5.toNat]?) fun (x8 : ByteArray × Int) =>
     obnd (p0 x8.1 x8.2) fun (y9 : Bool) =>
     oite y9 (
      some (.inr (.inr (e5)))
       ) (
      some (.inl (IntKind.i64.wrap (e5 + (1 : Int))))
       )
     )
      ) (
     some (.inr (.inl ()))
      )
     ) (0 : Int)
    ) fun (_ : Unit) =>
  some (-1 : Int)
set_option maxHeartbeats 1000000 in
theorem c110 {p0 : ByteArray → Int → Option Bool} {a0 : List (ByteArray × Int)} {g0 : Value} [Cl g0] (hp0 : ∀ y0 y1 y, p0 y0 y1 = some y → ICallV E g0 [(.agg ⟨[(.string y0), (.int .i64 y1)]⟩)] AHeap.none fun v _ => v = (.bool y)) {x : Int} (H : f110 p0 a0 = some x) : ICalls E 110 [(VS 2 (a0.map e_SI)), g0] AHeap.none fun v _ => v = (.int .i64 x) := by
  refine icalls_fn (pfnw rfl ?_); unfold f110 at H;(conv=>whnf);refine pw_so ?_;refine po_all ?_;(conv=>whnf);obtain ⟨r1, h2, h3, h4⟩ := obndS_some H;refine pw_joinS (ρ := Unit) (fun e => ⟨[], ⟨0, [], false⟩⟩) r1 ?_ ?_
  · refine pw_so ?_;refine po_all ?_;(conv=>whnf);refine pw_block ?_;refine pw_loop (τ := Int) (fun e => ⟨[(0, (VS 2 (a0.map e_SI))), (1, g0), (7, (.int .i64 ((a0.map e_SI).length : Int))), (8, (.int .i64 e))], ⟨0, [], false⟩⟩) h2 ?_ (fun _ => Nat.le_of_ble_eq_true rfl) ?_
    · exact .sub' (Nat.le_of_ble_eq_true rfl) (.cons rfl (.cons rfl (.cons rfl (.cons rfl .nil))))
    · intro e5 x6 h7;refine pw_so ?_;refine po_all ?_;(conv=>whnf);refine pw_seq ?_;refine pw_cond ?_;(conv=>whnf);refine pbr_oite h7 (fun _ h7 => ?_) (fun _ h7 => ?_)
      · (conv=>whnf);refine pw_skip ?_;(conv=>whnf);refine pw_seq ?_;refine pw_block ?_;refine pw_so ?_;refine po_all ?_;(conv=>whnf);refine pw_so ?_;refine po_all ?_;(conv=>whnf);refine pbr_ogrd h7 (fun _ h7 => ?_);(conv=>whnf);refine nth_o (l := a0) h7 (fun x8 _ h7 => ?_);(conv=>whnf);obtain ⟨y9, h10, h7⟩ := obnd_some h7;refine ICallV.go (hp0 _ _ _ h10) ?_;(conv=>whnf);refine pw_cond ?_;(conv=>whnf);refine pbr_oite h7 (fun _ h7 => ?_) (fun _ h7 => ?_)
        · (conv=>whnf);refine pw_so ?_;refine po_all ?_;(conv=>whnf);refine pw_ret ?_;(conv=>whnf);cases h7;refine ⟨_, rfl, ?_⟩; rintro rfl;(conv=>whnf);obtain rfl := h4 _ rfl; rfl
        · (conv=>whnf);refine pw_skip ?_;(conv=>whnf);refine pw_ops ?_;refine po_all ?_;(conv=>whnf);cases h7;refine ⟨_, rfl, ?_⟩;exact .sub' (Nat.le_of_ble_eq_true rfl) (.cons rfl (.cons rfl (.cons rfl (.cons rfl .nil))))
      · (conv=>whnf);refine pw_exit ?_;(conv=>whnf);cases h7;refine ⟨_, rfl, ?_⟩; rintro rfl;(conv=>whnf);exact ⟨_, rfl, ⟨.nil, rfl⟩⟩
  · intro r13 hr; have H := h3 _ hr;refine pw_so ?_;refine po_all ?_;(conv=>whnf);refine pw_ret ?_;(conv=>whnf);cases H; rfl

/-- slices.ContainsFunc[[]guidevane/api.DamPerson,guidevane/api.DamPerson] -/
noncomputable def f86 (p0 : ByteArray → Int → Option Bool) (a0 : List (ByteArray × Int)) : Option Bool :=
  obnd (f110 p0 a0) fun (y1 : Int) =>
  some (ile (0 : Int) y1)
set_option maxHeartbeats 1000000 in
theorem c86 {p0 : ByteArray → Int → Option Bool} {a0 : List (ByteArray × Int)} {g0 : Value} [Cl g0] (hp0 : ∀ y0 y1 y, p0 y0 y1 = some y → ICallV E g0 [(.agg ⟨[(.string y0), (.int .i64 y1)]⟩)] AHeap.none fun v _ => v = (.bool y)) {x : Bool} (H : f86 p0 a0 = some x) : ICalls E 86 [(VS 2 (a0.map e_SI)), g0] AHeap.none fun v _ => v = (.bool x) := by
  refine icalls_fn (pfnw rfl ?_); unfold f86 at H;(conv=>whnf);refine pw_so ?_;refine po_all ?_;(conv=>whnf);refine pw_so ?_;refine po_all ?_;(conv=>whnf);obtain ⟨y1, h2, H⟩ := obnd_some H;refine (c110 hp0 h2).go ?_;(conv=>whnf);refine pw_ret ?_;(conv=>whnf);cases H; rfl

/-- guidevane/dam.CheckRules$2 -/
noncomputable def f87  (a0 : ByteArray) (_ : Int) (a2 : ByteArray) (_ : Int) : Option Bool :=
  some (a0.toList == a2.toList)
set_option maxHeartbeats 1000000 in
theorem c87  {a0 : ByteArray} {a1 : Int} {a2 : ByteArray} {a3 : Int} {x : Bool} (H : f87 a0 a1 a2 a3 = some x) : ICallV E (.func (.func (E.id 87)) ⟨[]⟩ ⟨[(VP (.agg ⟨[(.string a2), (.int .i64 a3)]⟩) 0)]⟩) [(.agg ⟨[(.string a0), (.int .i64 a1)]⟩)] AHeap.none fun v _ => v = (.bool x) := by
  refine icallv_fn (pfnw rfl ?_); unfold f87 at H;(conv=>whnf);refine pw_so ?_;refine po_all ?_;(conv=>whnf);refine pw_so ?_;refine po_all ?_;(conv=>whnf);refine pw_ret ?_;(conv=>whnf);cases H; rfl

/-- guidevane/dam.isLetter -/
noncomputable def f111  (a0 : Int) : Option Bool :=
  obnd (f65 (IntKind.i64.wrap a0) (97 : Int) (122 : Int)) fun (y1 : Bool) =>
  obnd (
   oite y1 (
    some true
     ) (
    obnd (f65 (IntKind.i64.wrap a0) (65 : Int) (90 : Int)) fun (y5 : Bool) =>
    some y5
     )
    ) fun (r3 : Bool) =>
  some r3
set_option maxHeartbeats 1000000 in
theorem c111  {a0 : Int} {x : Bool} (H : f111 a0 = some x) : ICalls E 111 [(.int .u8 a0)] AHeap.none fun v _ => v = (.bool x) := by
  refine icalls_fn (pfnw rfl ?_); unfold f111 at H;(conv=>whnf);refine pw_so ?_;refine po_all ?_;(conv=>whnf);refine pw_so ?_;refine po_ops 4 ?_;(conv=>whnf);obtain ⟨y1, h2, H⟩ := obnd_some H;refine (c65 h2).go ?_;(conv=>whnf);obtain ⟨r3, h4, H⟩ := obnd_some H;refine po_seg (τ := Bool) 4 (fun e => ⟨[(10, (.bool e))], ⟨0, [], false⟩⟩) r3 ?_ ?_
  · refine po_all ?_;(conv=>whnf);refine pbr_oite h4 (fun _ h4 => ?_) (fun _ h4 => ?_)
    · (conv=>whnf);refine pbr_t (by assumption) ?_;(conv=>whnf);refine pbr_t (by assumption) ?_;(conv=>whnf);refine pbr_t (by assumption) ?_;(conv=>whnf);cases h4;exact ⟨(.cons rfl .nil), rfl⟩
    · (conv=>whnf);refine pbr_f (by assumption) ?_;(conv=>whnf);refine pbr_f (by assumption) ?_;(conv=>whnf);obtain ⟨y5, h6, h4⟩ := obnd_some h4;refine (c65 h6).go ?_;(conv=>whnf);refine pbr_f (by assumption) ?_;(conv=>whnf);cases h4;exact ⟨(.cons rfl .nil), rfl⟩
  · refine po_all ?_;(conv=>whnf);refine pw_ret ?_;(conv=>whnf);cases H; rfl

/-- guidevane/dam.isName -/
noncomputable def f88  (a0 : ByteArray) : Option Bool :=
  obndS (
   oloop (τ := Int) (ρ := (Unit) ⊕ Bool) (fun e5 =>
    oite ((ilt e5 ((a0.data.toList.map eY).length : Int))) (
     ogrd ((ile 0 e5)) (
     obnd (a0.data.toList[e5.toNat]?) fun (x8 : UInt8) =>
     obnd (
      obnd (f111 (x8.toNat : Int)) fun (y13 : Bool) =>
      oite (!y13) (
       obnd (
        oite ((ieq e5 (0 : Int))) (
         some true
          ) (
         oite ((!(ieq (x8.toNat : Int) (45 : Int)))) (
          obnd (f65 (IntKind.i64.wrap (x8.toNat : Int)) (48 : Int) (57 : Int)) fun (y17 : Bool) =>
          some (!y17)
           ) (
          some false
           )
          )
         ) fun (r15 : Bool) =>
       some r15
        ) (
       some false
        )
       ) fun (r9 : Bool) =>
     oite r9 (
      some (.inr (.inr (false)))
       ) (
      some (.inl (IntKind.i64.wrap (e5 + (1 : Int))))
       )
     )
      ) (
     some (.inr (.inl ()))
      )
     ) (0 : Int)
    ) fun (_ : Unit) =>
  obnd (f65 (a0.size : Int) (1 : Int) (12 : Int)) fun (y22 : Bool) =>
  some y22
set_option maxHeartbeats 1000000 in
theorem c88  {a0 : ByteArray} {x : Bool} (H : f88 a0 = some x) : ICalls E 88 [(.string a0)] AHeap.none fun v _ => v = (.bool x) := by
  refine icalls_fn (pfnw rfl ?_); unfold f88 at H;(conv=>whnf);refine pw_so ?_;refine po_all ?_;(conv=>whnf);obtain ⟨r1, h2, h3, h4⟩ := obndS_some H;refine pw_joinS (ρ := Unit) (fun e => ⟨[(0, (.string a0))], ⟨0, [], false⟩⟩) r1 ?_ ?_
  · refine pw_so ?_;refine po_all ?_;(conv=>whnf);refine pw_block ?_;refine pw_loop (τ := Int) (fun e => ⟨[(0, (.string a0)), (6, (VS 1 (a0.data.toList.map eY))), (7, (.int .i64 ((a0.data.toList.map eY).length : Int))), (8, (.int .i64 e))], ⟨0, [], false⟩⟩) h2 ?_ (fun _ => Nat.le_of_ble_eq_true rfl) ?_
    · exact .sub' (Nat.le_of_ble_eq_true rfl) (.cons rfl (.cons rfl (.cons rfl (.cons rfl .nil))))
    · intro e5 x6 h7;refine pw_so ?_;refine po_all ?_;(conv=>whnf);refine pw_seq ?_;refine pw_cond ?_;(conv=>whnf);refine pbr_oite h7 (fun _ h7 => ?_) (fun _ h7 => ?_)
      · (conv=>whnf);refine pw_skip ?_;(conv=>whnf);refine pw_seq ?_;refine pw_block ?_;refine pw_so ?_;refine po_all ?_;(conv=>whnf);refine pbr_ogrd h7 (fun _ h7 => ?_);(conv=>whnf);refine nth_o (l := a0.data.toList) h7 (fun x8 _ h7 => ?_);(conv=>whnf);obtain ⟨r9, h10, h7⟩ := obnd_some h7;refine pw_join (ρ := Bool) (fun e => ⟨[(0, (.string a0)), (6, (VS 1 (a0.data.toList.map eY))), (7, (.int .i64 ((a0.data.toList.map eY).length : Int))), (8, (.int .i64 e5)), (29, (.bool e))], ⟨0, [], false⟩⟩) r9 ?_ ?_
        · refine pw_ops ?_;refine po_ops 7 ?_;(conv=>whnf);obtain ⟨y13, h14, h10⟩ := obnd_some h10;refine (c111 h14).go ?_;(conv=>whnf);refine pbr_oite h10 (fun _ h10 => ?_) (fun _ h10 => ?_)
          · (conv=>whnf);refine pbr_t (by assumption) ?_;(conv=>whnf);refine pbr_t (by assumption) ?_;(conv=>whnf);obtain ⟨r15, h16, h10⟩ := obnd_some h10;refine po_seg (τ := Bool) 9 (fun e => ⟨[(0, (.string a0)), (6, (VS 1 (a0.data.toList.map eY))), (7, (.int .i64 ((a0.data.toList.map eY).length : Int))), (8, (.int .i64 e5)), (16, (.bool (!y13))), (17, (.int .i64 e5)), (18, (.bool (ieq e5 (0 : Int)))), (19, (.bool (ieq e5 (0 : Int)))), (28, (.bool e))], ⟨0, [], false⟩⟩) r15 ?_ ?_
            · refine po_all ?_;(conv=>whnf);refine pbr_oite h16 (fun _ h16 => ?_) (fun _ h16 => ?_)
              · (conv=>whnf);refine pbr_t (by assumption) ?_;(conv=>whnf);refine pbr_t (by assumption) ?_;(conv=>whnf);refine pbr_t (by assumption) ?_;(conv=>whnf);refine pbr_t (by assumption) ?_;(conv=>whnf);refine pbr_t (by assumption) ?_;(conv=>whnf);cases h16;exact ⟨(.cons rfl (.cons rfl (.cons rfl (.cons rfl (.cons rfl (.cons rfl (.cons rfl (.cons rfl (.cons rfl .nil))))))))), rfl⟩
              · (conv=>whnf);refine pbr_f (by assumption) ?_;(conv=>whnf);refine pbr_f (by assumption) ?_;(conv=>whnf);refine pbr_oite h16 (fun _ h16 => ?_) (fun _ h16 => ?_)
                · (conv=>whnf);refine pbr_t (by assumption) ?_;(conv=>whnf);refine pbr_t (by assumption) ?_;(conv=>whnf);obtain ⟨y17, h18, h16⟩ := obnd_some h16;refine (c65 h18).go ?_;(conv=>whnf);refine pbr_t (by assumption) ?_;(conv=>whnf);refine pbr_f (by assumption) ?_;(conv=>whnf);refine pbr_t (by assumption) ?_;(conv=>whnf);refine pbr_t (by assumption) ?_;(conv=>whnf);refine pbr_f (by assumption) ?_;(conv=>whnf);cases h16;exact ⟨(.cons rfl (.cons rfl (.cons rfl (.cons rfl (.cons rfl (.cons rfl (.cons rfl (.cons rfl (.cons rfl .nil))))))))), rfl⟩
                · (conv=>whnf);refine pbr_f (by assumption) ?_;(conv=>whnf);refine pbr_f (by assumption) ?_;(conv=>whnf);refine pbr_f (by assumption) ?_;(conv=>whnf);refine pbr_f (by assumption) ?_;(conv=>whnf);refine pbr_f (by assumption) ?_;(conv=>whnf);refine pbr_t (by assumption) ?_;(conv=>whnf);refine pbr_f (by assumption) ?_;(conv=>whnf);cases h16;exact ⟨(.cons rfl (.cons rfl (.cons rfl (.cons rfl (.cons rfl (.cons rfl (.cons rfl (.cons rfl (.cons rfl .nil))))))))), rfl⟩
            · refine po_all ?_;(conv=>whnf);refine pbr_t (by assumption) ?_;(conv=>whnf);cases h10;exact ⟨(.cons rfl (.cons rfl (.cons rfl (.cons rfl (.cons rfl .nil))))), rfl⟩
          · (conv=>whnf);refine pbr_f (by assumption) ?_;(conv=>whnf);refine pbr_f (by assumption) ?_;(conv=>whnf);refine po_ops 9 ?_;(conv=>whnf);refine pbr_f (by assumption) ?_;(conv=>whnf);refine po_all ?_;(conv=>whnf);refine pbr_f (by assumption) ?_;(conv=>whnf);cases h10;exact ⟨(.cons rfl (.cons rfl (.cons rfl (.cons rfl (.cons rfl .nil))))), rfl⟩
        · refine pw_cond ?_;(conv=>whnf);refine pbr_oite h7 (fun _ h7 => ?_) (fun _ h7 => ?_)
          · (conv=>whnf);refine pw_so ?_;refine po_all ?_;(conv=>whnf);refine pw_ret ?_;(conv=>whnf);cases h7;refine ⟨_, rfl, ?_⟩; rintro rfl;(conv=>whnf);obtain rfl := h4 _ rfl; rfl
          · (conv=>whnf);refine pw_skip ?_;(conv=>whnf);refine pw_ops ?_;refine po_all ?_;(conv=>whnf);cases h7;refine ⟨_, rfl, ?_⟩;exact .sub' (Nat.le_of_ble_eq_true rfl) (.cons rfl (.cons rfl (.cons rfl (.cons rfl .nil))))
      · (conv=>whnf);refine pw_exit ?_;(conv=>whnf);cases h7;refine ⟨_, rfl, ?_⟩; rintro rfl;(conv=>whnf);exact ⟨_, rfl, ⟨(.cons rfl .nil), rfl⟩⟩
  · intro r21 hr; have H := h3 _ hr;refine pw_so ?_;refine po_all ?_;(conv=>whnf);obtain ⟨y22, h23, H⟩ := obnd_some H;refine (c65 h23).go ?_;(conv=>whnf);refine pw_ret ?_;(conv=>whnf);cases H; rfl

/-- guidevane/dam.CheckRules -/
noncomputable def f43  (a0 : List Int) (a1 : List Int) (a2 : Int) (a3 : List (ByteArray × Int)) : Option (Int × Int) :=
  obnd (
   oite ((ilt (0 : Int) ((a0.map eI).length : Int))) (
    some (ieq ((a1.map eI).length : Int) ((a0.map eI).length : Int))
     ) (
    some false
     )
    ) fun (r1 : Bool) =>
  obnd (f64 r1 (10 : Int)) fun (y3 : Int) =>
  obnd (f64 ((ile ((a0.map eI).length : Int) (5 : Int))) (8 : Int)) fun (y5 : Int) =>
  obnd (f63 ([y3, y5] : List Int)) fun (y7 : Int) =>
  oite ((!(ieq y7 (0 : Int)))) (
   some ((0 : Int), y7)
    ) (
   obndS (
    oloop (τ := Int) (ρ := (Unit) ⊕ (Int × Int)) (fun e13 =>
     oite ((ilt e13 ((a0.map eI).length : Int))) (
      ogrd ((ile 0 e13)) (
      obnd (a0[e13.toNat]?) fun (x16 : Int) =>
      obnd (a1[e13.toNat]?) fun (x17 : Int) =>
      obnd (f85 x16) fun (y18 : Bool) =>
      obnd (
       oite y18 (
        obnd (f85 x17) fun (y22 : Bool) =>
        some y22
         ) (
        some false
         )
        ) fun (r20 : Bool) =>
      obnd (f64 r20 (2 : Int)) fun (y24 : Int) =>
      obnd (f64 (ile x17 x16) (3 : Int)) fun (y26 : Int) =>
      obnd (
       oite ((ieq e13 (0 : Int))) (
        some true
         ) (
        ogrd ((ile 0 (imax (0 : Int) (IntKind.i64.wrap (e13 - (1 : Int)))))) (
        obnd (a0[(imax (0 : Int) (IntKind.i64.wrap (e13 - (1 : Int)))).toNat]?) fun (x30 : Int) =>
        oite ((ilt x30 x16)) (
         obnd (a1[(imax (0 : Int) (IntKind.i64.wrap (e13 - (1 : Int)))).toNat]?) fun (x31 : Int) =>
         some (ile x31 x17)
          ) (
         some false
          )
        )
         )
        ) fun (r28 : Bool) =>
      obnd (f64 r28 (9 : Int)) fun (y32 : Int) =>
      obnd (f63 ([y24, y26, y32] : List Int)) fun (y34 : Int) =>
      oite ((!(ieq y34 (0 : Int)))) (
       some (.inr (.inr ((e13, y34))))
        ) (
       some (.inl (IntKind.i64.wrap (e13 + (1 : Int))))
        )
      )
       ) (
      some (.inr (.inl ()))
       )
      ) (0 : Int)
     ) fun (_ : Unit) =>
   obnd (f65 a2 (0 : Int) (1000000 : Int)) fun (y39 : Bool) =>
   obnd (f64 y39 (2 : Int)) fun (y41 : Int) =>
   obnd (f64 ((ile ((a3.map e_SI).length : Int) (10 : Int))) (8 : Int)) fun (y43 : Int) =>
   obnd (f63 ([y41, y43] : List Int)) fun (y45 : Int) =>
   oite ((!(ieq y45 (0 : Int)))) (
    some ((0 : Int), y45)
     ) (
    obndS (
     oloop (τ := Int) (ρ := (Unit) ⊕ (Int × Int)) (fun e51 =>
      oite ((ilt e51 ((a3.map e_SI).length : Int))) (
       ogrd ((ile 0 e51)) (
       obnd (a3[e51.toNat]?) fun (x54 : ByteArray × Int) =>
       obnd (oslH a3 e51) fun (m55 : List (ByteArray × Int)) =>
       obnd (f86 (fun (z0 : ByteArray) (z1 : Int) => f87 z0 z1 x54.1 x54.2) m55) fun (y58 : Bool) =>
       obnd (f88 x54.1) fun (y60 : Bool) =>
       obnd (f64 y60 (4 : Int)) fun (y62 : Int) =>
       obnd (f64 (!y58) (5 : Int)) fun (y64 : Int) =>
       obnd (f65 x54.2 (1 : Int) ((a0.map eI).length : Int)) fun (y66 : Bool) =>
       obnd (f64 y66 (2 : Int)) fun (y68 : Int) =>
       obnd (f63 ([y62, y64, y68] : List Int)) fun (y70 : Int) =>
       oite ((!(ieq y70 (0 : Int)))) (
        some (.inr (.inr ((e51, y70))))
         ) (
        some (.inl (IntKind.i64.wrap (e51 + (1 : Int))))
         )
       )
        ) (
       some (.inr (.inl ()))
        )
       ) (0 : Int)
      ) fun (_ : Unit) =>
    some ((0 : Int), (0 : Int))
     )
    )
set_option maxHeartbeats 1000000 in
theorem c43  {a0 : List Int} {a1 : List Int} {a2 : Int} {a3 : List (ByteArray × Int)} {x : Int × Int} (H : f43 a0 a1 a2 a3 = some x) : ICalls E 43 [(.agg ⟨[(VS 1 (a0.map eI)), (VS 1 (a1.map eI)), (.int .i64 a2), (VS 2 (a3.map e_SI))]⟩)] AHeap.none fun v _ => v = (.tuple ⟨[(.int .i64 x.1), (.int .i64 x.2)]⟩) := by
  refine icalls_fn (pfnw rfl ?_); unfold f43 at H;(conv=>whnf);refine pw_so ?_;refine po_all ?_;(conv=>whnf);refine pw_so ?_;refine po_all ?_;(conv=>whnf);refine pw_seq ?_;refine pw_so ?_;refine po_ops 3 ?_;(conv=>whnf);obtain ⟨r1, h2, H⟩ := obnd_some H;refine po_seg (τ := Bool) 6 (fun e => ⟨[(1, (.pointer (some ⟨0, 0, none⟩))), (4, (.int .i64 ((a0.map eI).length : Int))), (28, (.bool e))], ⟨1, [(0, .rw [(VS 1 (a0.map eI)), (VS 1 (a1.map eI)), (.int .i64 a2), (VS 2 (a3.map e_SI))])], false⟩⟩) r1 ?_ ?_
  · refine po_all ?_;(conv=>whnf);refine pbr_oite h2 (fun _ h2 => ?_) (fun _ h2 => ?_)
    · (conv=>whnf);refine pbr_t (by assumption) ?_;(conv=>whnf);refine pbr_t (by assumption) ?_;(conv=>whnf);refine pbr_t (by assumption) ?_;(conv=>whnf);refine pbr_t (by assumption) ?_;(conv=>whnf);refine pbr_t (by assumption) ?_;(conv=>whnf);cases h2;exact ⟨(.cons rfl (.cons rfl (.cons rfl .nil))), rfl⟩
    · (conv=>whnf);refine pbr_f (by assumption) ?_;(conv=>whnf);refine pbr_f (by assumption) ?_;(conv=>whnf);refine pbr_f (by assumption) ?_;(conv=>whnf);refine pbr_f (by assumption) ?_;(conv=>whnf);refine pbr_f (by assumption) ?_;(conv=>whnf);cases h2;exact ⟨(.cons rfl (.cons rfl (.cons rfl .nil))), rfl⟩
  · refine po_all ?_;(conv=>whnf);obtain ⟨y3, h4, H⟩ := obnd_some H;refine (c64 h4).go ?_;(conv=>whnf);obtain ⟨y5, h6, H⟩ := obnd_some H;refine (c64 h6).go ?_;(conv=>whnf);obtain ⟨y7, h8, H⟩ := obnd_some H;refine ICalls.goW (c63 h8) (.cons (.vt _ _ _) .nil) ?_;(conv=>whnf);refine pw_so ?_;refine po_all ?_;(conv=>whnf);refine pw_cond ?_;(conv=>whnf);refine pbr_oite H (fun _ H => ?_) (fun _ H => ?_)
    · (conv=>whnf);refine pw_so ?_;refine po_all ?_;(conv=>whnf);refine pw_ret ?_;(conv=>whnf);cases H; rfl
    · (conv=>whnf);refine pw_skip ?_;(conv=>whnf);refine pw_so ?_;refine po_all ?_;(conv=>whnf);obtain ⟨r9, h10, h11, h12⟩ := obndS_some H;refine pw_joinS (ρ := Unit) (fun e => ⟨[(1, (.pointer (some ⟨0, 0, none⟩))), (4, (.int .i64 ((a0.map eI).length : Int)))], ⟨2, [(1, .tail 2 1), (0, .rw [(VS 1 (a0.map eI)), (VS 1 (a1.map eI)), (.int .i64 a2), (VS 2 (a3.map e_SI))])], false⟩⟩) r9 ?_ ?_
      · refine pw_so ?_;refine po_all ?_;(conv=>whnf);refine pw_block ?_;refine pw_loop (τ := Int) (fun e => ⟨[(1, (.pointer (some ⟨0, 0, none⟩))), (4, (.int .i64 ((a0.map eI).length : Int))), (6, (.func (.func (E.id 85)) ⟨[]⟩ ⟨[]⟩)), (39, (VS 1 (a0.map eI))), (40, (.int .i64 ((a0.map eI).length : Int))), (41, (.int .i64 e))], ⟨2, [(1, .tail 2 1), (0, .rw [(VS 1 (a0.map eI)), (VS 1 (a1.map eI)), (.int .i64 a2), (VS 2 (a3.map e_SI))])], false⟩⟩) h10 ?_ (fun _ => Nat.le_of_ble_eq_true rfl) ?_
        · exact .sub' (Nat.le_of_ble_eq_true rfl) (.cons rfl (.cons rfl (.cons rfl (.cons rfl (.cons rfl (.cons rfl .nil))))))
        · intro e13 x14 h15;refine pw_so ?_;refine po_all ?_;(conv=>whnf);refine pw_seq ?_;refine pw_cond ?_;(conv=>whnf);refine pbr_oite h15 (fun _ h15 => ?_) (fun _ h15 => ?_)
          · (conv=>whnf);refine pw_skip ?_;(conv=>whnf);refine pw_seq ?_;refine pw_block ?_;refine pw_so ?_;refine po_all ?_;(conv=>whnf);refine pbr_ogrd h15 (fun _ h15 => ?_);(conv=>whnf);refine nth_o (l := a0) h15 (fun x16 _ h15 => ?_);(conv=>whnf);refine pw_so ?_;refine po_all ?_;(conv=>whnf);refine pbr_t (by assumption) ?_;(conv=>whnf);refine nth_o (l := a1) h15 (fun x17 _ h15 => ?_);(conv=>whnf);refine pw_so ?_;refine po_ops 4 ?_;(conv=>whnf);obtain ⟨y18, h19, h15⟩ := obnd_some h15;refine ICallV.go (c85 h19).asV ?_;(conv=>whnf);obtain ⟨r20, h21, h15⟩ := obnd_some h15;refine po_seg (τ := Bool) 4 (fun e => ⟨[(1, (.pointer (some ⟨0, 0, none⟩))), (4, (.int .i64 ((a0.map eI).length : Int))), (6, (.func (.func (E.id 85)) ⟨[]⟩ ⟨[]⟩)), (7, (.int .i64 e13)), (8, (.int .i64 x16)), (9, (.int .i64 x17)), (10, (.int .i64 (imax (0 : Int) (IntKind.i64.wrap (e13 - (1 : Int)))))), (39, (VS 1 (a0.map eI))), (40, (.int .i64 ((a0.map eI).length : Int))), (41, (.int .i64 e13)), (61, (.bool e))], ⟨2, [(1, .tail 2 1), (0, .rw [(VS 1 (a0.map eI)), (VS 1 (a1.map eI)), (.int .i64 a2), (VS 2 (a3.map e_SI))])], false⟩⟩) r20 ?_ ?_
            · refine po_all ?_;(conv=>whnf);refine pbr_oite h21 (fun _ h21 => ?_) (fun _ h21 => ?_)
              · (conv=>whnf);refine pbr_t (by assumption) ?_;(conv=>whnf);refine pbr_t (by assumption) ?_;(conv=>whnf);obtain ⟨y22, h23, h21⟩ := obnd_some h21;refine ICallV.go (c85 h23).asV ?_;(conv=>whnf);refine pbr_t (by assumption) ?_;(conv=>whnf);cases h21;exact ⟨(.cons rfl (.cons rfl (.cons rfl (.cons rfl (.cons rfl (.cons rfl (.cons rfl (.cons rfl (.cons rfl (.cons rfl (.cons rfl .nil))))))))))), rfl⟩
              · (conv=>whnf);refine pbr_f (by assumption) ?_;(conv=>whnf);refine pbr_f (by assumption) ?_;(conv=>whnf);refine pbr_f (by assumption) ?_;(conv=>whnf);cases h21;exact ⟨(.cons rfl (.cons rfl (.cons rfl (.cons rfl (.cons rfl (.cons rfl (.cons rfl (.cons rfl (.cons rfl (.cons rfl (.cons rfl .nil))))))))))), rfl⟩
            · refine po_ops 8 ?_;(conv=>whnf);obtain ⟨y24, h25, h15⟩ := obnd_some h15;refine (c64 h25).go ?_;(conv=>whnf);obtain ⟨y26, h27, h15⟩ := obnd_some h15;refine (c64 h27).go ?_;(conv=>whnf);obtain ⟨r28, h29, h15⟩ := obnd_some h15;refine po_seg (τ := Bool) 17 (fun e => ⟨[(1, (.pointer (some ⟨0, 0, none⟩))), (4, (.int .i64 ((a0.map eI).length : Int))), (6, (.func (.func (E.id 85)) ⟨[]⟩ ⟨[]⟩)), (7, (.int .i64 e13)), (39, (VS 1 (a0.map eI))), (40, (.int .i64 ((a0.map eI).length : Int))), (41, (.int .i64 e13)), (62, (.int .i64 y24)), (66, (.int .i64 y26)), (86, (.bool e))], ⟨2, [(1, .tail 2 1), (0, .rw [(VS 1 (a0.map eI)), (VS 1 (a1.map eI)), (.int .i64 a2), (VS 2 (a3.map e_SI))])], false⟩⟩) r28 ?_ ?_
              · refine po_all ?_;(conv=>whnf);refine pbr_oite h29 (fun _ h29 => ?_) (fun _ h29 => ?_)
                · (conv=>whnf);refine pbr_t (by assumption) ?_;(conv=>whnf);refine pbr_t (by assumption) ?_;(conv=>whnf);refine pbr_t (by assumption) ?_;(conv=>whnf);refine pbr_t (by assumption) ?_;(conv=>whnf);refine pbr_t (by assumption) ?_;(conv=>whnf);refine pbr_t (by assumption) ?_;(conv=>whnf);refine pbr_t (by assumption) ?_;(conv=>whnf);refine pbr_t (by assumption) ?_;(conv=>whnf);refine pbr_t (by assumption) ?_;(conv=>whnf);cases h29;exact ⟨(.cons rfl (.cons rfl (.cons rfl (.cons rfl (.cons rfl (.cons rfl (.cons rfl (.cons rfl (.cons rfl (.cons rfl .nil)))))))))), rfl⟩
                · (conv=>whnf);refine pbr_f (by assumption) ?_;(conv=>whnf);refine pbr_f (by assumption) ?_;(conv=>whnf);refine pbr_f (by assumption) ?_;(conv=>whnf);refine pbr_f (by assumption) ?_;(conv=>whnf);refine pbr_ogrd h29 (fun _ h29 => ?_);(conv=>whnf);refine nth_o (l := a0) h29 (fun x30 _ h29 => ?_);(conv=>whnf);refine pbr_f (by assumption) ?_;(conv=>whnf);refine pbr_f (by assumption) ?_;(conv=>whnf);refine pbr_f (by assumption) ?_;(conv=>whnf);refine pbr_oite h29 (fun _ h29 => ?_) (fun _ h29 => ?_)
                  · (conv=>whnf);refine pbr_t (by assumption) ?_;(conv=>whnf);refine pbr_t (by assumption) ?_;(conv=>whnf);refine pbr_t (by assumption) ?_;(conv=>whnf);refine pbr_t (by assumption) ?_;(conv=>whnf);refine pbr_t (by assumption) ?_;(conv=>whnf);refine nth_o (l := a1) h29 (fun x31 _ h29 => ?_);(conv=>whnf);refine pbr_t (by assumption) ?_;(conv=>whnf);refine pbr_t (by assumption) ?_;(conv=>whnf);refine pbr_f (by assumption) ?_;(conv=>whnf);refine pbr_t (by assumption) ?_;(conv=>whnf);refine pbr_f (by assumption) ?_;(conv=>whnf);cases h29;exact ⟨(.cons rfl (.cons rfl (.cons rfl (.cons rfl (.cons rfl (.cons rfl (.cons rfl (.cons rfl (.cons rfl (.cons rfl .nil)))))))))), rfl⟩
                  · (conv=>whnf);refine pbr_f (by assumption) ?_;(conv=>whnf);refine pbr_f (by assumption) ?_;(conv=>whnf);refine pbr_f (by assumption) ?_;(conv=>whnf);refine pbr_f (by assumption) ?_;(conv=>whnf);refine pbr_f (by assumption) ?_;(conv=>whnf);refine pbr_f (by assumption) ?_;(conv=>whnf);refine pbr_f (by assumption) ?_;(conv=>whnf);refine pbr_f (by assumption) ?_;(conv=>whnf);refine pbr_f (by assumption) ?_;(conv=>whnf);cases h29;exact ⟨(.cons rfl (.cons rfl (.cons rfl (.cons rfl (.cons rfl (.cons rfl (.cons rfl (.cons rfl (.cons rfl (.cons rfl .nil)))))))))), rfl⟩
              · refine po_all ?_;(conv=>whnf);obtain ⟨y32, h33, h15⟩ := obnd_some h15;refine (c64 h33).go ?_;(conv=>whnf);obtain ⟨y34, h35, h15⟩ := obnd_some h15;refine ICalls.goW (c63 h35) (.cons (.vt _ _ _) .nil) ?_;(conv=>whnf);refine pw_so ?_;refine po_all ?_;(conv=>whnf);refine pw_cond ?_;(conv=>whnf);refine pbr_oite h15 (fun _ h15 => ?_) (fun _ h15 => ?_)
                · (conv=>whnf);refine pw_so ?_;refine po_all ?_;(conv=>whnf);refine pw_ret ?_;(conv=>whnf);cases h15;refine ⟨_, rfl, ?_⟩; rintro rfl;(conv=>whnf);obtain rfl := h12 _ rfl; rfl
                · (conv=>whnf);refine pw_skip ?_;(conv=>whnf);refine pw_ops ?_;refine po_all ?_;(conv=>whnf);cases h15;refine ⟨_, rfl, ?_⟩;refine Recast.trunc (Nat.le_of_ble_eq_true rfl) ?_ ?_
                  · repeat (first | exact .nil | refine .cons rfl (by first | exact OBnd.rwc (Nat.le_of_ble_eq_true rfl) rfl | exact OBnd.tail (Nat.le_of_ble_eq_true rfl) | trivial) ?_)
                  · repeat (first | exact .nil | refine .cons rfl (by first | exact Bnd.ptr (Nat.le_of_ble_eq_true rfl) | exact Bnd.vt (Nat.le_of_ble_eq_true rfl) | exact Bnd.cl) ?_)
          · (conv=>whnf);refine pw_exit ?_;(conv=>whnf);cases h15;refine ⟨_, rfl, ?_⟩; rintro rfl;(conv=>whnf);exact ⟨_, rfl, ⟨(.cons rfl (.cons rfl .nil)), rfl⟩⟩
      · intro r38 hr; have H := h11 _ hr;refine pw_seq ?_;refine pw_sd ?_;(conv=>whnf);refine ⟨?_, trivial⟩;(conv=>whnf);obtain ⟨y39, h40, H⟩ := obnd_some H;refine (c65 h40).go ?_;(conv=>whnf);refine ⟨by repeat (first | exact trivial | refine And.intro rfl ?_), ?_⟩;(conv=>whnf);refine ⟨?_, trivial⟩;(conv=>whnf);obtain ⟨y41, h42, H⟩ := obnd_some H;refine (c64 h42).go ?_;(conv=>whnf);refine ⟨by repeat (first | exact trivial | refine And.intro rfl ?_), ?_⟩;(conv=>whnf);refine ⟨?_, trivial⟩;(conv=>whnf);obtain ⟨y43, h44, H⟩ := obnd_some H;refine (c64 h44).go ?_;(conv=>whnf);refine ⟨by repeat (first | exact trivial | refine And.intro rfl ?_), ?_⟩
        (conv=>whnf);refine ⟨?_, trivial⟩;(conv=>whnf);refine ⟨by repeat (first | exact trivial | refine And.intro rfl ?_), ?_⟩;(conv=>whnf);refine ⟨?_, trivial⟩;(conv=>whnf);obtain ⟨y45, h46, H⟩ := obnd_some H;refine ICalls.goW (c63 h46) (.cons (.vt _ _ _) .nil) ?_;(conv=>whnf);refine ⟨by repeat (first | exact trivial | refine And.intro rfl ?_), ?_⟩;(conv=>whnf);refine pw_so ?_;refine po_all ?_;(conv=>whnf);refine pw_cond ?_;(conv=>whnf);refine pbr_oite H (fun _ H => ?_) (fun _ H => ?_)
        · (conv=>whnf);refine pw_so ?_;refine po_all ?_;(conv=>whnf);refine pw_ret ?_;(conv=>whnf);cases H; rfl
        · (conv=>whnf);refine pw_skip ?_;(conv=>whnf);obtain ⟨r47, h48, h49, h50⟩ := obndS_some H;refine pw_joinS (ρ := Unit) (fun e => ⟨[], ⟨3, [(2, .tail 2 1), (1, .tail 2 1), (0, .rw [(VS 1 (a0.map eI)), (VS 1 (a1.map eI)), (.int .i64 a2), (VS 2 (a3.map e_SI))])], false⟩⟩) r47 ?_ ?_
          · refine pw_so ?_;refine po_all ?_;(conv=>whnf);refine pw_block ?_;refine pw_loop (τ := Int) (fun e => ⟨[(1, (.pointer (some ⟨0, 0, none⟩))), (4, (.int .i64 ((a0.map eI).length : Int))), (110, (VS 2 (a3.map e_SI))), (111, (.int .i64 ((a3.map e_SI).length : Int))), (112, (.int .i64 e))], ⟨3, [(2, .tail 2 1), (1, .tail 2 1), (0, .rw [(VS 1 (a0.map eI)), (VS 1 (a1.map eI)), (.int .i64 a2), (VS 2 (a3.map e_SI))])], false⟩⟩) h48 ?_ (fun _ => Nat.le_of_ble_eq_true rfl) ?_
            · exact .sub' (Nat.le_of_ble_eq_true rfl) (.cons rfl (.cons rfl (.cons rfl (.cons rfl (.cons rfl .nil)))))
            · intro e51 x52 h53;refine pw_so ?_;refine po_all ?_;(conv=>whnf);refine pw_seq ?_;refine pw_cond ?_;(conv=>whnf);refine pbr_oite h53 (fun _ h53 => ?_) (fun _ h53 => ?_)
              · (conv=>whnf);refine pw_skip ?_;(conv=>whnf);refine pw_seq ?_;refine pw_block ?_;refine pw_so ?_;refine po_all ?_;(conv=>whnf);refine pbr_ogrd h53 (fun _ h53 => ?_);(conv=>whnf);refine nth_o (l := a3) h53 (fun x54 _ h53 => ?_);(conv=>whnf);refine pw_so ?_;refine po_all ?_;(conv=>whnf);refine oslH_o (f := e_SI) h53 (fun m55 _ h53 h56 h57 => ?_);refine pbr_t (ile_t h56.1) ?_;(conv=>whnf);refine pbr_t (ile_t (by rw [List.length_map];exact h56.2)) ?_; rw [h57];(conv=>whnf);obtain ⟨y58, h59, h53⟩ := obnd_some h53;refine ICalls.goD (c86 (fun _ _ _ h => (c87 h)) h59) (.cons .cl (.cons (.func .nil (.cons (.ptr rfl (by intro v hv; simp only [List.mem_cons, List.not_mem_nil, or_false] at hv; rcases hv with rfl | rfl <;> rfl)) .nil)) .nil)) rfl ?_
                (conv=>whnf);refine pw_sd ?_;(conv=>whnf);refine ⟨?_, trivial⟩;(conv=>whnf);obtain ⟨y60, h61, h53⟩ := obnd_some h53;refine (c88 h61).go ?_;(conv=>whnf);refine ⟨by repeat (first | exact trivial | refine And.intro rfl ?_), ?_⟩;(conv=>whnf);refine ⟨?_, trivial⟩;(conv=>whnf);obtain ⟨y62, h63, h53⟩ := obnd_some h53;refine (c64 h63).go ?_;(conv=>whnf);refine ⟨by repeat (first | exact trivial | refine And.intro rfl ?_), ?_⟩;(conv=>whnf);refine ⟨?_, trivial⟩;(conv=>whnf);obtain ⟨y64, h65, h53⟩ := obnd_some h53;refine (c64 h65).go ?_;(conv=>whnf);refine ⟨by repeat (first | exact trivial | refine And.intro rfl ?_), ?_⟩
                (conv=>whnf);refine ⟨?_, trivial⟩;(conv=>whnf);obtain ⟨y66, h67, h53⟩ := obnd_some h53;refine (c65 h67).go ?_;(conv=>whnf);refine ⟨by repeat (first | exact trivial | refine And.intro rfl ?_), ?_⟩;(conv=>whnf);refine ⟨?_, trivial⟩;(conv=>whnf);obtain ⟨y68, h69, h53⟩ := obnd_some h53;refine (c64 h69).go ?_;(conv=>whnf);refine ⟨by repeat (first | exact trivial | refine And.intro rfl ?_), ?_⟩;(conv=>whnf);refine ⟨?_, trivial⟩;(conv=>whnf);refine ⟨by repeat (first | exact trivial | refine And.intro rfl ?_), ?_⟩;(conv=>whnf);refine ⟨?_, trivial⟩;(conv=>whnf);obtain ⟨y70, h71, h53⟩ := obnd_some h53;refine ICalls.goW (c63 h71) (.cons (.vt _ _ _) .nil) ?_
                (conv=>whnf);refine ⟨by repeat (first | exact trivial | refine And.intro rfl ?_), ?_⟩;(conv=>whnf);refine pw_so ?_;refine po_all ?_;(conv=>whnf);refine pw_cond ?_;(conv=>whnf);refine pbr_oite h53 (fun _ h53 => ?_) (fun _ h53 => ?_)
                · (conv=>whnf);refine pw_so ?_;refine po_all ?_;(conv=>whnf);refine pw_ret ?_;(conv=>whnf);cases h53;refine ⟨_, rfl, ?_⟩; rintro rfl;(conv=>whnf);obtain rfl := h50 _ rfl; rfl
                · (conv=>whnf);refine pw_skip ?_;(conv=>whnf);refine pw_ops ?_;refine po_all ?_;(conv=>whnf);cases h53;refine ⟨_, rfl, ?_⟩;refine Recast.trunc (Nat.le_of_ble_eq_true rfl) ?_ ?_
                  · repeat (first | exact .nil | refine .cons rfl (by first | exact OBnd.rwc (Nat.le_of_ble_eq_true rfl) rfl | exact OBnd.tail (Nat.le_of_ble_eq_true rfl) | trivial) ?_)
                  · repeat (first | exact .nil | refine .cons rfl (by first | exact Bnd.ptr (Nat.le_of_ble_eq_true rfl) | exact Bnd.vt (Nat.le_of_ble_eq_true rfl) | exact Bnd.cl) ?_)
              · (conv=>whnf);refine pw_exit ?_;(conv=>whnf);cases h53;refine ⟨_, rfl, ?_⟩; rintro rfl;(conv=>whnf);exact ⟨_, rfl, ⟨.nil, rfl⟩⟩
          · intro r74 hr; have H := h49 _ hr;refine pw_so ?_;refine po_all ?_;(conv=>whnf);refine pw_ret ?_;(conv=>whnf);cases H; rfl

/-- guidevane/dam.open -/
noncomputable def f79  (a0 : List Int) (a1 : List Int) (a2 : Int) (a3 : List (ByteArray × Int)) : Option ((List Int) × (List Int) × Int × (List (ByteArray × Int)) × Int) :=
  obnd (f43 a0 a1 a2 a3) fun (y1 : Int × Int) =>
  some (a0, a1, a2, a3, y1.2)
set_option maxHeartbeats 1000000 in
theorem c79  {a0 : List Int} {a1 : List Int} {a2 : Int} {a3 : List (ByteArray × Int)} {x : (List Int) × (List Int) × Int × (List (ByteArray × Int)) × Int} (H : f79 a0 a1 a2 a3 = some x) : ICalls E 79 [(.agg ⟨[(VS 1 (a0.map eI)), (VS 1 (a1.map eI)), (.int .i64 a2), (VS 2 (a3.map e_SI))]⟩)] AHeap.none fun v _ => v = (.tuple ⟨[(.agg ⟨[(VS 1 (x.1.map eI)), (VS 1 (x.2.1.map eI)), (.int .i64 x.2.2.1), (VS 2 (x.2.2.2.1.map e_SI))]⟩), (.int .i64 x.2.2.2.2)]⟩) := by
  refine ICalls.frz ?_;refine icalls_fn (pfnw rfl ?_); unfold f79 at H;(conv=>whnf);refine pw_so ?_;refine po_all ?_;(conv=>whnf);refine pw_so ?_;refine po_all ?_;(conv=>whnf);obtain ⟨y1, h2, H⟩ := obnd_some H;refine (c43 h2).go ?_;(conv=>whnf);refine pw_so ?_;refine po_all ?_;(conv=>whnf);refine pw_ret ?_;(conv=>whnf);cases H; show ∃ D, Fz _ D 0 (.tuple ⟨[(.agg ⟨[(VS 1 _), (VS 1 _), (.int .i64 a2), (VS 2 _)]⟩), (.int .i64 y1.2)]⟩) _;exact ⟨fun _ => false, .tuplel (.cons .cl (.cons .cl (.nil)))⟩

/-- guidevane/dam.isDeviation -/
noncomputable def f82  (a0 : Int) : Option Bool :=
  obnd (f65 a0 (0 : Int) (1000000 : Int)) fun (y1 : Bool) =>
  some y1
set_option maxHeartbeats 1000000 in
theorem c82  {a0 : Int} {x : Bool} (H : f82 a0 = some x) : ICalls E 82 [(.int .i64 a0)] AHeap.none fun v _ => v = (.bool x) := by
  refine icalls_fn (pfnw rfl ?_); unfold f82 at H;(conv=>whnf);refine pw_so ?_;refine po_all ?_;(conv=>whnf);refine pw_so ?_;refine po_all ?_;(conv=>whnf);obtain ⟨y1, h2, H⟩ := obnd_some H;refine (c65 h2).go ?_;(conv=>whnf);refine pw_ret ?_;(conv=>whnf);cases H; rfl

/-- (guidevane/dam.rules).stateErr -/
noncomputable def f113  (a0 : List Int) (_ : List Int) (_ : Int) (_ : List (ByteArray × Int)) (a4 : Int) (a5 : Int) (a6 : Int) : Option Int :=
  obnd (f65 a4 (0 : Int) ((a0.map eI).length : Int)) fun (y1 : Bool) =>
  obnd (
   oite y1 (
    obnd (f65 a5 (0 : Int) (1000000 : Int)) fun (y5 : Bool) =>
    some y5
     ) (
    some false
     )
    ) fun (r3 : Bool) =>
  obnd (
   oite r3 (
    obnd (f82 a6) fun (y9 : Bool) =>
    some y9
     ) (
    some false
     )
    ) fun (r7 : Bool) =>
  obnd (f64 r7 (2 : Int)) fun (y11 : Int) =>
  oite ((ilt (0 : Int) a4)) (
   obnd (f64 true (13 : Int)) fun (y13 : Int) =>
   obnd (f63 ([y11, y13] : List Int)) fun (y15 : Int) =>
   some y15
    ) (
   obnd (f64 (ieq a5 (0 : Int)) (13 : Int)) fun (y17 : Int) =>
   obnd (f63 ([y11, y17] : List Int)) fun (y19 : Int) =>
   some y19
    )
set_option maxHeartbeats 1000000 in
theorem c113  {a0 : List Int} {a1 : List Int} {a2 : Int} {a3 : List (ByteArray × Int)} {a4 : Int} {a5 : Int} {a6 : Int} {x : Int} (H : f113 a0 a1 a2 a3 a4 a5 a6 = some x) : ICalls E 113 [(.agg ⟨[(VS 1 (a0.map eI)), (VS 1 (a1.map eI)), (.int .i64 a2), (VS 2 (a3.map e_SI))]⟩), (.agg ⟨[(.int .i64 a4), (.int .i64 a5), (.int .i64 a6)]⟩)] AHeap.none fun v _ => v = (.int .i64 x) := by
  refine icalls_fn (pfnw rfl ?_); unfold f113 at H;(conv=>whnf);refine pw_so ?_;refine po_all ?_;(conv=>whnf);refine pw_so ?_;refine po_ops 8 ?_;(conv=>whnf);obtain ⟨y1, h2, H⟩ := obnd_some H;refine (c65 h2).go ?_;(conv=>whnf);obtain ⟨r3, h4, H⟩ := obnd_some H;refine po_seg (τ := Bool) 4 (fun e => ⟨[(3, (.pointer (some ⟨1, 0, none⟩))), (17, (.bool e))], ⟨2, [(1, .rw [(.int .i64 a4), (.int .i64 a5), (.int .i64 a6)]), (0, .rw [(VS 1 (a0.map eI)), (VS 1 (a1.map eI)), (.int .i64 a2), (VS 2 (a3.map e_SI))])], false⟩⟩) r3 ?_ ?_
  · refine po_all ?_;(conv=>whnf);refine pbr_oite h4 (fun _ h4 => ?_) (fun _ h4 => ?_)
    · (conv=>whnf);refine pbr_t (by assumption) ?_;(conv=>whnf);refine pbr_t (by assumption) ?_;(conv=>whnf);obtain ⟨y5, h6, h4⟩ := obnd_some h4;refine (c65 h6).go ?_;(conv=>whnf);refine pbr_t (by assumption) ?_;(conv=>whnf);cases h4;exact ⟨(.cons rfl (.cons rfl .nil)), rfl⟩
    · (conv=>whnf);refine pbr_f (by assumption) ?_;(conv=>whnf);refine pbr_f (by assumption) ?_;(conv=>whnf);refine pbr_f (by assumption) ?_;(conv=>whnf);cases h4;exact ⟨(.cons rfl (.cons rfl .nil)), rfl⟩
  · refine po_ops 1 ?_;(conv=>whnf);obtain ⟨r7, h8, H⟩ := obnd_some H;refine po_seg (τ := Bool) 4 (fun e => ⟨[(3, (.pointer (some ⟨1, 0, none⟩))), (22, (.bool e))], ⟨2, [(1, .rw [(.int .i64 a4), (.int .i64 a5), (.int .i64 a6)]), (0, .rw [(VS 1 (a0.map eI)), (VS 1 (a1.map eI)), (.int .i64 a2), (VS 2 (a3.map e_SI))])], false⟩⟩) r7 ?_ ?_
    · refine po_all ?_;(conv=>whnf);refine pbr_oite h8 (fun _ h8 => ?_) (fun _ h8 => ?_)
      · (conv=>whnf);refine pbr_t (by assumption) ?_;(conv=>whnf);refine pbr_t (by assumption) ?_;(conv=>whnf);obtain ⟨y9, h10, h8⟩ := obnd_some h8;refine (c82 h10).go ?_;(conv=>whnf);refine pbr_t (by assumption) ?_;(conv=>whnf);cases h8;exact ⟨(.cons rfl (.cons rfl .nil)), rfl⟩
      · (conv=>whnf);refine pbr_f (by assumption) ?_;(conv=>whnf);refine pbr_f (by assumption) ?_;(conv=>whnf);refine pbr_f (by assumption) ?_;(conv=>whnf);cases h8;exact ⟨(.cons rfl (.cons rfl .nil)), rfl⟩
    · refine po_all ?_;(conv=>whnf);refine pw_sd ?_;(conv=>whnf);refine ⟨?_, trivial⟩;(conv=>whnf);obtain ⟨y11, h12, H⟩ := obnd_some H;refine (c64 h12).go ?_;(conv=>whnf);refine ⟨by repeat (first | exact trivial | refine And.intro rfl ?_), ?_⟩;(conv=>whnf);refine pbr_oite H (fun _ H => ?_) (fun _ H => ?_)
      · (conv=>whnf);refine pbr_t (by assumption) ?_;(conv=>whnf);refine pbr_t (by assumption) ?_;(conv=>whnf);refine pbr_t (by assumption) ?_;(conv=>whnf);refine ⟨?_, trivial⟩;(conv=>whnf);obtain ⟨y13, h14, H⟩ := obnd_some H;refine (c64 h14).go ?_;(conv=>whnf);refine ⟨by repeat (first | exact trivial | refine And.intro rfl ?_), ?_⟩;(conv=>whnf);refine ⟨?_, trivial⟩;(conv=>whnf);refine ⟨by repeat (first | exact trivial | refine And.intro rfl ?_), ?_⟩;(conv=>whnf);refine ⟨?_, trivial⟩;(conv=>whnf);obtain ⟨y15, h16, H⟩ := obnd_some H;refine ICalls.goW (c63 h16) (.cons (.vt _ _ _) .nil) ?_;(conv=>whnf);refine ⟨by repeat (first | exact trivial | refine And.intro rfl ?_), ?_⟩
        (conv=>whnf);refine pw_ret ?_;(conv=>whnf);cases H; rfl
      · (conv=>whnf);refine pbr_f (by assumption) ?_;(conv=>whnf);refine pbr_f (by assumption) ?_;(conv=>whnf);refine pbr_f (by assumption) ?_;(conv=>whnf);refine ⟨?_, trivial⟩;(conv=>whnf);obtain ⟨y17, h18, H⟩ := obnd_some H;refine (c64 h18).go ?_;(conv=>whnf);refine ⟨by repeat (first | exact trivial | refine And.intro rfl ?_), ?_⟩;(conv=>whnf);refine ⟨?_, trivial⟩;(conv=>whnf);refine ⟨by repeat (first | exact trivial | refine And.intro rfl ?_), ?_⟩;(conv=>whnf);refine ⟨?_, trivial⟩;(conv=>whnf);obtain ⟨y19, h20, H⟩ := obnd_some H;refine ICalls.goW (c63 h20) (.cons (.vt _ _ _) .nil) ?_;(conv=>whnf);refine ⟨by repeat (first | exact trivial | refine And.intro rfl ?_), ?_⟩
        (conv=>whnf);refine pw_ret ?_;(conv=>whnf);cases H; rfl

/-- guidevane/dam.openState -/
noncomputable def f90  (a0 : List Int) (a1 : List Int) (a2 : Int) (a3 : List (ByteArray × Int)) (a4 : Int) (a5 : Int) (a6 : Int) : Option ((List Int) × (List Int) × Int × (List (ByteArray × Int)) × Int) :=
  obnd (f79 a0 a1 a2 a3) fun (y1 : (List Int) × (List Int) × Int × (List (ByteArray × Int)) × Int) =>
  obnd (
   oite ((ieq y1.2.2.2.2 (0 : Int))) (
    obnd (f113 y1.1 y1.2.1 y1.2.2.1 y1.2.2.2.1 a4 a5 a6) fun (y7 : Int) =>
    some y7
     ) (
    some y1.2.2.2.2
     )
    ) fun (r3 : Int) =>
  some (y1.1, y1.2.1, y1.2.2.1, y1.2.2.2.1, r3)
set_option maxHeartbeats 1000000 in
theorem c90  {a0 : List Int} {a1 : List Int} {a2 : Int} {a3 : List (ByteArray × Int)} {a4 : Int} {a5 : Int} {a6 : Int} {x : (List Int) × (List Int) × Int × (List (ByteArray × Int)) × Int} (H : f90 a0 a1 a2 a3 a4 a5 a6 = some x) : ICalls E 90 [(.agg ⟨[(VS 1 (a0.map eI)), (VS 1 (a1.map eI)), (.int .i64 a2), (VS 2 (a3.map e_SI))]⟩), (.agg ⟨[(.int .i64 a4), (.int .i64 a5), (.int .i64 a6)]⟩)] AHeap.none fun v _ => v = (.tuple ⟨[(.agg ⟨[(VS 1 (x.1.map eI)), (VS 1 (x.2.1.map eI)), (.int .i64 x.2.2.1), (VS 2 (x.2.2.2.1.map e_SI))]⟩), (.int .i64 x.2.2.2.2)]⟩) := by
  refine ICalls.frz ?_;refine icalls_fn (pfnw rfl ?_); unfold f90 at H;(conv=>whnf);refine pw_so ?_;refine po_all ?_;(conv=>whnf);refine pw_so ?_;refine po_all ?_;(conv=>whnf);obtain ⟨y1, h2, H⟩ := obnd_some H;refine (c79 h2).go ?_;(conv=>whnf);obtain ⟨r3, h4, H⟩ := obnd_some H;refine pw_join (ρ := Int) (fun e => ⟨[(4, (.pointer (some ⟨2, 0, none⟩))), (6, (.pointer (some ⟨3, 0, none⟩))), (7, (.int .i64 e))], ⟨4, [(3, .rw [(VS 1 (y1.1.map eI)), (VS 1 (y1.2.1.map eI)), (.int .i64 y1.2.2.1), (VS 2 (y1.2.2.2.1.map e_SI))]), (2, .rw [(.slice none 0 0), (.slice none 0 0), (.int .i64 0), (.slice none 0 0)]), (1, .rw [(.int .i64 a4), (.int .i64 a5), (.int .i64 a6)]), (0, .rw [(VS 1 (a0.map eI)), (VS 1 (a1.map eI)), (.int .i64 a2), (VS 2 (a3.map e_SI))])], false⟩⟩) r3 ?_ ?_
  · refine pw_so ?_;refine po_all ?_;(conv=>whnf);refine pw_cond ?_;(conv=>whnf);refine pbr_oite h4 (fun _ h4 => ?_) (fun _ h4 => ?_)
    · (conv=>whnf);refine pw_ops ?_;refine po_all ?_;(conv=>whnf);obtain ⟨y7, h8, h4⟩ := obnd_some h4;refine (c113 h8).go ?_;(conv=>whnf);cases h4;exact ⟨(.cons rfl (.cons rfl (.cons rfl .nil))), rfl⟩
    · (conv=>whnf);refine pw_skip ?_;(conv=>whnf);cases h4;exact ⟨(.cons rfl (.cons rfl (.cons rfl .nil))), rfl⟩
  · refine pw_so ?_;refine po_all ?_;(conv=>whnf);refine pw_ret ?_;(conv=>whnf);cases H; show ∃ D, Fz _ D 0 (.tuple ⟨[(.agg ⟨[(VS 1 _), (VS 1 _), (.int .i64 y1.2.2.1), (VS 2 _)]⟩), (.int .i64 r3)]⟩) _;exact ⟨fun _ => false, .tuplel (.cons .cl (.cons .cl (.nil)))⟩

/-- guidevane/dam.Lowered$1 -/
noncomputable def f185  (a0 : ByteArray) (_ : Int) (a2 : ByteArray) (_ : Int) : Option Bool :=
  some (a0.toList == a2.toList)
set_option maxHeartbeats 1000000 in
theorem c185  {a0 : ByteArray} {a1 : Int} {a2 : ByteArray} {a3 : Int} {x : Bool} (H : f185 a0 a1 a2 a3 = some x) : ICallV E (.func (.func (E.id 185)) ⟨[]⟩ ⟨[(VP (.agg ⟨[(.string a2), (.int .i64 a3)]⟩) 0)]⟩) [(.agg ⟨[(.string a0), (.int .i64 a1)]⟩)] AHeap.none fun v _ => v = (.bool x) := by
  refine icallv_fn (pfnw rfl ?_); unfold f185 at H;(conv=>whnf);refine pw_so ?_;refine po_all ?_;(conv=>whnf);refine pw_so ?_;refine po_all ?_;(conv=>whnf);refine pw_ret ?_;(conv=>whnf);cases H; rfl

/-- guidevane/dam.Lowered -/
noncomputable def f169  (a0 : List Int) (a1 : List Int) (a2 : Int) (a3 : List (ByteArray × Int)) (a4 : Int) (a5 : Int) (a6 : Int) (a7 : ByteArray) (a8 : Int) : Option (Int × Int × Int × Int) :=
  obnd (f90 a0 a1 a2 a3 a4 a5 a6) fun (y1 : (List Int) × (List Int) × Int × (List (ByteArray × Int)) × Int) =>
  obnd (f88 a7) fun (y3 : Bool) =>
  obnd (f64 y3 (4 : Int)) fun (y5 : Int) =>
  obnd (f63 ([y1.2.2.2.2, y5] : List Int)) fun (y7 : Int) =>
  oite ((!(ieq y7 (0 : Int)))) (
   some ((0 : Int), (0 : Int), (0 : Int), y7)
    ) (
   obnd (f110 (fun (z0 : ByteArray) (z1 : Int) => f185 z0 z1 a7 a8) y1.2.2.2.1) fun (y9 : Int) =>
   oite ((ilt y9 (0 : Int))) (
    some ((0 : Int), (0 : Int), (0 : Int), (6 : Int))
     ) (
    obnd (f65 a8 (0 : Int) (IntKind.i64.wrap (a4 - (1 : Int)))) fun (y11 : Bool) =>
    oite (!y11) (
     some ((0 : Int), (0 : Int), (0 : Int), (2 : Int))
      ) (
     obnd (
      oite ((ile y1.2.2.1 a5)) (
       ogrd ((ile 0 a8)) (
       obnd (y1.2.1[a8.toNat]?) fun (x17 : Int) =>
       some (ilt a6 x17)
       )
        ) (
       some false
        )
       ) fun (r13 : Bool) =>
     ogrd ((ile 0 y9)) (
     obnd (y1.2.2.2.1[y9.toNat]?) fun (x18 : ByteArray × Int) =>
     obnd (f64 (ile a4 x18.2) (18 : Int)) fun (y19 : Int) =>
     obnd (f64 r13 (24 : Int)) fun (y21 : Int) =>
     obnd (f63 ([y19, y21] : List Int)) fun (y23 : Int) =>
     oite ((!(ieq y23 (0 : Int)))) (
      some ((0 : Int), (0 : Int), (0 : Int), y23)
       ) (
      some (a8, (0 : Int), a6, (0 : Int))
       )
     )
      )
     )
    )
set_option maxHeartbeats 1000000 in
theorem c169  {a0 : List Int} {a1 : List Int} {a2 : Int} {a3 : List (ByteArray × Int)} {a4 : Int} {a5 : Int} {a6 : Int} {a7 : ByteArray} {a8 : Int} {x : Int × Int × Int × Int} (H : f169 a0 a1 a2 a3 a4 a5 a6 a7 a8 = some x) : ICalls E 169 [(.agg ⟨[(VS 1 (a0.map eI)), (VS 1 (a1.map eI)), (.int .i64 a2), (VS 2 (a3.map e_SI))]⟩), (.agg ⟨[(.int .i64 a4), (.int .i64 a5), (.int .i64 a6)]⟩), (.agg ⟨[(.string a7), (.int .i64 a8)]⟩)] AHeap.none fun v _ => v = (.tuple ⟨[(.agg ⟨[(.int .i64 x.1), (.int .i64 x.2.1), (.int .i64 x.2.2.1)]⟩), (.int .i64 x.2.2.2)]⟩) := by
  refine icalls_fn (pfnw rfl ?_); unfold f169 at H;(conv=>whnf);refine pw_so ?_;refine po_all ?_;(conv=>whnf);refine pw_so ?_;refine po_all ?_;(conv=>whnf);obtain ⟨y1, h2, H⟩ := obnd_some H;refine (c90 h2).go ?_;(conv=>whnf);refine pw_seq ?_;refine pw_so ?_;refine po_all ?_;(conv=>whnf);obtain ⟨y3, h4, H⟩ := obnd_some H;refine (c88 h4).go ?_;(conv=>whnf);obtain ⟨y5, h6, H⟩ := obnd_some H;refine (c64 h6).go ?_;(conv=>whnf);obtain ⟨y7, h8, H⟩ := obnd_some H;refine ICalls.goW (c63 h8) (.cons (.vt _ _ _) .nil) ?_;(conv=>whnf);refine pw_so ?_;refine po_all ?_;(conv=>whnf);refine pw_cond ?_;(conv=>whnf);refine pbr_oite H (fun _ H => ?_) (fun _ H => ?_)
  · (conv=>whnf);refine pw_so ?_;refine po_all ?_;(conv=>whnf);refine pw_ret ?_;(conv=>whnf);cases H; rfl
  · (conv=>whnf);refine pw_skip ?_;(conv=>whnf);refine pw_so ?_;refine po_all ?_;(conv=>whnf);obtain ⟨y9, h10, H⟩ := obnd_some H;refine ICalls.goD (c110 (fun _ _ _ h => (c185 h)) h10) (.cons .cl (.cons (.func .nil (.cons (.ptr rfl (by intro v hv; simp only [List.mem_cons, List.not_mem_nil, or_false] at hv; rcases hv with rfl | rfl <;> rfl)) .nil)) .nil)) rfl ?_;(conv=>whnf);refine pw_seq ?_;refine pw_so ?_;refine po_all ?_;(conv=>whnf);refine pw_cond ?_;(conv=>whnf);refine pbr_oite H (fun _ H => ?_) (fun _ H => ?_)
    · (conv=>whnf);refine pw_so ?_;refine po_all ?_;(conv=>whnf);refine pw_ret ?_;(conv=>whnf);cases H; rfl
    · (conv=>whnf);refine pw_skip ?_;(conv=>whnf);refine pw_seq ?_;refine pw_so ?_;refine po_all ?_;(conv=>whnf);obtain ⟨y11, h12, H⟩ := obnd_some H;refine (c65 h12).go ?_;(conv=>whnf);refine pw_cond ?_;(conv=>whnf);refine pbr_oite H (fun _ H => ?_) (fun _ H => ?_)
      · (conv=>whnf);refine pw_so ?_;refine po_all ?_;(conv=>whnf);refine pw_ret ?_;(conv=>whnf);cases H; rfl
      · (conv=>whnf);refine pw_skip ?_;(conv=>whnf);obtain ⟨r13, h14, H⟩ := obnd_some H;refine pw_join (ρ := Bool) (fun e => ⟨[(4, (.pointer (some ⟨1, 0, none⟩))), (5, (.pointer (some ⟨2, 0, none⟩))), (6, (.pointer (some ⟨3, 0, none⟩))), (8, (.pointer (some ⟨4, 0, none⟩))), (10, (.int .i64 y9)), (11, (.bool e))], ⟨6, [(5, .tail 2 1), (4, .rw [(VS 1 (y1.1.map eI)), (VS 1 (y1.2.1.map eI)), (.int .i64 y1.2.2.1), (VS 2 (y1.2.2.2.1.map e_SI))]), (3, .rw [(.int .i64 0), (.int .i64 0), (.int .i64 0)]), (2, .rw [(.string a7), (.int .i64 a8)]), (1, .rw [(.int .i64 a4), (.int .i64 a5), (.int .i64 a6)]), (0, .rw [(VS 1 (a0.map eI)), (VS 1 (a1.map eI)), (.int .i64 a2), (VS 2 (a3.map e_SI))])], false⟩⟩) r13 ?_ ?_
        · refine pw_draw ?_;(conv=>whnf);refine pbr_oite h14 (fun _ h14 => ?_) (fun _ h14 => ?_)
          · (conv=>whnf);refine pbr_t (by assumption) ?_;(conv=>whnf);refine pbr_t (by assumption) ?_;(conv=>whnf);refine pbr_t (by assumption) ?_;(conv=>whnf);refine pbr_t (by assumption) ?_;(conv=>whnf);refine pbr_t (by assumption) ?_;(conv=>whnf);refine pbr_t (by assumption) ?_;(conv=>whnf);refine pbr_t (by assumption) ?_;(conv=>whnf);refine pbr_ogrd h14 (fun _ h14 => ?_);(conv=>whnf);refine nth_o (l := y1.2.1) h14 (fun x17 _ h14 => ?_);(conv=>whnf);refine pbr_t (by assumption) ?_;(conv=>whnf);refine pbr_t (by assumption) ?_;(conv=>whnf);refine pbr_t (by assumption) ?_;(conv=>whnf);cases h14;exact ⟨(.cons rfl (.cons rfl (.cons rfl (.cons rfl (.cons rfl (.cons rfl .nil)))))), rfl⟩
          · (conv=>whnf);refine pbr_f (by assumption) ?_;(conv=>whnf);refine pbr_f (by assumption) ?_;(conv=>whnf);refine pbr_f (by assumption) ?_;(conv=>whnf);refine pbr_f (by assumption) ?_;(conv=>whnf);refine pbr_f (by assumption) ?_;(conv=>whnf);refine pbr_f (by assumption) ?_;(conv=>whnf);refine pbr_f (by assumption) ?_;(conv=>whnf);refine pbr_f (by assumption) ?_;(conv=>whnf);refine pbr_f (by assumption) ?_;(conv=>whnf);refine pbr_f (by assumption) ?_;(conv=>whnf);cases h14;exact ⟨(.cons rfl (.cons rfl (.cons rfl (.cons rfl (.cons rfl (.cons rfl .nil)))))), rfl⟩
        · refine pw_seq ?_;refine pw_sd ?_;(conv=>whnf);refine pbr_ogrd H (fun _ H => ?_);(conv=>whnf);refine nth_o (l := y1.2.2.2.1) H (fun x18 _ H => ?_);(conv=>whnf);refine ⟨?_, trivial⟩;(conv=>whnf);obtain ⟨y19, h20, H⟩ := obnd_some H;refine (c64 h20).go ?_;(conv=>whnf);refine ⟨by repeat (first | exact trivial | refine And.intro rfl ?_), ?_⟩;(conv=>whnf);refine ⟨?_, trivial⟩;(conv=>whnf);obtain ⟨y21, h22, H⟩ := obnd_some H;refine (c64 h22).go ?_;(conv=>whnf);refine ⟨by repeat (first | exact trivial | refine And.intro rfl ?_), ?_⟩;(conv=>whnf);refine ⟨?_, trivial⟩;(conv=>whnf);refine ⟨by repeat (first | exact trivial | refine And.intro rfl ?_), ?_⟩
          (conv=>whnf);refine ⟨?_, trivial⟩;(conv=>whnf);obtain ⟨y23, h24, H⟩ := obnd_some H;refine ICalls.goW (c63 h24) (.cons (.vt _ _ _) .nil) ?_;(conv=>whnf);refine ⟨by repeat (first | exact trivial | refine And.intro rfl ?_), ?_⟩;(conv=>whnf);refine pw_so ?_;refine po_all ?_;(conv=>whnf);refine pw_cond ?_;(conv=>whnf);refine pbr_oite H (fun _ H => ?_) (fun _ H => ?_)
          · (conv=>whnf);refine pw_so ?_;refine po_all ?_;(conv=>whnf);refine pw_ret ?_;(conv=>whnf);cases H; rfl
          · (conv=>whnf);refine pw_skip ?_;(conv=>whnf);refine pw_so ?_;refine po_all ?_;(conv=>whnf);refine pw_ret ?_;(conv=>whnf);cases H; rfl

/-- guidevane/guidevanebase.Within -/
noncomputable def f15  (a0 : Int) (a1 : Int) (a2 : Int) : Option Bool :=
  obnd (
   oite ((ile a1 a0)) (
    some (ile a0 a2)
     ) (
    some false
     )
    ) fun (r1 : Bool) =>
  some r1
set_option maxHeartbeats 1000000 in
theorem c15  {a0 : Int} {a1 : Int} {a2 : Int} {x : Bool} (H : f15 a0 a1 a2 = some x) : ICalls E 15 [(.int .i64 a0), (.int .i64 a1), (.int .i64 a2)] AHeap.none fun v _ => v = (.bool x) := by
  refine icalls_fn (pfnw rfl ?_); unfold f15 at H;(conv=>whnf);refine pw_so ?_;refine po_all ?_;(conv=>whnf);refine pw_so ?_;refine po_ops 4 ?_;(conv=>whnf);obtain ⟨r1, h2, H⟩ := obnd_some H;refine po_seg (τ := Bool) 4 (fun e => ⟨[(14, (.bool e))], ⟨0, [], false⟩⟩) r1 ?_ ?_
  · refine po_all ?_;(conv=>whnf);refine pbr_oite h2 (fun _ h2 => ?_) (fun _ h2 => ?_)
    · (conv=>whnf);refine pbr_t (by assumption) ?_;(conv=>whnf);refine pbr_t (by assumption) ?_;(conv=>whnf);refine pbr_t (by assumption) ?_;(conv=>whnf);cases h2;exact ⟨(.cons rfl .nil), rfl⟩
    · (conv=>whnf);refine pbr_f (by assumption) ?_;(conv=>whnf);refine pbr_f (by assumption) ?_;(conv=>whnf);refine pbr_f (by assumption) ?_;(conv=>whnf);cases h2;exact ⟨(.cons rfl .nil), rfl⟩
  · refine po_all ?_;(conv=>whnf);refine pw_ret ?_;(conv=>whnf);cases H; rfl

/-- guidevane/guidevanebase.IsName -/
noncomputable def f91  (a0 : ByteArray) : Option Bool :=
  obnd (
   oite ((ilt (a0.size : Int) (1 : Int))) (
    some true
     ) (
    some (ilt (12 : Int) (a0.size : Int))
     )
    ) fun (r1 : Bool) =>
  oite r1 (
   some false
    ) (
   obndS (
    oloop (τ := Int) (ρ := (Unit) ⊕ Bool) (fun e9 =>
     oite ((ilt e9 (a0.size : Int))) (
      ogrd ((ile 0 e9)) (
      obnd (a0.data.toList[e9.toNat]?) fun (x12 : UInt8) =>
      obnd (
       oite ((ile (97 : Int) (x12.toNat : Int))) (
        some (ile (x12.toNat : Int) (122 : Int))
         ) (
        some false
         )
        ) fun (r13 : Bool) =>
      obnd (
       oite r13 (
        some true
         ) (
        oite ((ile (65 : Int) (x12.toNat : Int))) (
         some (ile (x12.toNat : Int) (90 : Int))
          ) (
         some false
          )
         )
        ) fun (r15 : Bool) =>
      obnd (
       oite (!r15) (
        obnd (
         oite ((ieq e9 (0 : Int))) (
          some true
           ) (
          oite ((!(ieq (x12.toNat : Int) (45 : Int)))) (
           oite ((ilt (x12.toNat : Int) (48 : Int))) (
            some true
             ) (
            some (ilt (57 : Int) (x12.toNat : Int))
             )
            ) (
           some false
            )
           )
          ) fun (r21 : Bool) =>
        some r21
         ) (
        some false
         )
        ) fun (r17 : Bool) =>
      oite r17 (
       some (.inr (.inr (false)))
        ) (
       some (.inl (IntKind.i64.wrap (e9 + (1 : Int))))
        )
      )
       ) (
      some (.inr (.inl ()))
       )
      ) (0 : Int)
     ) fun (_ : Unit) =>
   some true
    )
set_option maxHeartbeats 1000000 in
theorem c91  {a0 : ByteArray} {x : Bool} (H : f91 a0 = some x) : ICalls E 91 [(.string a0)] AHeap.none fun v _ => v = (.bool x) := by
  refine icalls_fn (pfnw rfl ?_); unfold f91 at H;(conv=>whnf);refine pw_so ?_;refine po_all ?_;(conv=>whnf);refine pw_seq ?_;obtain ⟨r1, h2, H⟩ := obnd_some H;refine pw_join (ρ := Bool) (fun e => ⟨[(0, (.string a0)), (13, (.bool e))], ⟨0, [], false⟩⟩) r1 ?_ ?_
  · refine pw_ops ?_;refine po_all ?_;(conv=>whnf);refine pbr_oite h2 (fun _ h2 => ?_) (fun _ h2 => ?_)
    · (conv=>whnf);refine pbr_t (by assumption) ?_;(conv=>whnf);refine pbr_t (by assumption) ?_;(conv=>whnf);refine pbr_t (by assumption) ?_;(conv=>whnf);cases h2;exact ⟨(.cons rfl (.cons rfl .nil)), rfl⟩
    · (conv=>whnf);refine pbr_f (by assumption) ?_;(conv=>whnf);refine pbr_f (by assumption) ?_;(conv=>whnf);refine pbr_f (by assumption) ?_;(conv=>whnf);cases h2;exact ⟨(.cons rfl (.cons rfl .nil)), rfl⟩
  · refine pw_cond ?_;(conv=>whnf);refine pbr_oite H (fun _ H => ?_) (fun _ H => ?_)
    · (conv=>whnf);refine pw_so ?_;refine po_all ?_;(conv=>whnf);refine pw_ret ?_;(conv=>whnf);cases H; rfl
    · (conv=>whnf);refine pw_skip ?_;(conv=>whnf);obtain ⟨r5, h6, h7, h8⟩ := obndS_some H;refine pw_joinS (ρ := Unit) (fun e => ⟨[], ⟨0, [], false⟩⟩) r5 ?_ ?_
      · refine pw_so ?_;refine po_all ?_;(conv=>whnf);refine pw_block ?_;refine pw_loop (τ := Int) (fun e => ⟨[(0, (.string a0)), (3, (.int .i64 e))], ⟨0, [], false⟩⟩) h6 ?_ (fun _ => Nat.le_of_ble_eq_true rfl) ?_
        · exact .sub' (Nat.le_of_ble_eq_true rfl) (.cons rfl (.cons rfl .nil))
        · intro e9 x10 h11;refine pw_seq ?_;refine pw_so ?_;refine po_all ?_;(conv=>whnf);refine pw_cond ?_;(conv=>whnf);refine pbr_oite h11 (fun _ h11 => ?_) (fun _ h11 => ?_)
          · (conv=>whnf);refine pw_skip ?_;(conv=>whnf);refine pw_seq ?_;refine pw_block ?_;refine pw_so ?_;refine po_all ?_;(conv=>whnf);refine pbr_ogrd h11 (fun _ h11 => ?_);(conv=>whnf);refine get_o h11 (fun x12 _ h11 => ?_);(conv=>whnf);refine pw_so ?_;refine po_ops 3 ?_;(conv=>whnf);obtain ⟨r13, h14, h11⟩ := obnd_some h11;refine po_seg (τ := Bool) 3 (fun e => ⟨[(0, (.string a0)), (3, (.int .i64 e9)), (4, (.int .u8 (x12.toNat : Int))), (28, (.bool e))], ⟨0, [], false⟩⟩) r13 ?_ ?_
            · refine po_all ?_;(conv=>whnf);refine pbr_oite h14 (fun _ h14 => ?_) (fun _ h14 => ?_)
              · (conv=>whnf);refine pbr_t (by assumption) ?_;(conv=>whnf);refine pbr_t (by assumption) ?_;(conv=>whnf);cases h14;exact ⟨(.cons rfl (.cons rfl (.cons rfl (.cons rfl .nil)))), rfl⟩
              · (conv=>whnf);refine pbr_f (by assumption) ?_;(conv=>whnf);refine pbr_f (by assumption) ?_;(conv=>whnf);cases h14;exact ⟨(.cons rfl (.cons rfl (.cons rfl (.cons rfl .nil)))), rfl⟩
            · refine po_ops 1 ?_;(conv=>whnf);obtain ⟨r15, h16, h11⟩ := obnd_some h11;refine po_seg (τ := Bool) 7 (fun e => ⟨[(0, (.string a0)), (3, (.int .i64 e9)), (4, (.int .u8 (x12.toNat : Int))), (36, (.bool e))], ⟨0, [], false⟩⟩) r15 ?_ ?_
              · refine po_all ?_;(conv=>whnf);refine pbr_oite h16 (fun _ h16 => ?_) (fun _ h16 => ?_)
                · (conv=>whnf);refine pbr_t (by assumption) ?_;(conv=>whnf);refine pbr_t (by assumption) ?_;(conv=>whnf);refine pbr_t (by assumption) ?_;(conv=>whnf);refine pbr_t (by assumption) ?_;(conv=>whnf);cases h16;exact ⟨(.cons rfl (.cons rfl (.cons rfl (.cons rfl .nil)))), rfl⟩
                · (conv=>whnf);refine pbr_f (by assumption) ?_;(conv=>whnf);refine pbr_f (by assumption) ?_;(conv=>whnf);refine pbr_oite h16 (fun _ h16 => ?_) (fun _ h16 => ?_)
                  · (conv=>whnf);refine pbr_t (by assumption) ?_;(conv=>whnf);refine pbr_f (by assumption) ?_;(conv=>whnf);refine pbr_t (by assumption) ?_;(conv=>whnf);refine pbr_f (by assumption) ?_;(conv=>whnf);cases h16;exact ⟨(.cons rfl (.cons rfl (.cons rfl (.cons rfl .nil)))), rfl⟩
                  · (conv=>whnf);refine pbr_f (by assumption) ?_;(conv=>whnf);refine pbr_f (by assumption) ?_;(conv=>whnf);refine pbr_f (by assumption) ?_;(conv=>whnf);refine pbr_f (by assumption) ?_;(conv=>whnf);cases h16;exact ⟨(.cons rfl (.cons rfl (.cons rfl (.cons rfl .nil)))), rfl⟩
              · refine po_all ?_;(conv=>whnf);obtain ⟨r17, h18, h11⟩ := obnd_some h11;refine pw_join (ρ := Bool) (fun e => ⟨[(0, (.string a0)), (3, (.int .i64 e9)), (54, (.bool e))], ⟨0, [], false⟩⟩) r17 ?_ ?_
                · refine pw_ops ?_;refine po_ops 6 ?_;(conv=>whnf);refine pbr_oite h18 (fun _ h18 => ?_) (fun _ h18 => ?_)
                  · (conv=>whnf);refine pbr_t (by assumption) ?_;(conv=>whnf);refine pbr_t (by assumption) ?_;(conv=>whnf);obtain ⟨r21, h22, h18⟩ := obnd_some h18;refine po_seg (τ := Bool) 11 (fun e => ⟨[(0, (.string a0)), (3, (.int .i64 e9)), (39, (.bool (!r15))), (40, (.int .i64 e9)), (41, (.bool (ieq e9 (0 : Int)))), (42, (.bool (ieq e9 (0 : Int)))), (53, (.bool e))], ⟨0, [], false⟩⟩) r21 ?_ ?_
                    · refine po_all ?_;(conv=>whnf);refine pbr_oite h22 (fun _ h22 => ?_) (fun _ h22 => ?_)
                      · (conv=>whnf);refine pbr_t (by assumption) ?_;(conv=>whnf);refine pbr_t (by assumption) ?_;(conv=>whnf);refine pbr_t (by assumption) ?_;(conv=>whnf);refine pbr_t (by assumption) ?_;(conv=>whnf);refine pbr_t (by assumption) ?_;(conv=>whnf);cases h22;exact ⟨(.cons rfl (.cons rfl (.cons rfl (.cons rfl (.cons rfl (.cons rfl (.cons rfl .nil))))))), rfl⟩
                      · (conv=>whnf);refine pbr_f (by assumption) ?_;(conv=>whnf);refine pbr_f (by assumption) ?_;(conv=>whnf);refine pbr_oite h22 (fun _ h22 => ?_) (fun _ h22 => ?_)
                        · (conv=>whnf);refine pbr_t (by assumption) ?_;(conv=>whnf);refine pbr_t (by assumption) ?_;(conv=>whnf);refine pbr_oite h22 (fun _ h22 => ?_) (fun _ h22 => ?_)
                          · (conv=>whnf);refine pbr_t (by assumption) ?_;(conv=>whnf);refine pbr_t (by assumption) ?_;(conv=>whnf);refine pbr_t (by assumption) ?_;(conv=>whnf);refine pbr_f (by assumption) ?_;(conv=>whnf);refine pbr_t (by assumption) ?_;(conv=>whnf);refine pbr_t (by assumption) ?_;(conv=>whnf);refine pbr_f (by assumption) ?_;(conv=>whnf);cases h22;exact ⟨(.cons rfl (.cons rfl (.cons rfl (.cons rfl (.cons rfl (.cons rfl (.cons rfl .nil))))))), rfl⟩
                          · (conv=>whnf);refine pbr_f (by assumption) ?_;(conv=>whnf);refine pbr_t (by assumption) ?_;(conv=>whnf);refine pbr_f (by assumption) ?_;(conv=>whnf);refine pbr_f (by assumption) ?_;(conv=>whnf);refine pbr_t (by assumption) ?_;(conv=>whnf);refine pbr_t (by assumption) ?_;(conv=>whnf);refine pbr_f (by assumption) ?_;(conv=>whnf);cases h22;exact ⟨(.cons rfl (.cons rfl (.cons rfl (.cons rfl (.cons rfl (.cons rfl (.cons rfl .nil))))))), rfl⟩
                        · (conv=>whnf);refine pbr_f (by assumption) ?_;(conv=>whnf);refine pbr_f (by assumption) ?_;(conv=>whnf);refine pbr_f (by assumption) ?_;(conv=>whnf);refine pbr_f (by assumption) ?_;(conv=>whnf);refine pbr_f (by assumption) ?_;(conv=>whnf);refine pbr_t (by assumption) ?_;(conv=>whnf);refine pbr_f (by assumption) ?_;(conv=>whnf);cases h22;exact ⟨(.cons rfl (.cons rfl (.cons rfl (.cons rfl (.cons rfl (.cons rfl (.cons rfl .nil))))))), rfl⟩
                    · refine po_all ?_;(conv=>whnf);refine pbr_t (by assumption) ?_;(conv=>whnf);cases h18;exact ⟨(.cons rfl (.cons rfl (.cons rfl .nil))), rfl⟩
                  · (conv=>whnf);refine pbr_f (by assumption) ?_;(conv=>whnf);refine pbr_f (by assumption) ?_;(conv=>whnf);refine po_ops 11 ?_;(conv=>whnf);refine pbr_f (by assumption) ?_;(conv=>whnf);refine po_all ?_;(conv=>whnf);refine pbr_f (by assumption) ?_;(conv=>whnf);cases h18;exact ⟨(.cons rfl (.cons rfl (.cons rfl .nil))), rfl⟩
                · refine pw_cond ?_;(conv=>whnf);refine pbr_oite h11 (fun _ h11 => ?_) (fun _ h11 => ?_)
                  · (conv=>whnf);refine pw_so ?_;refine po_all ?_;(conv=>whnf);refine pw_ret ?_;(conv=>whnf);cases h11;refine ⟨_, rfl, ?_⟩; rintro rfl;(conv=>whnf);obtain rfl := h8 _ rfl; rfl
                  · (conv=>whnf);refine pw_skip ?_;(conv=>whnf);refine pw_ops ?_;refine po_all ?_;(conv=>whnf);cases h11;refine ⟨_, rfl, ?_⟩;exact .sub' (Nat.le_of_ble_eq_true rfl) (.cons rfl (.cons rfl .nil))
          · (conv=>whnf);refine pw_exit ?_;(conv=>whnf);cases h11;refine ⟨_, rfl, ?_⟩; rintro rfl;(conv=>whnf);exact ⟨_, rfl, ⟨.nil, rfl⟩⟩
      · intro r25 hr; have H := h7 _ hr;refine pw_so ?_;refine po_all ?_;(conv=>whnf);refine pw_ret ?_;(conv=>whnf);cases H; rfl

/-- guidevane/guidevaneref09.find -/
noncomputable def f92  (a0 : List (ByteArray × Int)) (a1 : ByteArray) : Option Int :=
  obndS (
   oloop (τ := Int) (ρ := (Unit) ⊕ Int) (fun e5 =>
    oite ((ilt e5 ((a0.map e_SI).length : Int))) (
     ogrd ((ile 0 e5)) (
     obnd (a0[e5.toNat]?) fun (x8 : ByteArray × Int) =>
     oite ((x8.1.toList == a1.toList)) (
      some (.inr (.inr (e5)))
       ) (
      some (.inl (IntKind.i64.wrap (e5 + (1 : Int))))
       )
     )
      ) (
     some (.inr (.inl ()))
      )
     ) (0 : Int)
    ) fun (_ : Unit) =>
  some (-1 : Int)
set_option maxHeartbeats 1000000 in
theorem c92  {a0 : List (ByteArray × Int)} {a1 : ByteArray} {x : Int} (H : f92 a0 a1 = some x) : ICalls E 92 [(VS 2 (a0.map e_SI)), (.string a1)] AHeap.none fun v _ => v = (.int .i64 x) := by
  refine icalls_fn (pfnw rfl ?_); unfold f92 at H;(conv=>whnf);refine pw_so ?_;refine po_all ?_;(conv=>whnf);obtain ⟨r1, h2, h3, h4⟩ := obndS_some H;refine pw_joinS (ρ := Unit) (fun e => ⟨[], ⟨0, [], false⟩⟩) r1 ?_ ?_
  · refine pw_so ?_;refine po_all ?_;(conv=>whnf);refine pw_block ?_;refine pw_loop (τ := Int) (fun e => ⟨[(0, (VS 2 (a0.map e_SI))), (1, (.string a1)), (5, (.int .i64 e))], ⟨0, [], false⟩⟩) h2 ?_ (fun _ => Nat.le_of_ble_eq_true rfl) ?_
    · exact .sub' (Nat.le_of_ble_eq_true rfl) (.cons rfl (.cons rfl (.cons rfl .nil)))
    · intro e5 x6 h7;refine pw_seq ?_;refine pw_so ?_;refine po_all ?_;(conv=>whnf);refine pw_cond ?_;(conv=>whnf);refine pbr_oite h7 (fun _ h7 => ?_) (fun _ h7 => ?_)
      · (conv=>whnf);refine pw_skip ?_;(conv=>whnf);refine pw_seq ?_;refine pw_block ?_;refine pw_so ?_;refine po_all ?_;(conv=>whnf);refine pbr_ogrd h7 (fun _ h7 => ?_);(conv=>whnf);refine nth_o (l := a0) h7 (fun x8 _ h7 => ?_);(conv=>whnf);refine pw_cond ?_;(conv=>whnf);refine pbr_oite h7 (fun _ h7 => ?_) (fun _ h7 => ?_)
        · (conv=>whnf);refine pw_so ?_;refine po_all ?_;(conv=>whnf);refine pw_ret ?_;(conv=>whnf);cases h7;refine ⟨_, rfl, ?_⟩; rintro rfl;(conv=>whnf);obtain rfl := h4 _ rfl; rfl
        · (conv=>whnf);refine pw_skip ?_;(conv=>whnf);refine pw_ops ?_;refine po_all ?_;(conv=>whnf);cases h7;refine ⟨_, rfl, ?_⟩;exact .sub' (Nat.le_of_ble_eq_true rfl) (.cons rfl (.cons rfl (.cons rfl .nil)))
      · (conv=>whnf);refine pw_exit ?_;(conv=>whnf);cases h7;refine ⟨_, rfl, ?_⟩; rintro rfl;(conv=>whnf);exact ⟨_, rfl, ⟨.nil, rfl⟩⟩
  · intro r11 hr; have H := h3 _ hr;refine pw_so ?_;refine po_all ?_;(conv=>whnf);refine pw_ret ?_;(conv=>whnf);cases H; rfl

/-- guidevane/guidevaneref09.CheckRules -/
noncomputable def f46  (a0 : List Int) (a1 : List Int) (a2 : Int) (a3 : List (ByteArray × Int)) : Option (Int × Int) :=
  obnd (
   oite ((ieq ((a0.map eI).length : Int) (0 : Int))) (
    some true
     ) (
    some (!(ieq ((a1.map eI).length : Int) ((a0.map eI).length : Int)))
     )
    ) fun (r1 : Bool) =>
  oite r1 (
   some ((0 : Int), (10 : Int))
    ) (
   oite ((ilt (5 : Int) ((a0.map eI).length : Int))) (
    some ((0 : Int), (8 : Int))
     ) (
    obndS (
     oloop (τ := Int) (ρ := (Unit) ⊕ (Int × Int)) (fun e9 =>
      oite ((ilt e9 ((a0.map eI).length : Int))) (
       obnd (
        ogrd ((ile 0 e9)) (
        obnd (a0[e9.toNat]?) fun (x16 : Int) =>
        obnd (f15 x16 (1 : Int) (1000000 : Int)) fun (y17 : Bool) =>
        oite (!y17) (
         some true
          ) (
         obnd (a1[e9.toNat]?) fun (x19 : Int) =>
         obnd (f15 x19 (1 : Int) (1000000 : Int)) fun (y20 : Bool) =>
         some (!y20)
          )
        )
         ) fun (r12 : Bool) =>
       oite r12 (
        some (.inr (.inr ((e9, (2 : Int)))))
         ) (
        ogrd ((ile 0 e9)) (
        obnd (a1[e9.toNat]?) fun (x23 : Int) =>
        obnd (a0[e9.toNat]?) fun (x24 : Int) =>
        oite ((ilt x24 x23)) (
         some (.inr (.inr ((e9, (3 : Int)))))
          ) (
         obnd (
          oite ((ilt (0 : Int) e9)) (
           obnd (a0[e9.toNat]?) fun (x30 : Int) =>
           ogrd ((ile 0 (IntKind.i64.wrap (e9 - (1 : Int))))) (
           obnd (a0[(IntKind.i64.wrap (e9 - (1 : Int))).toNat]?) fun (x31 : Int) =>
           oite ((ile x30 x31)) (
            some true
             ) (
            obnd (a1[e9.toNat]?) fun (x32 : Int) =>
            obnd (a1[(IntKind.i64.wrap (e9 - (1 : Int))).toNat]?) fun (x33 : Int) =>
            some (ilt x32 x33)
             )
           )
            ) (
           some false
            )
           ) fun (r26 : Bool) =>
         oite r26 (
          some (.inr (.inr ((e9, (9 : Int)))))
           ) (
          some (.inl (IntKind.i64.wrap (e9 + (1 : Int))))
           )
          )
        )
         )
        ) (
       some (.inr (.inl ()))
        )
       ) (0 : Int)
      ) fun (_ : Unit) =>
    obnd (f15 a2 (0 : Int) (1000000 : Int)) fun (y37 : Bool) =>
    oite (!y37) (
     some ((0 : Int), (2 : Int))
      ) (
     oite ((ilt (10 : Int) ((a3.map e_SI).length : Int))) (
      some ((0 : Int), (8 : Int))
       ) (
      obndS (
       oloop (τ := Int) (ρ := (Unit) ⊕ (Int × Int)) (fun e43 =>
        oite ((ilt e43 ((a3.map e_SI).length : Int))) (
         ogrd ((ile 0 e43)) (
         obnd (a3[e43.toNat]?) fun (x46 : ByteArray × Int) =>
         obnd (f91 x46.1) fun (y47 : Bool) =>
         oite (!y47) (
          some (.inr (.inr ((e43, (4 : Int)))))
           ) (
          obnd (oslH a3 e43) fun (m50 : List (ByteArray × Int)) =>
          obnd (a3[e43.toNat]?) fun (x53 : ByteArray × Int) =>
          obnd (f92 m50 x53.1) fun (y54 : Int) =>
          oite ((ile (0 : Int) y54)) (
           some (.inr (.inr ((e43, (5 : Int)))))
            ) (
           obnd (a3[e43.toNat]?) fun (x57 : ByteArray × Int) =>
           obnd (f15 x57.2 (1 : Int) ((a0.map eI).length : Int)) fun (y58 : Bool) =>
           oite (!y58) (
            some (.inr (.inr ((e43, (2 : Int)))))
             ) (
            some (.inl (IntKind.i64.wrap (e43 + (1 : Int))))
             )
            )
           )
         )
          ) (
         some (.inr (.inl ()))
          )
         ) (0 : Int)
        ) fun (_ : Unit) =>
      some ((0 : Int), (0 : Int))
       )
      )
     )
    )
set_option maxHeartbeats 1000000 in
theorem c46  {a0 : List Int} {a1 : List Int} {a2 : Int} {a3 : List (ByteArray × Int)} {x : Int × Int} (H : f46 a0 a1 a2 a3 = some x) : ICalls E 46 [(.agg ⟨[(VS 1 (a0.map eI)), (VS 1 (a1.map eI)), (.int .i64 a2), (VS 2 (a3.map e_SI))]⟩)] AHeap.none fun v _ => v = (.tuple ⟨[(.int .i64 x.1), (.int .i64 x.2)]⟩) := by
  refine icalls_fn (pfnw rfl ?_); unfold f46 at H;(conv=>whnf);refine pw_so ?_;refine po_all ?_;(conv=>whnf);refine pw_seq ?_;obtain ⟨r1, h2, H⟩ := obnd_some H;refine pw_join (ρ := Bool) (fun e => ⟨[(1, (.pointer (some ⟨0, 0, none⟩))), (18, (.bool e))], ⟨1, [(0, .rw [(VS 1 (a0.map eI)), (VS 1 (a1.map eI)), (.int .i64 a2), (VS 2 (a3.map e_SI))])], false⟩⟩) r1 ?_ ?_
  · refine pw_ops ?_;refine po_all ?_;(conv=>whnf);refine pbr_oite h2 (fun _ h2 => ?_) (fun _ h2 => ?_)
    · (conv=>whnf);refine pbr_t (by assumption) ?_;(conv=>whnf);refine pbr_t (by assumption) ?_;(conv=>whnf);refine pbr_t (by assumption) ?_;(conv=>whnf);refine pbr_t (by assumption) ?_;(conv=>whnf);refine pbr_t (by assumption) ?_;(conv=>whnf);refine pbr_t (by assumption) ?_;(conv=>whnf);refine pbr_t (by assumption) ?_;(conv=>whnf);cases h2;exact ⟨(.cons rfl (.cons rfl .nil)), rfl⟩
    · (conv=>whnf);refine pbr_f (by assumption) ?_;(conv=>whnf);refine pbr_f (by assumption) ?_;(conv=>whnf);refine pbr_f (by assumption) ?_;(conv=>whnf);refine pbr_f (by assumption) ?_;(conv=>whnf);refine pbr_f (by assumption) ?_;(conv=>whnf);refine pbr_f (by assumption) ?_;(conv=>whnf);refine pbr_f (by assumption) ?_;(conv=>whnf);cases h2;exact ⟨(.cons rfl (.cons rfl .nil)), rfl⟩
  · refine pw_cond ?_;(conv=>whnf);refine pbr_oite H (fun _ H => ?_) (fun _ H => ?_)
    · (conv=>whnf);refine pw_so ?_;refine po_all ?_;(conv=>whnf);refine pw_ret ?_;(conv=>whnf);cases H; rfl
    · (conv=>whnf);refine pw_skip ?_;(conv=>whnf);refine pw_seq ?_;refine pw_so ?_;refine po_all ?_;(conv=>whnf);refine pw_cond ?_;(conv=>whnf);refine pbr_oite H (fun _ H => ?_) (fun _ H => ?_)
      · (conv=>whnf);refine pw_so ?_;refine po_all ?_;(conv=>whnf);refine pw_ret ?_;(conv=>whnf);cases H; rfl
      · (conv=>whnf);refine pw_skip ?_;(conv=>whnf);obtain ⟨r5, h6, h7, h8⟩ := obndS_some H;refine pw_joinS (ρ := Unit) (fun e => ⟨[(1, (.pointer (some ⟨0, 0, none⟩)))], ⟨1, [(0, .rw [(VS 1 (a0.map eI)), (VS 1 (a1.map eI)), (.int .i64 a2), (VS 2 (a3.map e_SI))])], false⟩⟩) r5 ?_ ?_
        · refine pw_so ?_;refine po_all ?_;(conv=>whnf);refine pw_block ?_;refine pw_loop (τ := Int) (fun e => ⟨[(1, (.pointer (some ⟨0, 0, none⟩))), (4, (.int .i64 e))], ⟨1, [(0, .rw [(VS 1 (a0.map eI)), (VS 1 (a1.map eI)), (.int .i64 a2), (VS 2 (a3.map e_SI))])], false⟩⟩) h6 ?_ (fun _ => Nat.le_of_ble_eq_true rfl) ?_
          · exact .sub' (Nat.le_of_ble_eq_true rfl) (.cons rfl (.cons rfl .nil))
          · intro e9 x10 h11;refine pw_seq ?_;refine pw_so ?_;refine po_all ?_;(conv=>whnf);refine pw_cond ?_;(conv=>whnf);refine pbr_oite h11 (fun _ h11 => ?_) (fun _ h11 => ?_)
            · (conv=>whnf);refine pw_skip ?_;(conv=>whnf);refine pw_seq ?_;refine pw_block ?_;refine pw_seq ?_;obtain ⟨r12, h13, h11⟩ := obnd_some h11;refine pw_join (ρ := Bool) (fun e => ⟨[(1, (.pointer (some ⟨0, 0, none⟩))), (4, (.int .i64 e9)), (45, (.bool e))], ⟨1, [(0, .rw [(VS 1 (a0.map eI)), (VS 1 (a1.map eI)), (.int .i64 a2), (VS 2 (a3.map e_SI))])], false⟩⟩) r12 ?_ ?_
              · refine pw_ops ?_;refine po_all ?_;(conv=>whnf);refine pbr_ogrd h13 (fun _ h13 => ?_);(conv=>whnf);refine nth_o (l := a0) h13 (fun x16 _ h13 => ?_);(conv=>whnf);obtain ⟨y17, h18, h13⟩ := obnd_some h13;refine (c15 h18).go ?_;(conv=>whnf);refine pbr_oite h13 (fun _ h13 => ?_) (fun _ h13 => ?_)
                · (conv=>whnf);refine pbr_t (by assumption) ?_;(conv=>whnf);refine pbr_t (by assumption) ?_;(conv=>whnf);refine pbr_t (by assumption) ?_;(conv=>whnf);refine pbr_t (by assumption) ?_;(conv=>whnf);refine pbr_t (by assumption) ?_;(conv=>whnf);refine pbr_t (by assumption) ?_;(conv=>whnf);refine pbr_t (by assumption) ?_;(conv=>whnf);cases h13;exact ⟨(.cons rfl (.cons rfl (.cons rfl .nil))), rfl⟩
                · (conv=>whnf);refine pbr_f (by assumption) ?_;(conv=>whnf);refine pbr_f (by assumption) ?_;(conv=>whnf);refine pbr_f (by assumption) ?_;(conv=>whnf);refine pbr_t (by assumption) ?_;(conv=>whnf);refine nth_o (l := a1) h13 (fun x19 _ h13 => ?_);(conv=>whnf);refine pbr_f (by assumption) ?_;(conv=>whnf);refine pbr_f (by assumption) ?_;(conv=>whnf);obtain ⟨y20, h21, h13⟩ := obnd_some h13;refine (c15 h21).go ?_;(conv=>whnf);refine pbr_f (by assumption) ?_;(conv=>whnf);refine pbr_f (by assumption) ?_;(conv=>whnf);cases h13;exact ⟨(.cons rfl (.cons rfl (.cons rfl .nil))), rfl⟩
              · refine pw_cond ?_;(conv=>whnf);refine pbr_oite h11 (fun _ h11 => ?_) (fun _ h11 => ?_)
                · (conv=>whnf);refine pw_so ?_;refine po_all ?_;(conv=>whnf);refine pw_ret ?_;(conv=>whnf);cases h11;refine ⟨_, rfl, ?_⟩; rintro rfl;(conv=>whnf);obtain rfl := h8 _ rfl; rfl
                · (conv=>whnf);refine pw_skip ?_;(conv=>whnf);refine pw_seq ?_;refine pw_sd ?_;(conv=>whnf);refine pbr_ogrd h11 (fun _ h11 => ?_);(conv=>whnf);refine nth_o (l := a1) h11 (fun x23 _ h11 => ?_);(conv=>whnf);refine pbr_t (by assumption) ?_;(conv=>whnf);refine nth_o (l := a0) h11 (fun x24 _ h11 => ?_);(conv=>whnf);refine pw_cond ?_;(conv=>whnf);refine pbr_oite h11 (fun _ h11 => ?_) (fun _ h11 => ?_)
                  · (conv=>whnf);refine pw_so ?_;refine po_all ?_;(conv=>whnf);refine pw_ret ?_;(conv=>whnf);cases h11;refine ⟨_, rfl, ?_⟩; rintro rfl;(conv=>whnf);obtain rfl := h8 _ rfl; rfl
                  · (conv=>whnf);refine pw_skip ?_;(conv=>whnf);obtain ⟨r26, h27, h11⟩ := obnd_some h11;refine pw_join (ρ := Bool) (fun e => ⟨[(1, (.pointer (some ⟨0, 0, none⟩))), (4, (.int .i64 e9)), (88, (.bool e))], ⟨1, [(0, .rw [(VS 1 (a0.map eI)), (VS 1 (a1.map eI)), (.int .i64 a2), (VS 2 (a3.map e_SI))])], false⟩⟩) r26 ?_ ?_
                    · refine pw_draw ?_;(conv=>whnf);refine pbr_oite h27 (fun _ h27 => ?_) (fun _ h27 => ?_)
                      · (conv=>whnf);refine pbr_t (by assumption) ?_;(conv=>whnf);refine pbr_t (by assumption) ?_;(conv=>whnf);refine pbr_t (by assumption) ?_;(conv=>whnf);refine pbr_t (by assumption) ?_;(conv=>whnf);refine nth_o (l := a0) h27 (fun x30 _ h27 => ?_);(conv=>whnf);refine pbr_t (by assumption) ?_;(conv=>whnf);refine pbr_t (by assumption) ?_;(conv=>whnf);refine pbr_t (by assumption) ?_;(conv=>whnf);refine pbr_t (by assumption) ?_;(conv=>whnf);refine pbr_t (by assumption) ?_;(conv=>whnf);refine pbr_t (by assumption) ?_;(conv=>whnf);refine pbr_ogrd h27 (fun _ h27 => ?_);(conv=>whnf);refine nth_o (l := a0) h27 (fun x31 _ h27 => ?_)
                        (conv=>whnf);refine pbr_t (by assumption) ?_;(conv=>whnf);refine pbr_t (by assumption) ?_;(conv=>whnf);refine pbr_t (by assumption) ?_;(conv=>whnf);refine pbr_oite h27 (fun _ h27 => ?_) (fun _ h27 => ?_)
                        · (conv=>whnf);refine pbr_t (by assumption) ?_;(conv=>whnf);refine pbr_t (by assumption) ?_;(conv=>whnf);refine pbr_t (by assumption) ?_;(conv=>whnf);refine pbr_t (by assumption) ?_;(conv=>whnf);refine pbr_t (by assumption) ?_;(conv=>whnf);refine pbr_t (by assumption) ?_;(conv=>whnf);refine pbr_t (by assumption) ?_;(conv=>whnf);refine pbr_t (by assumption) ?_;(conv=>whnf);refine pbr_t (by assumption) ?_;(conv=>whnf);refine pbr_t (by assumption) ?_;(conv=>whnf);refine pbr_t (by assumption) ?_;(conv=>whnf);refine pbr_t (by assumption) ?_;(conv=>whnf);refine pbr_t (by assumption) ?_;(conv=>whnf);refine pbr_t (by assumption) ?_
                          (conv=>whnf);cases h27;exact ⟨(.cons rfl (.cons rfl (.cons rfl .nil))), rfl⟩
                        · (conv=>whnf);refine pbr_f (by assumption) ?_;(conv=>whnf);refine pbr_f (by assumption) ?_;(conv=>whnf);refine pbr_f (by assumption) ?_;(conv=>whnf);refine pbr_t (by assumption) ?_;(conv=>whnf);refine nth_o (l := a1) h27 (fun x32 _ h27 => ?_);(conv=>whnf);refine pbr_f (by assumption) ?_;(conv=>whnf);refine pbr_f (by assumption) ?_;(conv=>whnf);refine pbr_f (by assumption) ?_;(conv=>whnf);refine pbr_f (by assumption) ?_;(conv=>whnf);refine pbr_f (by assumption) ?_;(conv=>whnf);refine pbr_f (by assumption) ?_;(conv=>whnf);refine pbr_t (by assumption) ?_;(conv=>whnf);refine nth_o (l := a1) h27 (fun x33 _ h27 => ?_)
                          (conv=>whnf);refine pbr_f (by assumption) ?_;(conv=>whnf);refine pbr_f (by assumption) ?_;(conv=>whnf);refine pbr_t (by assumption) ?_;(conv=>whnf);refine pbr_f (by assumption) ?_;(conv=>whnf);refine pbr_t (by assumption) ?_;(conv=>whnf);cases h27;exact ⟨(.cons rfl (.cons rfl (.cons rfl .nil))), rfl⟩
                      · (conv=>whnf);refine pbr_f (by assumption) ?_;(conv=>whnf);refine pbr_f (by assumption) ?_;(conv=>whnf);refine pbr_f (by assumption) ?_;(conv=>whnf);refine pbr_f (by assumption) ?_;(conv=>whnf);refine pbr_f (by assumption) ?_;(conv=>whnf);refine pbr_f (by assumption) ?_;(conv=>whnf);refine pbr_f (by assumption) ?_;(conv=>whnf);refine pbr_f (by assumption) ?_;(conv=>whnf);refine pbr_f (by assumption) ?_;(conv=>whnf);refine pbr_f (by assumption) ?_;(conv=>whnf);refine pbr_f (by assumption) ?_;(conv=>whnf);refine pbr_f (by assumption) ?_;(conv=>whnf);refine pbr_f (by assumption) ?_;(conv=>whnf);refine pbr_f (by assumption) ?_
                        (conv=>whnf);cases h27;exact ⟨(.cons rfl (.cons rfl (.cons rfl .nil))), rfl⟩
                    · refine pw_cond ?_;(conv=>whnf);refine pbr_oite h11 (fun _ h11 => ?_) (fun _ h11 => ?_)
                      · (conv=>whnf);refine pw_so ?_;refine po_all ?_;(conv=>whnf);refine pw_ret ?_;(conv=>whnf);cases h11;refine ⟨_, rfl, ?_⟩; rintro rfl;(conv=>whnf);obtain rfl := h8 _ rfl; rfl
                      · (conv=>whnf);refine pw_skip ?_;(conv=>whnf);refine pw_ops ?_;refine po_all ?_;(conv=>whnf);cases h11;refine ⟨_, rfl, ?_⟩;exact .sub' (Nat.le_of_ble_eq_true rfl) (.cons rfl (.cons rfl .nil))
            · (conv=>whnf);refine pw_exit ?_;(conv=>whnf);cases h11;refine ⟨_, rfl, ?_⟩; rintro rfl;(conv=>whnf);exact ⟨_, rfl, ⟨(.cons rfl .nil), rfl⟩⟩
        · intro r36 hr; have H := h7 _ hr;refine pw_seq ?_;refine pw_so ?_;refine po_all ?_;(conv=>whnf);obtain ⟨y37, h38, H⟩ := obnd_some H;refine (c15 h38).go ?_;(conv=>whnf);refine pw_cond ?_;(conv=>whnf);refine pbr_oite H (fun _ H => ?_) (fun _ H => ?_)
          · (conv=>whnf);refine pw_so ?_;refine po_all ?_;(conv=>whnf);refine pw_ret ?_;(conv=>whnf);cases H; rfl
          · (conv=>whnf);refine pw_skip ?_;(conv=>whnf);refine pw_seq ?_;refine pw_so ?_;refine po_all ?_;(conv=>whnf);refine pw_cond ?_;(conv=>whnf);refine pbr_oite H (fun _ H => ?_) (fun _ H => ?_)
            · (conv=>whnf);refine pw_so ?_;refine po_all ?_;(conv=>whnf);refine pw_ret ?_;(conv=>whnf);cases H; rfl
            · (conv=>whnf);refine pw_skip ?_;(conv=>whnf);obtain ⟨r39, h40, h41, h42⟩ := obndS_some H;refine pw_joinS (ρ := Unit) (fun e => ⟨[], ⟨1, [(0, .rw [(VS 1 (a0.map eI)), (VS 1 (a1.map eI)), (.int .i64 a2), (VS 2 (a3.map e_SI))])], false⟩⟩) r39 ?_ ?_
              · refine pw_so ?_;refine po_all ?_;(conv=>whnf);refine pw_block ?_;refine pw_loop (τ := Int) (fun e => ⟨[(1, (.pointer (some ⟨0, 0, none⟩))), (5, (.int .i64 e))], ⟨1, [(0, .rw [(VS 1 (a0.map eI)), (VS 1 (a1.map eI)), (.int .i64 a2), (VS 2 (a3.map e_SI))])], false⟩⟩) h40 ?_ (fun _ => Nat.le_of_ble_eq_true rfl) ?_
                · exact .sub' (Nat.le_of_ble_eq_true rfl) (.cons rfl (.cons rfl .nil))
                · intro e43 x44 h45;refine pw_seq ?_;refine pw_so ?_;refine po_all ?_;(conv=>whnf);refine pw_cond ?_;(conv=>whnf);refine pbr_oite h45 (fun _ h45 => ?_) (fun _ h45 => ?_)
                  · (conv=>whnf);refine pw_skip ?_;(conv=>whnf);refine pw_seq ?_;refine pw_block ?_;refine pw_seq ?_;refine pw_so ?_;refine po_all ?_;(conv=>whnf);refine pbr_ogrd h45 (fun _ h45 => ?_);(conv=>whnf);refine nth_o (l := a3) h45 (fun x46 _ h45 => ?_);(conv=>whnf);obtain ⟨y47, h48, h45⟩ := obnd_some h45;refine (c91 h48).go ?_;(conv=>whnf);refine pw_cond ?_;(conv=>whnf);refine pbr_oite h45 (fun _ h45 => ?_) (fun _ h45 => ?_)
                    · (conv=>whnf);refine pw_so ?_;refine po_all ?_;(conv=>whnf);refine pw_ret ?_;(conv=>whnf);cases h45;refine ⟨_, rfl, ?_⟩; rintro rfl;(conv=>whnf);obtain rfl := h42 _ rfl; rfl
                    · (conv=>whnf);refine pw_skip ?_;(conv=>whnf);refine pw_seq ?_;refine pw_sd ?_;(conv=>whnf);refine oslH_o (f := e_SI) h45 (fun m50 _ h45 h51 h52 => ?_);refine pbr_t (ile_t h51.1) ?_;(conv=>whnf);refine pbr_t (ile_t (by rw [List.length_map];exact h51.2)) ?_; rw [h52];(conv=>whnf);refine pbr_t (by assumption) ?_;(conv=>whnf);refine nth_o (l := a3) h45 (fun x53 _ h45 => ?_);(conv=>whnf);refine ⟨?_, trivial⟩;(conv=>whnf);obtain ⟨y54, h55, h45⟩ := obnd_some h45;refine (c92 h55).go ?_;(conv=>whnf);refine ⟨by repeat (first | exact trivial | refine And.intro rfl ?_), ?_⟩;(conv=>whnf);refine pw_cond ?_;(conv=>whnf)
                      refine pbr_oite h45 (fun _ h45 => ?_) (fun _ h45 => ?_)
                      · (conv=>whnf);refine pw_so ?_;refine po_all ?_;(conv=>whnf);refine pw_ret ?_;(conv=>whnf);cases h45;refine ⟨_, rfl, ?_⟩; rintro rfl;(conv=>whnf);obtain rfl := h42 _ rfl; rfl
                      · (conv=>whnf);refine pw_skip ?_;(conv=>whnf);refine pw_sd ?_;(conv=>whnf);refine pbr_t (by assumption) ?_;(conv=>whnf);refine nth_o (l := a3) h45 (fun x57 _ h45 => ?_);(conv=>whnf);refine ⟨?_, trivial⟩;(conv=>whnf);obtain ⟨y58, h59, h45⟩ := obnd_some h45;refine (c15 h59).go ?_;(conv=>whnf);refine ⟨by repeat (first | exact trivial | refine And.intro rfl ?_), ?_⟩;(conv=>whnf);refine pw_cond ?_;(conv=>whnf);refine pbr_oite h45 (fun _ h45 => ?_) (fun _ h45 => ?_)
                        · (conv=>whnf);refine pw_so ?_;refine po_all ?_;(conv=>whnf);refine pw_ret ?_;(conv=>whnf);cases h45;refine ⟨_, rfl, ?_⟩; rintro rfl;(conv=>whnf);obtain rfl := h42 _ rfl; rfl
                        · (conv=>whnf);refine pw_skip ?_;(conv=>whnf);refine pw_ops ?_;refine po_all ?_;(conv=>whnf);cases h45;refine ⟨_, rfl, ?_⟩;exact .sub' (Nat.le_of_ble_eq_true rfl) (.cons rfl (.cons rfl .nil))
                  · (conv=>whnf);refine pw_exit ?_;(conv=>whnf);cases h45;refine ⟨_, rfl, ?_⟩; rintro rfl;(conv=>whnf);exact ⟨_, rfl, ⟨.nil, rfl⟩⟩
              · intro r62 hr; have H := h41 _ hr;refine pw_so ?_;refine po_all ?_;(conv=>whnf);refine pw_ret ?_;(conv=>whnf);cases H; rfl

/-- guidevane/guidevaneref09.RulesErr -/
noncomputable def f39  (a0 : List Int) (a1 : List Int) (a2 : Int) (a3 : List (ByteArray × Int)) : Option Int :=
  obnd (f46 a0 a1 a2 a3) fun (y1 : Int × Int) =>
  some y1.2
set_option maxHeartbeats 1000000 in
theorem c39  {a0 : List Int} {a1 : List Int} {a2 : Int} {a3 : List (ByteArray × Int)} {x : Int} (H : f39 a0 a1 a2 a3 = some x) : ICalls E 39 [(.agg ⟨[(VS 1 (a0.map eI)), (VS 1 (a1.map eI)), (.int .i64 a2), (VS 2 (a3.map e_SI))]⟩)] AHeap.none fun v _ => v = (.int .i64 x) := by
  refine icalls_fn (pfnw rfl ?_); unfold f39 at H;(conv=>whnf);refine pw_so ?_;refine po_all ?_;(conv=>whnf);refine pw_so ?_;refine po_all ?_;(conv=>whnf);obtain ⟨y1, h2, H⟩ := obnd_some H;refine (c46 h2).go ?_;(conv=>whnf);refine pw_so ?_;refine po_all ?_;(conv=>whnf);refine pw_ret ?_;(conv=>whnf);cases H; rfl

/-- guidevane/guidevaneref09.DeviationErr -/
noncomputable def f40  (a0 : Int) : Option Int :=
  obnd (f15 a0 (0 : Int) (1000000 : Int)) fun (y1 : Bool) =>
  oite (!y1) (
   some (2 : Int)
    ) (
   some (0 : Int)
    )
set_option maxHeartbeats 1000000 in
theorem c40  {a0 : Int} {x : Int} (H : f40 a0 = some x) : ICalls E 40 [(.int .i64 a0)] AHeap.none fun v _ => v = (.int .i64 x) := by
  refine icalls_fn (pfnw rfl ?_); unfold f40 at H;(conv=>whnf);refine pw_so ?_;refine po_all ?_;(conv=>whnf);refine pw_seq ?_;refine pw_so ?_;refine po_all ?_;(conv=>whnf);obtain ⟨y1, h2, H⟩ := obnd_some H;refine (c15 h2).go ?_;(conv=>whnf);refine pw_cond ?_;(conv=>whnf);refine pbr_oite H (fun _ H => ?_) (fun _ H => ?_)
  · (conv=>whnf);refine pw_so ?_;refine po_all ?_;(conv=>whnf);refine pw_ret ?_;(conv=>whnf);cases H; rfl
  · (conv=>whnf);refine pw_skip ?_;(conv=>whnf);refine pw_so ?_;refine po_all ?_;(conv=>whnf);refine pw_ret ?_;(conv=>whnf);cases H; rfl

/-- guidevane/guidevaneref09.StateErr -/
noncomputable def f48  (a0 : List Int) (_ : List Int) (_ : Int) (_ : List (ByteArray × Int)) (a4 : Int) (a5 : Int) (a6 : Int) : Option Int :=
  obnd (
   obnd (f15 a4 (0 : Int) ((a0.map eI).length : Int)) fun (y5 : Bool) =>
   oite (!y5) (
    some true
     ) (
    obnd (f15 a5 (0 : Int) (1000000 : Int)) fun (y7 : Bool) =>
    some (!y7)
     )
    ) fun (r1 : Bool) =>
  oite r1 (
   some (2 : Int)
    ) (
   obnd (f40 a6) fun (y9 : Int) =>
   oite ((!(ieq y9 (0 : Int)))) (
    some y9
     ) (
    obnd (
     oite ((ieq a4 (0 : Int))) (
      some (!(ieq a5 (0 : Int)))
       ) (
      some false
       )
      ) fun (r11 : Bool) =>
    oite r11 (
     some (13 : Int)
      ) (
     some (0 : Int)
      )
     )
    )
set_option maxHeartbeats 1000000 in
theorem c48  {a0 : List Int} {a1 : List Int} {a2 : Int} {a3 : List (ByteArray × Int)} {a4 : Int} {a5 : Int} {a6 : Int} {x : Int} (H : f48 a0 a1 a2 a3 a4 a5 a6 = some x) : ICalls E 48 [(.agg ⟨[(VS 1 (a0.map eI)), (VS 1 (a1.map eI)), (.int .i64 a2), (VS 2 (a3.map e_SI))]⟩), (.agg ⟨[(.int .i64 a4), (.int .i64 a5), (.int .i64 a6)]⟩)] AHeap.none fun v _ => v = (.int .i64 x) := by
  refine icalls_fn (pfnw rfl ?_); unfold f48 at H;(conv=>whnf);refine pw_so ?_;refine po_all ?_;(conv=>whnf);refine pw_seq ?_;obtain ⟨r1, h2, H⟩ := obnd_some H;refine pw_join (ρ := Bool) (fun e => ⟨[(3, (.pointer (some ⟨1, 0, none⟩))), (18, (.bool e))], ⟨2, [(1, .rw [(.int .i64 a4), (.int .i64 a5), (.int .i64 a6)]), (0, .rw [(VS 1 (a0.map eI)), (VS 1 (a1.map eI)), (.int .i64 a2), (VS 2 (a3.map e_SI))])], false⟩⟩) r1 ?_ ?_
  · refine pw_ops ?_;refine po_all ?_;(conv=>whnf);obtain ⟨y5, h6, h2⟩ := obnd_some h2;refine (c15 h6).go ?_;(conv=>whnf);refine pbr_oite h2 (fun _ h2 => ?_) (fun _ h2 => ?_)
    · (conv=>whnf);refine pbr_t (by assumption) ?_;(conv=>whnf);refine pbr_t (by assumption) ?_;(conv=>whnf);refine pbr_t (by assumption) ?_;(conv=>whnf);refine pbr_t (by assumption) ?_;(conv=>whnf);cases h2;exact ⟨(.cons rfl (.cons rfl .nil)), rfl⟩
    · (conv=>whnf);refine pbr_f (by assumption) ?_;(conv=>whnf);refine pbr_f (by assumption) ?_;(conv=>whnf);obtain ⟨y7, h8, h2⟩ := obnd_some h2;refine (c15 h8).go ?_;(conv=>whnf);refine pbr_f (by assumption) ?_;(conv=>whnf);refine pbr_f (by assumption) ?_;(conv=>whnf);cases h2;exact ⟨(.cons rfl (.cons rfl .nil)), rfl⟩
  · refine pw_cond ?_;(conv=>whnf);refine pbr_oite H (fun _ H => ?_) (fun _ H => ?_)
    · (conv=>whnf);refine pw_so ?_;refine po_all ?_;(conv=>whnf);refine pw_ret ?_;(conv=>whnf);cases H; rfl
    · (conv=>whnf);refine pw_skip ?_;(conv=>whnf);refine pw_seq ?_;refine pw_so ?_;refine po_all ?_;(conv=>whnf);obtain ⟨y9, h10, H⟩ := obnd_some H;refine (c40 h10).go ?_;(conv=>whnf);refine pw_so ?_;refine po_all ?_;(conv=>whnf);refine pw_cond ?_;(conv=>whnf);refine pbr_oite H (fun _ H => ?_) (fun _ H => ?_)
      · (conv=>whnf);refine pw_so ?_;refine po_all ?_;(conv=>whnf);refine pw_ret ?_;(conv=>whnf);cases H; rfl
      · (conv=>whnf);refine pw_skip ?_;(conv=>whnf);refine pw_seq ?_;obtain ⟨r11, h12, H⟩ := obnd_some H;refine pw_join (ρ := Bool) (fun e => ⟨[(32, (.bool e))], ⟨2, [(1, .rw [(.int .i64 a4), (.int .i64 a5), (.int .i64 a6)]), (0, .rw [(VS 1 (a0.map eI)), (VS 1 (a1.map eI)), (.int .i64 a2), (VS 2 (a3.map e_SI))])], false⟩⟩) r11 ?_ ?_
        · refine pw_ops ?_;refine po_all ?_;(conv=>whnf);refine pbr_oite h12 (fun _ h12 => ?_) (fun _ h12 => ?_)
          · (conv=>whnf);refine pbr_t (by assumption) ?_;(conv=>whnf);refine pbr_t (by assumption) ?_;(conv=>whnf);refine pbr_t (by assumption) ?_;(conv=>whnf);cases h12;exact ⟨(.cons rfl .nil), rfl⟩
          · (conv=>whnf);refine pbr_f (by assumption) ?_;(conv=>whnf);refine pbr_f (by assumption) ?_;(conv=>whnf);refine pbr_f (by assumption) ?_;(conv=>whnf);cases h12;exact ⟨(.cons rfl .nil), rfl⟩
        · refine pw_cond ?_;(conv=>whnf);refine pbr_oite H (fun _ H => ?_) (fun _ H => ?_)
          · (conv=>whnf);refine pw_so ?_;refine po_all ?_;(conv=>whnf);refine pw_ret ?_;(conv=>whnf);cases H; rfl
          · (conv=>whnf);refine pw_skip ?_;(conv=>whnf);refine pw_so ?_;refine po_all ?_;(conv=>whnf);refine pw_ret ?_;(conv=>whnf);cases H; rfl

/-- guidevane/guidevaneref09.LowerErr -/
noncomputable def f170  (_ : List Int) (a1 : List Int) (a2 : Int) (a3 : List (ByteArray × Int)) (a4 : Int) (a5 : Int) (a6 : Int) (a7 : ByteArray) (a8 : Int) : Option Int :=
  obnd (f91 a7) fun (y1 : Bool) =>
  oite (!y1) (
   some (4 : Int)
    ) (
   obnd (f92 a3 a7) fun (y3 : Int) =>
   oite ((ilt y3 (0 : Int))) (
    some (6 : Int)
     ) (
    obnd (f15 a8 (0 : Int) (IntKind.i64.wrap (a4 - (1 : Int)))) fun (y5 : Bool) =>
    oite (!y5) (
     some (2 : Int)
      ) (
     ogrd ((ile 0 y3)) (
     obnd (a3[y3.toNat]?) fun (x7 : ByteArray × Int) =>
     oite ((ilt x7.2 a4)) (
      some (18 : Int)
       ) (
      oite ((ilt a5 a2)) (
       some (24 : Int)
        ) (
       obndS (
        oloop (τ := Int) (ρ := (Unit) ⊕ Int) (fun e12 =>
         oite ((ilt e12 a4)) (
          ogrd ((ile 0 e12)) (
          obnd (a1[e12.toNat]?) fun (x15 : Int) =>
          oite ((ile x15 a6)) (
           some (.inr (.inr ((24 : Int))))
            ) (
           some (.inl (IntKind.i64.wrap (e12 + (1 : Int))))
            )
          )
           ) (
          some (.inr (.inl ()))
           )
          ) a8
         ) fun (_ : Unit) =>
       some (0 : Int)
        )
       )
     )
      )
     )
    )
set_option maxHeartbeats 1000000 in
theorem c170  {a0 : List Int} {a1 : List Int} {a2 : Int} {a3 : List (ByteArray × Int)} {a4 : Int} {a5 : Int} {a6 : Int} {a7 : ByteArray} {a8 : Int} {x : Int} (H : f170 a0 a1 a2 a3 a4 a5 a6 a7 a8 = some x) : ICalls E 170 [(.agg ⟨[(VS 1 (a0.map eI)), (VS 1 (a1.map eI)), (.int .i64 a2), (VS 2 (a3.map e_SI))]⟩), (.agg ⟨[(.int .i64 a4), (.int .i64 a5), (.int .i64 a6)]⟩), (.agg ⟨[(.string a7), (.int .i64 a8)]⟩)] AHeap.none fun v _ => v = (.int .i64 x) := by
  refine icalls_fn (pfnw rfl ?_); unfold f170 at H;(conv=>whnf);refine pw_so ?_;refine po_all ?_;(conv=>whnf);refine pw_seq ?_;refine pw_so ?_;refine po_all ?_;(conv=>whnf);obtain ⟨y1, h2, H⟩ := obnd_some H;refine (c91 h2).go ?_;(conv=>whnf);refine pw_cond ?_;(conv=>whnf);refine pbr_oite H (fun _ H => ?_) (fun _ H => ?_)
  · (conv=>whnf);refine pw_so ?_;refine po_all ?_;(conv=>whnf);refine pw_ret ?_;(conv=>whnf);cases H; rfl
  · (conv=>whnf);refine pw_skip ?_;(conv=>whnf);refine pw_so ?_;refine po_all ?_;(conv=>whnf);obtain ⟨y3, h4, H⟩ := obnd_some H;refine (c92 h4).go ?_;(conv=>whnf);refine pw_seq ?_;refine pw_so ?_;refine po_all ?_;(conv=>whnf);refine pw_cond ?_;(conv=>whnf);refine pbr_oite H (fun _ H => ?_) (fun _ H => ?_)
    · (conv=>whnf);refine pw_so ?_;refine po_all ?_;(conv=>whnf);refine pw_ret ?_;(conv=>whnf);cases H; rfl
    · (conv=>whnf);refine pw_skip ?_;(conv=>whnf);refine pw_seq ?_;refine pw_so ?_;refine po_all ?_;(conv=>whnf);obtain ⟨y5, h6, H⟩ := obnd_some H;refine (c15 h6).go ?_;(conv=>whnf);refine pw_cond ?_;(conv=>whnf);refine pbr_oite H (fun _ H => ?_) (fun _ H => ?_)
      · (conv=>whnf);refine pw_so ?_;refine po_all ?_;(conv=>whnf);refine pw_ret ?_;(conv=>whnf);cases H; rfl
      · (conv=>whnf);refine pw_skip ?_;(conv=>whnf);refine pw_seq ?_;refine pw_sd ?_;(conv=>whnf);refine pbr_ogrd H (fun _ H => ?_);(conv=>whnf);refine nth_o (l := a3) H (fun x7 _ H => ?_);(conv=>whnf);refine pw_cond ?_;(conv=>whnf);refine pbr_oite H (fun _ H => ?_) (fun _ H => ?_)
        · (conv=>whnf);refine pw_so ?_;refine po_all ?_;(conv=>whnf);refine pw_ret ?_;(conv=>whnf);cases H; rfl
        · (conv=>whnf);refine pw_skip ?_;(conv=>whnf);refine pw_seq ?_;refine pw_so ?_;refine po_all ?_;(conv=>whnf);refine pw_cond ?_;(conv=>whnf);refine pbr_oite H (fun _ H => ?_) (fun _ H => ?_)
          · (conv=>whnf);refine pw_so ?_;refine po_all ?_;(conv=>whnf);refine pw_ret ?_;(conv=>whnf);cases H; rfl
          · (conv=>whnf);refine pw_skip ?_;(conv=>whnf);obtain ⟨r8, h9, h10, h11⟩ := obndS_some H;refine pw_joinS (ρ := Unit) (fun e => ⟨[], ⟨3, [(2, .rw [(.string a7), (.int .i64 a8)]), (1, .rw [(.int .i64 a4), (.int .i64 a5), (.int .i64 a6)]), (0, .rw [(VS 1 (a0.map eI)), (VS 1 (a1.map eI)), (.int .i64 a2), (VS 2 (a3.map e_SI))])], false⟩⟩) r8 ?_ ?_
            · refine pw_so ?_;refine po_all ?_;(conv=>whnf);refine pw_block ?_;refine pw_loop (τ := Int) (fun e => ⟨[(3, (.pointer (some ⟨0, 0, none⟩))), (4, (.pointer (some ⟨1, 0, none⟩))), (8, (.int .i64 e))], ⟨3, [(2, .rw [(.string a7), (.int .i64 a8)]), (1, .rw [(.int .i64 a4), (.int .i64 a5), (.int .i64 a6)]), (0, .rw [(VS 1 (a0.map eI)), (VS 1 (a1.map eI)), (.int .i64 a2), (VS 2 (a3.map e_SI))])], false⟩⟩) h9 ?_ (fun _ => Nat.le_of_ble_eq_true rfl) ?_
              · exact .sub' (Nat.le_of_ble_eq_true rfl) (.cons rfl (.cons rfl (.cons rfl .nil)))
              · intro e12 x13 h14;refine pw_seq ?_;refine pw_so ?_;refine po_all ?_;(conv=>whnf);refine pw_cond ?_;(conv=>whnf);refine pbr_oite h14 (fun _ h14 => ?_) (fun _ h14 => ?_)
                · (conv=>whnf);refine pw_skip ?_;(conv=>whnf);refine pw_seq ?_;refine pw_block ?_;refine pw_sd ?_;(conv=>whnf);refine pbr_ogrd h14 (fun _ h14 => ?_);(conv=>whnf);refine nth_o (l := a1) h14 (fun x15 _ h14 => ?_);(conv=>whnf);refine pw_cond ?_;(conv=>whnf);refine pbr_oite h14 (fun _ h14 => ?_) (fun _ h14 => ?_)
                  · (conv=>whnf);refine pw_so ?_;refine po_all ?_;(conv=>whnf);refine pw_ret ?_;(conv=>whnf);cases h14;refine ⟨_, rfl, ?_⟩; rintro rfl;(conv=>whnf);obtain rfl := h11 _ rfl; rfl
                  · (conv=>whnf);refine pw_skip ?_;(conv=>whnf);refine pw_ops ?_;refine po_all ?_;(conv=>whnf);cases h14;refine ⟨_, rfl, ?_⟩;exact .sub' (Nat.le_of_ble_eq_true rfl) (.cons rfl (.cons rfl (.cons rfl .nil)))
                · (conv=>whnf);refine pw_exit ?_;(conv=>whnf);cases h14;refine ⟨_, rfl, ?_⟩; rintro rfl;(conv=>whnf);exact ⟨_, rfl, ⟨.nil, rfl⟩⟩
            · intro r18 hr; have H := h10 _ hr;refine pw_so ?_;refine po_all ?_;(conv=>whnf);refine pw_ret ?_;(conv=>whnf);cases H; rfl

/-- guidevane/guidevaneref09.Lowered -/
noncomputable def f171  (_ : Int) (_ : Int) (a2 : Int) (_ : ByteArray) (a4 : Int) : Option (Int × Int × Int) :=
  some (a4, (0 : Int), a2)
set_option maxHeartbeats 1000000 in
theorem c171  {a0 : Int} {a1 : Int} {a2 : Int} {a3 : ByteArray} {a4 : Int} {x : Int × Int × Int} (H : f171 a0 a1 a2 a3 a4 = some x) : ICalls E 171 [(.agg ⟨[(.int .i64 a0), (.int .i64 a1), (.int .i64 a2)]⟩), (.agg ⟨[(.string a3), (.int .i64 a4)]⟩)] AHeap.none fun v _ => v = (.agg ⟨[(.int .i64 x.1), (.int .i64 x.2.1), (.int .i64 x.2.2)]⟩) := by
  refine icalls_fn (pfnw rfl ?_); unfold f171 at H;(conv=>whnf);refine pw_so ?_;refine po_all ?_;(conv=>whnf);refine pw_so ?_;refine po_all ?_;(conv=>whnf);refine pw_ret ?_;(conv=>whnf);cases H; rfl

/-- guidevane/guidevanelaw09.DamLowers -/
noncomputable def f164  (a0 : List Int) (a1 : List Int) (a2 : Int) (a3 : List (ByteArray × Int)) (a4 : Int) (a5 : Int) (a6 : Int) (a7 : ByteArray) (a8 : Int) : Option Bool :=
  obnd (f10) fun (y1 : Bool) =>
  oite (!y1) (
   some false
    ) (
   obnd (
    obnd (f35 a0 a1 a2 a3) fun (y7 : Bool) =>
    oite (!y7) (
     some true
      ) (
     some (ilt (30 : Int) (a7.size : Int))
      )
     ) fun (r3 : Bool) =>
   oite r3 (
    some true
     ) (
    obnd (
     obnd (f37 a0 a1 a2 a3) fun (y13 : (List Int) × (List Int) × Int × (List (ByteArray × Int))) =>
     obnd (f169 y13.1 y13.2.1 y13.2.2.1 y13.2.2.2 a4 a5 a6 a7 a8) fun (y15 : Int × Int × Int × Int) =>
     some (y15.2.2.2, y15.1, y15.2.1, y15.2.2.1)
      ) fun (r9 : Int × Int × Int × Int) =>
    obnd (f39 a0 a1 a2 a3) fun (y17 : Int) =>
    obnd (
     oite ((ieq y17 (0 : Int))) (
      obnd (f48 a0 a1 a2 a3 a4 a5 a6) fun (y23 : Int) =>
      some y23
       ) (
      some y17
       )
      ) fun (r19 : Int) =>
    obnd (
     oite ((ieq r19 (0 : Int))) (
      obnd (f170 a0 a1 a2 a3 a4 a5 a6 a7 a8) fun (y29 : Int) =>
      some y29
       ) (
      some r19
       )
      ) fun (r25 : Int) =>
    oite ((!(ieq r25 (0 : Int)))) (
     obnd (
      oite ((ieq r9.1 r25)) (
       some ((ieq r9.2.1 (0 : Int)) && ((ieq r9.2.2.1 (0 : Int)) && ((ieq r9.2.2.2 (0 : Int)) && true)))
        ) (
       some false
        )
       ) fun (r31 : Bool) =>
     some r31
      ) (
     oite ((ieq r9.1 (0 : Int))) (
      obnd (f171 a4 a5 a6 a7 a8) fun (y33 : Int × Int × Int) =>
      some ((ieq r9.2.1 y33.1) && ((ieq r9.2.2.1 y33.2.1) && ((ieq r9.2.2.2 y33.2.2) && true)))
       ) (
      some false
       )
      )
     )
    )
set_option maxHeartbeats 1000000 in
theorem c164  {a0 : List Int} {a1 : List Int} {a2 : Int} {a3 : List (ByteArray × Int)} {a4 : Int} {a5 : Int} {a6 : Int} {a7 : ByteArray} {a8 : Int} {x : Bool} (H : f164 a0 a1 a2 a3 a4 a5 a6 a7 a8 = some x) : ICalls E 164 [(.agg ⟨[(VS 1 (a0.map eI)), (VS 1 (a1.map eI)), (.int .i64 a2), (VS 2 (a3.map e_SI))]⟩), (.agg ⟨[(.int .i64 a4), (.int .i64 a5), (.int .i64 a6)]⟩), (.agg ⟨[(.string a7), (.int .i64 a8)]⟩)] AHeap.none fun v _ => v = (.bool x) := by
  refine icalls_fn (pfnw rfl ?_); unfold f164 at H;(conv=>whnf);refine pw_so ?_;refine po_all ?_;(conv=>whnf);refine pw_seq ?_;refine pw_so ?_;refine po_all ?_;(conv=>whnf);obtain ⟨y1, h2, H⟩ := obnd_some H;refine (c10 h2).go ?_;(conv=>whnf);refine pw_cond ?_;(conv=>whnf);refine pbr_oite H (fun _ H => ?_) (fun _ H => ?_)
  · (conv=>whnf);refine pw_so ?_;refine po_all ?_;(conv=>whnf);refine pw_ret ?_;(conv=>whnf);cases H; rfl
  · (conv=>whnf);refine pw_skip ?_;(conv=>whnf);refine pw_seq ?_;obtain ⟨r3, h4, H⟩ := obnd_some H;refine pw_join (ρ := Bool) (fun e => ⟨[(3, (.pointer (some ⟨0, 0, none⟩))), (4, (.pointer (some ⟨1, 0, none⟩))), (5, (.pointer (some ⟨2, 0, none⟩))), (20, (.bool e))], ⟨3, [(2, .rw [(.string a7), (.int .i64 a8)]), (1, .rw [(.int .i64 a4), (.int .i64 a5), (.int .i64 a6)]), (0, .rw [(VS 1 (a0.map eI)), (VS 1 (a1.map eI)), (.int .i64 a2), (VS 2 (a3.map e_SI))])], false⟩⟩) r3 ?_ ?_
    · refine pw_ops ?_;refine po_all ?_;(conv=>whnf);obtain ⟨y7, h8, h4⟩ := obnd_some h4;refine (c35 h8).go ?_;(conv=>whnf);refine pbr_oite h4 (fun _ h4 => ?_) (fun _ h4 => ?_)
      · (conv=>whnf);refine pbr_t (by assumption) ?_;(conv=>whnf);refine pbr_t (by assumption) ?_;(conv=>whnf);refine pbr_t (by assumption) ?_;(conv=>whnf);refine pbr_t (by assumption) ?_;(conv=>whnf);cases h4;exact ⟨(.cons rfl (.cons rfl (.cons rfl (.cons rfl .nil)))), rfl⟩
      · (conv=>whnf);refine pbr_f (by assumption) ?_;(conv=>whnf);refine pbr_f (by assumption) ?_;(conv=>whnf);refine pbr_f (by assumption) ?_;(conv=>whnf);refine pbr_f (by assumption) ?_;(conv=>whnf);cases h4;exact ⟨(.cons rfl (.cons rfl (.cons rfl (.cons rfl .nil)))), rfl⟩
    · refine pw_cond ?_;(conv=>whnf);refine pbr_oite H (fun _ H => ?_) (fun _ H => ?_)
      · (conv=>whnf);refine pw_so ?_;refine po_all ?_;(conv=>whnf);refine pw_ret ?_;(conv=>whnf);cases H; rfl
      · (conv=>whnf);refine pw_skip ?_;(conv=>whnf);obtain ⟨r9, h10, H⟩ := obnd_some H;refine pw_join (ρ := Int × Int × Int × Int) (fun e => ⟨[(3, (.pointer (some ⟨0, 0, none⟩))), (4, (.pointer (some ⟨1, 0, none⟩))), (5, (.pointer (some ⟨2, 0, none⟩))), (7, (.pointer (some ⟨3, 0, none⟩))), (8, (.int .i64 e.1))], ⟨4, [(3, .rw [(.int .i64 e.2.1), (.int .i64 e.2.2.1), (.int .i64 e.2.2.2)]), (2, .rw [(.string a7), (.int .i64 a8)]), (1, .rw [(.int .i64 a4), (.int .i64 a5), (.int .i64 a6)]), (0, .rw [(VS 1 (a0.map eI)), (VS 1 (a1.map eI)), (.int .i64 a2), (VS 2 (a3.map e_SI))])], false⟩⟩) r9 ?_ ?_
        · refine pw_draw ?_;(conv=>whnf);refine ⟨?_, ?_⟩
          · (conv=>whnf);obtain ⟨y13, h14, h10⟩ := obnd_some h10;refine (c37 h14).go ?_;(conv=>whnf);refine ⟨by repeat (first | exact trivial | refine And.intro rfl ?_), ?_⟩;(conv=>whnf);refine ⟨?_, ?_⟩
            · (conv=>whnf);obtain ⟨y15, h16, h10⟩ := obnd_some h10;refine (c169 h16).go ?_;(conv=>whnf);refine ⟨by repeat (first | exact trivial | refine And.intro rfl ?_), ?_⟩;(conv=>whnf);refine ⟨?_, trivial⟩;(conv=>whnf);refine ⟨by repeat (first | exact trivial | refine And.intro rfl ?_), ?_⟩;(conv=>whnf);refine ⟨?_, trivial⟩;(conv=>whnf);refine ⟨by repeat (first | exact trivial | refine And.intro rfl ?_), ?_⟩;(conv=>whnf);cases h10;exact ⟨(.cons rfl (.cons rfl (.cons rfl (.cons rfl (.cons rfl .nil))))), rfl⟩
            · obtain ⟨y15, h16, h10⟩ := obnd_some h10;(conv=>whnf);refine ⟨?_, trivial⟩;(conv=>whnf);refine ⟨by repeat (first | exact trivial | refine And.intro rfl ?_), ?_⟩;(conv=>whnf);refine ⟨?_, trivial⟩;(conv=>whnf);refine (c169 h16).go ?_;(conv=>whnf);refine ⟨by repeat (first | exact trivial | refine And.intro rfl ?_), ?_⟩;(conv=>whnf);refine ⟨?_, trivial⟩;(conv=>whnf);refine ⟨by repeat (first | exact trivial | refine And.intro rfl ?_), ?_⟩;(conv=>whnf);cases h10;exact ⟨(.cons rfl (.cons rfl (.cons rfl (.cons rfl (.cons rfl .nil))))), rfl⟩
          · obtain ⟨y13, h14, h10⟩ := obnd_some h10;obtain ⟨y15, h16, h10⟩ := obnd_some h10;(conv=>whnf);refine ⟨?_, trivial⟩;(conv=>whnf);refine ⟨by repeat (first | exact trivial | refine And.intro rfl ?_), ?_⟩;(conv=>whnf);refine ⟨?_, trivial⟩;(conv=>whnf);refine (c37 h14).go ?_;(conv=>whnf);refine ⟨by repeat (first | exact trivial | refine And.intro rfl ?_), ?_⟩;(conv=>whnf);refine ⟨?_, trivial⟩;(conv=>whnf);refine (c169 h16).go ?_;(conv=>whnf);refine ⟨by repeat (first | exact trivial | refine And.intro rfl ?_), ?_⟩;(conv=>whnf);refine ⟨?_, trivial⟩;(conv=>whnf);refine ⟨by repeat (first | exact trivial | refine And.intro rfl ?_), ?_⟩
            (conv=>whnf);cases h10;exact ⟨(.cons rfl (.cons rfl (.cons rfl (.cons rfl (.cons rfl .nil))))), rfl⟩
        · refine pw_so ?_;refine po_all ?_;(conv=>whnf);obtain ⟨y17, h18, H⟩ := obnd_some H;refine (c39 h18).go ?_;(conv=>whnf);obtain ⟨r19, h20, H⟩ := obnd_some H;refine pw_join (ρ := Int) (fun e => ⟨[(3, (.pointer (some ⟨0, 0, none⟩))), (4, (.pointer (some ⟨1, 0, none⟩))), (5, (.pointer (some ⟨2, 0, none⟩))), (7, (.pointer (some ⟨3, 0, none⟩))), (8, (.int .i64 r9.1)), (9, (.int .i64 e))], ⟨4, [(3, .rw [(.int .i64 r9.2.1), (.int .i64 r9.2.2.1), (.int .i64 r9.2.2.2)]), (2, .rw [(.string a7), (.int .i64 a8)]), (1, .rw [(.int .i64 a4), (.int .i64 a5), (.int .i64 a6)]), (0, .rw [(VS 1 (a0.map eI)), (VS 1 (a1.map eI)), (.int .i64 a2), (VS 2 (a3.map e_SI))])], false⟩⟩) r19 ?_ ?_
          · refine pw_so ?_;refine po_all ?_;(conv=>whnf);refine pw_cond ?_;(conv=>whnf);refine pbr_oite h20 (fun _ h20 => ?_) (fun _ h20 => ?_)
            · (conv=>whnf);refine pw_ops ?_;refine po_all ?_;(conv=>whnf);obtain ⟨y23, h24, h20⟩ := obnd_some h20;refine (c48 h24).go ?_;(conv=>whnf);cases h20;exact ⟨(.cons rfl (.cons rfl (.cons rfl (.cons rfl (.cons rfl (.cons rfl .nil)))))), rfl⟩
            · (conv=>whnf);refine pw_skip ?_;(conv=>whnf);cases h20;exact ⟨(.cons rfl (.cons rfl (.cons rfl (.cons rfl (.cons rfl (.cons rfl .nil)))))), rfl⟩
          · obtain ⟨r25, h26, H⟩ := obnd_some H;refine pw_join (ρ := Int) (fun e => ⟨[(4, (.pointer (some ⟨1, 0, none⟩))), (5, (.pointer (some ⟨2, 0, none⟩))), (7, (.pointer (some ⟨3, 0, none⟩))), (8, (.int .i64 r9.1)), (9, (.int .i64 e))], ⟨4, [(3, .rw [(.int .i64 r9.2.1), (.int .i64 r9.2.2.1), (.int .i64 r9.2.2.2)]), (2, .rw [(.string a7), (.int .i64 a8)]), (1, .rw [(.int .i64 a4), (.int .i64 a5), (.int .i64 a6)]), (0, .rw [(VS 1 (a0.map eI)), (VS 1 (a1.map eI)), (.int .i64 a2), (VS 2 (a3.map e_SI))])], false⟩⟩) r25 ?_ ?_
            · refine pw_so ?_;refine po_all ?_;(conv=>whnf);refine pw_cond ?_;(conv=>whnf);refine pbr_oite h26 (fun _ h26 => ?_) (fun _ h26 => ?_)
              · (conv=>whnf);refine pw_ops ?_;refine po_all ?_;(conv=>whnf);obtain ⟨y29, h30, h26⟩ := obnd_some h26;refine (c170 h30).go ?_;(conv=>whnf);cases h26;exact ⟨(.cons rfl (.cons rfl (.cons rfl (.cons rfl (.cons rfl .nil))))), rfl⟩
              · (conv=>whnf);refine pw_skip ?_;(conv=>whnf);cases h26;exact ⟨(.cons rfl (.cons rfl (.cons rfl (.cons rfl (.cons rfl .nil))))), rfl⟩
            · refine pw_seq ?_;refine pw_so ?_;refine po_all ?_;(conv=>whnf);refine pw_cond ?_;(conv=>whnf);refine pbr_oite H (fun _ H => ?_) (fun _ H => ?_)
              · (conv=>whnf);refine pw_so ?_;refine po_ops 4 ?_;(conv=>whnf);obtain ⟨r31, h32, H⟩ := obnd_some H;refine po_seg (τ := Bool) 4 (fun e => ⟨[(51, (.bool e))], ⟨4, [(3, .rw [(.int .i64 r9.2.1), (.int .i64 r9.2.2.1), (.int .i64 r9.2.2.2)]), (2, .rw [(.string a7), (.int .i64 a8)]), (1, .rw [(.int .i64 a4), (.int .i64 a5), (.int .i64 a6)]), (0, .rw [(VS 1 (a0.map eI)), (VS 1 (a1.map eI)), (.int .i64 a2), (VS 2 (a3.map e_SI))])], false⟩⟩) r31 ?_ ?_
                · refine po_all ?_;(conv=>whnf);refine pbr_oite h32 (fun _ h32 => ?_) (fun _ h32 => ?_)
                  · (conv=>whnf);refine pbr_t (by assumption) ?_;(conv=>whnf);refine pbr_t (by assumption) ?_;(conv=>whnf);refine pbr_t (by assumption) ?_;(conv=>whnf);cases h32;exact ⟨(.cons rfl .nil), rfl⟩
                  · (conv=>whnf);refine pbr_f (by assumption) ?_;(conv=>whnf);refine pbr_f (by assumption) ?_;(conv=>whnf);refine pbr_f (by assumption) ?_;(conv=>whnf);cases h32;exact ⟨(.cons rfl .nil), rfl⟩
                · refine po_all ?_;(conv=>whnf);refine pw_ret ?_;(conv=>whnf);cases H; rfl
              · (conv=>whnf);refine pw_skip ?_;(conv=>whnf);refine pw_sd ?_;(conv=>whnf);refine pbr_oite H (fun _ H => ?_) (fun _ H => ?_)
                · (conv=>whnf);refine pbr_t (by assumption) ?_;(conv=>whnf);refine pbr_t (by assumption) ?_;(conv=>whnf);refine ⟨?_, trivial⟩;(conv=>whnf);refine pbr_t (by assumption) ?_;(conv=>whnf);obtain ⟨y33, h34, H⟩ := obnd_some H;refine (c171 h34).go ?_;(conv=>whnf);refine ⟨by repeat (first | exact trivial | refine And.intro rfl ?_), ?_⟩;(conv=>whnf);refine pbr_t (by assumption) ?_;(conv=>whnf);refine pbr_t (by assumption) ?_;(conv=>whnf);refine pw_ret ?_;(conv=>whnf);cases H; rfl
                · (conv=>whnf);refine pbr_f (by assumption) ?_;(conv=>whnf);refine pbr_f (by assumption) ?_;(conv=>whnf);refine ⟨?_, trivial⟩;(conv=>whnf);refine pbr_f (by assumption) ?_;(conv=>whnf);refine pbr_f (by assumption) ?_;(conv=>whnf);refine pbr_f (by assumption) ?_;(conv=>whnf);refine pw_ret ?_;(conv=>whnf);cases H; rfl

/-- guidevane/guidevaneref09.CopyGauges -/
noncomputable def f173  (a0 : List (ByteArray × Int × Int × Int × Int)) : Option ((List (ByteArray × Int × Int × Int × Int))) :=
  ogrd (fits 48 (([] : List (ByteArray × Int × Int × Int × Int)).length + a0.length)) (
  some (([] : List (ByteArray × Int × Int × Int × Int)) ++ a0)
  )
set_option maxHeartbeats 1000000 in
theorem c173  {a0 : List (ByteArray × Int × Int × Int × Int)} {x : (List (ByteArray × Int × Int × Int × Int))} (H : f173 a0 = some x) : ICalls E 173 [(VS 5 (a0.map e_SIIII))] AHeap.none fun v _ => v = (VS 5 (x.map e_SIIII)) := by
  refine ICalls.frz ?_;refine icalls_fn (pfnw rfl ?_); unfold f173 at H;(conv=>whnf);refine pw_so ?_;refine po_all ?_;(conv=>whnf);refine pw_so ?_;refine po_all ?_;(conv=>whnf);refine app_o (l := ([] : List (ByteArray × Int × Int × Int × Int))) (m := a0) (f := e_SIIII) H (by rfl) (by rfl) (by rfl) (fun H => ?_);(conv=>whnf);refine pw_ret ?_;(conv=>whnf);cases H; show ∃ D, Fz _ D 0 (VT 5 _ 0) _;exact ⟨fun _ => false, .vtc⟩

/-- slices.IndexFunc[[]guidevane/api.DamGauge,guidevane/api.DamGauge] -/
noncomputable def f195 (p0 : ByteArray → Int → Int → Int → Int → Option Bool) (a0 : List (ByteArray × Int × Int × Int × Int)) : Option Int :=
  obndS (
   oloop (τ := Int) (ρ := (Unit) ⊕ Int) (fun e5 =>
    oite ((ilt e5 ((a0.map e_SIIII).length : Int))) (
     ogrd ((ile 0 e5)) (
     obnd (a0[e5.toNat]?) fun (x8 : ByteArray × Int × Int × Int × Int) =>
     obnd (p0 x8.1 x8.2.1 x8.2.2.1 x8.2.2.2.1 x8.2.2.2.2) fun (y9 : Bool) =>
     oite y9 (
      some (.inr (.inr (e5)))
       ) (
      some (.inl (IntKind.i64.wrap (e5 + (1 : Int))))
       )
     )
      ) (
     some (.inr (.inl ()))
      )
     ) (0 : Int)
    ) fun (_ : Unit) =>
  some (-1 : Int)
set_option maxHeartbeats 1000000 in
theorem c195 {p0 : ByteArray → Int → Int → Int → Int → Option Bool} {a0 : List (ByteArray × Int × Int × Int × Int)} {g0 : Value} [Cl g0] (hp0 : ∀ y0 y1 y2 y3 y4 y, p0 y0 y1 y2 y3 y4 = some y → ICallV E g0 [(.agg ⟨[(.string y0), (.int .i64 y1), (.int .i64 y2), (.int .i64 y3), (.int .i64 y4)]⟩)] AHeap.none fun v _ => v = (.bool y)) {x : Int} (H : f195 p0 a0 = some x) : ICalls E 195 [(VS 5 (a0.map e_SIIII)), g0] AHeap.none fun v _ => v = (.int .i64 x) := by
  refine icalls_fn (pfnw rfl ?_); unfold f195 at H;(conv=>whnf);refine pw_so ?_;refine po_all ?_;(conv=>whnf);obtain ⟨r1, h2, h3, h4⟩ := obndS_some H;refine pw_joinS (ρ := Unit) (fun e => ⟨[], ⟨0, [], false⟩⟩) r1 ?_ ?_
  · refine pw_so ?_;refine po_all ?_;(conv=>whnf);refine pw_block ?_;refine pw_loop (τ := Int) (fun e => ⟨[(0, (VS 5 (a0.map e_SIIII))), (1, g0), (7, (.int .i64 ((a0.map e_SIIII).length : Int))), (8, (.int .i64 e))], ⟨0, [], false⟩⟩) h2 ?_ (fun _ => Nat.le_of_ble_eq_true rfl) ?_
    · exact .sub' (Nat.le_of_ble_eq_true rfl) (.cons rfl (.cons rfl (.cons rfl (.cons rfl .nil))))
    · intro e5 x6 h7;refine pw_so ?_;refine po_all ?_;(conv=>whnf);refine pw_seq ?_;refine pw_cond ?_;(conv=>whnf);refine pbr_oite h7 (fun _ h7 => ?_) (fun _ h7 => ?_)
      · (conv=>whnf);refine pw_skip ?_;(conv=>whnf);refine pw_seq ?_;refine pw_block ?_;refine pw_so ?_;refine po_all ?_;(conv=>whnf);refine pw_so ?_;refine po_all ?_;(conv=>whnf);refine pbr_ogrd h7 (fun _ h7 => ?_);(conv=>whnf);refine nth_o (l := a0) h7 (fun x8 _ h7 => ?_);(conv=>whnf);obtain ⟨y9, h10, h7⟩ := obnd_some h7;refine ICallV.go (hp0 _ _ _ _ _ _ h10) ?_;(conv=>whnf);refine pw_cond ?_;(conv=>whnf);refine pbr_oite h7 (fun _ h7 => ?_) (fun _ h7 => ?_)
        · (conv=>whnf);refine pw_so ?_;refine po_all ?_;(conv=>whnf);refine pw_ret ?_;(conv=>whnf);cases h7;refine ⟨_, rfl, ?_⟩; rintro rfl;(conv=>whnf);obtain rfl := h4 _ rfl; rfl
        · (conv=>whnf);refine pw_skip ?_;(conv=>whnf);refine pw_ops ?_;refine po_all ?_;(conv=>whnf);cases h7;refine ⟨_, rfl, ?_⟩;exact .sub' (Nat.le_of_ble_eq_true rfl) (.cons rfl (.cons rfl (.cons rfl (.cons rfl .nil))))
      · (conv=>whnf);refine pw_exit ?_;(conv=>whnf);cases h7;refine ⟨_, rfl, ?_⟩; rintro rfl;(conv=>whnf);exact ⟨_, rfl, ⟨.nil, rfl⟩⟩
  · intro r13 hr; have H := h3 _ hr;refine pw_so ?_;refine po_all ?_;(conv=>whnf);refine pw_ret ?_;(conv=>whnf);cases H; rfl

/-- slices.ContainsFunc[[]guidevane/api.DamGauge,guidevane/api.DamGauge] -/
noncomputable def f193 (p0 : ByteArray → Int → Int → Int → Int → Option Bool) (a0 : List (ByteArray × Int × Int × Int × Int)) : Option Bool :=
  obnd (f195 p0 a0) fun (y1 : Int) =>
  some (ile (0 : Int) y1)
set_option maxHeartbeats 1000000 in
theorem c193 {p0 : ByteArray → Int → Int → Int → Int → Option Bool} {a0 : List (ByteArray × Int × Int × Int × Int)} {g0 : Value} [Cl g0] (hp0 : ∀ y0 y1 y2 y3 y4 y, p0 y0 y1 y2 y3 y4 = some y → ICallV E g0 [(.agg ⟨[(.string y0), (.int .i64 y1), (.int .i64 y2), (.int .i64 y3), (.int .i64 y4)]⟩)] AHeap.none fun v _ => v = (.bool y)) {x : Bool} (H : f193 p0 a0 = some x) : ICalls E 193 [(VS 5 (a0.map e_SIIII)), g0] AHeap.none fun v _ => v = (.bool x) := by
  refine icalls_fn (pfnw rfl ?_); unfold f193 at H;(conv=>whnf);refine pw_so ?_;refine po_all ?_;(conv=>whnf);refine pw_so ?_;refine po_all ?_;(conv=>whnf);obtain ⟨y1, h2, H⟩ := obnd_some H;refine (c195 hp0 h2).go ?_;(conv=>whnf);refine pw_ret ?_;(conv=>whnf);cases H; rfl

/-- guidevane/dam.gaugesErr$1 -/
noncomputable def f194  (a0 : ByteArray) (_ : Int) (_ : Int) (_ : Int) (_ : Int) (a5 : ByteArray) (_ : Int) (_ : Int) (_ : Int) (_ : Int) : Option Bool :=
  some (a0.toList == a5.toList)
set_option maxHeartbeats 1000000 in
theorem c194  {a0 : ByteArray} {a1 : Int} {a2 : Int} {a3 : Int} {a4 : Int} {a5 : ByteArray} {a6 : Int} {a7 : Int} {a8 : Int} {a9 : Int} {x : Bool} (H : f194 a0 a1 a2 a3 a4 a5 a6 a7 a8 a9 = some x) : ICallV E (.func (.func (E.id 194)) ⟨[]⟩ ⟨[(VP (.agg ⟨[(.string a5), (.int .i64 a6), (.int .i64 a7), (.int .i64 a8), (.int .i64 a9)]⟩) 0)]⟩) [(.agg ⟨[(.string a0), (.int .i64 a1), (.int .i64 a2), (.int .i64 a3), (.int .i64 a4)]⟩)] AHeap.none fun v _ => v = (.bool x) := by
  refine icallv_fn (pfnw rfl ?_); unfold f194 at H;(conv=>whnf);refine pw_so ?_;refine po_all ?_;(conv=>whnf);refine pw_so ?_;refine po_all ?_;(conv=>whnf);refine pw_ret ?_;(conv=>whnf);cases H; rfl

/-- guidevane/dam.isSized -/
noncomputable def f78  (a0 : Int) (a1 : Int) : Option Bool :=
  obnd (f65 a0 (IntKind.i64.wrap (0 - a1)) a1) fun (y1 : Bool) =>
  some y1
set_option maxHeartbeats 1000000 in
theorem c78  {a0 : Int} {a1 : Int} {x : Bool} (H : f78 a0 a1 = some x) : ICalls E 78 [(.int .i64 a0), (.int .i64 a1)] AHeap.none fun v _ => v = (.bool x) := by
  refine icalls_fn (pfnw rfl ?_); unfold f78 at H;(conv=>whnf);refine pw_so ?_;refine po_all ?_;(conv=>whnf);refine pw_so ?_;refine po_all ?_;(conv=>whnf);obtain ⟨y1, h2, H⟩ := obnd_some H;refine (c65 h2).go ?_;(conv=>whnf);refine pw_ret ?_;(conv=>whnf);cases H; rfl

/-- guidevane/dam.isValue -/
noncomputable def f84  (a0 : Int) : Option Bool :=
  obnd (f78 a0 (1000000 : Int)) fun (y1 : Bool) =>
  some y1
set_option maxHeartbeats 1000000 in
theorem c84  {a0 : Int} {x : Bool} (H : f84 a0 = some x) : ICalls E 84 [(.int .i64 a0)] AHeap.none fun v _ => v = (.bool x) := by
  refine icalls_fn (pfnw rfl ?_); unfold f84 at H;(conv=>whnf);refine pw_so ?_;refine po_all ?_;(conv=>whnf);refine pw_so ?_;refine po_all ?_;(conv=>whnf);obtain ⟨y1, h2, H⟩ := obnd_some H;refine (c78 h2).go ?_;(conv=>whnf);refine pw_ret ?_;(conv=>whnf);cases H; rfl

/-- guidevane/dam.gaugesErr -/
noncomputable def l186_1 (a0 : List (ByteArray × Int × Int × Int × Int)) (e11 : Int) : Option ((Int) ⊕ ((Unit) ⊕ Int)) :=
  oite ((ilt e11 ((a0.map e_SIIII).length : Int))) (
   ogrd ((ile 0 e11)) (
   obnd (a0[e11.toNat]?) fun (x14 : ByteArray × Int × Int × Int × Int) =>
   obnd (oslH a0 e11) fun (m15 : List (ByteArray × Int × Int × Int × Int)) =>
   obnd (f193 (fun (z0 : ByteArray) (z1 : Int) (z2 : Int) (z3 : Int) (z4 : Int) => f194 z0 z1 z2 z3 z4 x14.1 x14.2.1 x14.2.2.1 x14.2.2.2.1 x14.2.2.2.2) m15) fun (y18 : Bool) =>
   obnd (f84 x14.2.1) fun (y20 : Bool) =>
   obnd (
    oite y20 (
     obnd (f84 x14.2.2.1) fun (y24 : Bool) =>
     some y24
      ) (
     some false
      )
     ) fun (r22 : Bool) =>
   obnd (
    oite r22 (
     obnd (f84 x14.2.2.2.1) fun (y28 : Bool) =>
     some y28
      ) (
     some false
      )
     ) fun (r26 : Bool) =>
   obnd (
    oite r26 (
     obnd (f84 x14.2.2.2.2) fun (y32 : Bool) =>
     some y32
      ) (
     some false
      )
     ) fun (r30 : Bool) =>
   obnd (
    oite ((ile x14.2.1 x14.2.2.1)) (
     some (ile x14.2.2.2.1 x14.2.2.2.2)
      ) (
     some false
      )
     ) fun (r34 : Bool) =>
   obnd (f88 x14.1) fun (y36 : Bool) =>
   obnd (f64 y36 (4 : Int)) fun (y38 : Int) =>
   obnd (f64 (!y18) (5 : Int)) fun (y40 : Int) =>
   obnd (f64 r30 (2 : Int)) fun (y42 : Int) =>
   obnd (f64 r34 (9 : Int)) fun (y44 : Int) =>
   obnd (f63 ([y38, y40, y42, y44] : List Int)) fun (y46 : Int) =>
   oite ((!(ieq y46 (0 : Int)))) (
    some (.inr (.inr (y46)))
     ) (
    some (.inl (IntKind.i64.wrap (e11 + (1 : Int))))
     )
   )
    ) (
   some (.inr (.inl ()))
    )
noncomputable def f186  (a0 : List (ByteArray × Int × Int × Int × Int)) : Option Int :=
  obnd (f64 ((ilt (0 : Int) ((a0.map e_SIIII).length : Int))) (10 : Int)) fun (y1 : Int) =>
  obnd (f64 ((ile ((a0.map e_SIIII).length : Int) (12 : Int))) (8 : Int)) fun (y3 : Int) =>
  obnd (f63 ([y1, y3] : List Int)) fun (y5 : Int) =>
  oite ((!(ieq y5 (0 : Int)))) (
   some y5
    ) (
   obndS (
    oloop (τ := Int) (ρ := (Unit) ⊕ Int) (l186_1 a0) (0 : Int)
     ) fun (_ : Unit) =>
   some (0 : Int)
    )
set_option maxHeartbeats 1000000 in
theorem c186  {a0 : List (ByteArray × Int × Int × Int × Int)} {x : Int} (H : f186 a0 = some x) : ICalls E 186 [(VS 5 (a0.map e_SIIII))] AHeap.none fun v _ => v = (.int .i64 x) := by
  refine icalls_fn (pfnw rfl ?_); unfold f186 at H;(conv=>whnf);refine pw_so ?_;refine po_all ?_;(conv=>whnf);refine pw_seq ?_;refine pw_so ?_;refine po_all ?_;(conv=>whnf);obtain ⟨y1, h2, H⟩ := obnd_some H;refine (c64 h2).go ?_;(conv=>whnf);obtain ⟨y3, h4, H⟩ := obnd_some H;refine (c64 h4).go ?_;(conv=>whnf);obtain ⟨y5, h6, H⟩ := obnd_some H;refine ICalls.goW (c63 h6) (.cons (.vt _ _ _) .nil) ?_;(conv=>whnf);refine pw_so ?_;refine po_all ?_;(conv=>whnf);refine pw_cond ?_;(conv=>whnf);refine pbr_oite H (fun _ H => ?_) (fun _ H => ?_)
  · (conv=>whnf);refine pw_so ?_;refine po_all ?_;(conv=>whnf);refine pw_ret ?_;(conv=>whnf);cases H; rfl
  · (conv=>whnf);refine pw_skip ?_;(conv=>whnf);obtain ⟨r7, h8, h9, h10⟩ := obndS_some H;refine pw_joinS (ρ := Unit) (fun e => ⟨[], ⟨1, [(0, .tail 2 1)], false⟩⟩) r7 ?_ ?_
    · refine pw_so ?_;refine po_all ?_;(conv=>whnf);refine pw_block ?_;refine pw_loop (τ := Int) (fun e => ⟨[(0, (VS 5 (a0.map e_SIIII))), (23, (VS 5 (a0.map e_SIIII))), (24, (.int .i64 ((a0.map e_SIIII).length : Int))), (25, (.int .i64 e))], ⟨1, [(0, .tail 2 1)], false⟩⟩) h8 ?_ (fun _ => Nat.le_of_ble_eq_true rfl) ?_
      · exact .sub' (Nat.le_of_ble_eq_true rfl) (.cons rfl (.cons rfl (.cons rfl (.cons rfl .nil))))
      · intro e11 x12 h13; unfold l186_1 at h13;refine pw_so ?_;refine po_all ?_;(conv=>whnf);refine pw_seq ?_;refine pw_cond ?_;(conv=>whnf);refine pbr_oite h13 (fun _ h13 => ?_) (fun _ h13 => ?_)
        · (conv=>whnf);refine pw_skip ?_;(conv=>whnf);refine pw_seq ?_;refine pw_block ?_;refine pw_so ?_;refine po_all ?_;(conv=>whnf);refine pbr_ogrd h13 (fun _ h13 => ?_);(conv=>whnf);refine nth_o (l := a0) h13 (fun x14 _ h13 => ?_);(conv=>whnf);refine pw_so ?_;refine po_all ?_;(conv=>whnf);refine oslH_o (f := e_SIIII) h13 (fun m15 _ h13 h16 h17 => ?_);refine pbr_t (ile_t h16.1) ?_;(conv=>whnf);refine pbr_t (ile_t (by rw [List.length_map];exact h16.2)) ?_; rw [h17];(conv=>whnf);obtain ⟨y18, h19, h13⟩ := obnd_some h13;refine ICalls.goD (c193 (fun _ _ _ _ _ _ h => (c194 h)) h19) (.cons .cl (.cons (.func .nil (.cons (.ptr rfl (by intro v hv; simp only [List.mem_cons, List.not_mem_nil, or_false] at hv; rcases hv with rfl | rfl | rfl | rfl | rfl <;> rfl)) .nil)) .nil)) rfl ?_
          (conv=>whnf);refine pw_so ?_;refine po_ops 5 ?_;(conv=>whnf);obtain ⟨y20, h21, h13⟩ := obnd_some h13;refine (c84 h21).go ?_;(conv=>whnf);obtain ⟨r22, h23, h13⟩ := obnd_some h13;refine po_seg (τ := Bool) 5 (fun e => ⟨[(0, (VS 5 (a0.map e_SIIII))), (5, (.pointer (some ⟨1, 0, none⟩))), (6, (.bool y18)), (23, (VS 5 (a0.map e_SIIII))), (24, (.int .i64 ((a0.map e_SIIII).length : Int))), (25, (.int .i64 e11)), (44, (.bool e))], ⟨2, [(1, .rw [(.string x14.1), (.int .i64 x14.2.1), (.int .i64 x14.2.2.1), (.int .i64 x14.2.2.2.1), (.int .i64 x14.2.2.2.2)]), (0, .tail 2 1)], false⟩⟩) r22 ?_ ?_
          · refine po_all ?_;(conv=>whnf);refine pbr_oite h23 (fun _ h23 => ?_) (fun _ h23 => ?_)
            · (conv=>whnf);refine pbr_t (by assumption) ?_;(conv=>whnf);refine pbr_t (by assumption) ?_;(conv=>whnf);refine pbr_t (by assumption) ?_;(conv=>whnf);obtain ⟨y24, h25, h23⟩ := obnd_some h23;refine (c84 h25).go ?_;(conv=>whnf);refine pbr_t (by assumption) ?_;(conv=>whnf);cases h23;exact ⟨(.cons rfl (.cons rfl (.cons rfl (.cons rfl (.cons rfl (.cons rfl (.cons rfl .nil))))))), rfl⟩
            · (conv=>whnf);refine pbr_f (by assumption) ?_;(conv=>whnf);refine pbr_f (by assumption) ?_;(conv=>whnf);refine pbr_f (by assumption) ?_;(conv=>whnf);refine pbr_f (by assumption) ?_;(conv=>whnf);cases h23;exact ⟨(.cons rfl (.cons rfl (.cons rfl (.cons rfl (.cons rfl (.cons rfl (.cons rfl .nil))))))), rfl⟩
          · refine po_ops 1 ?_;(conv=>whnf);obtain ⟨r26, h27, h13⟩ := obnd_some h13;refine po_seg (τ := Bool) 5 (fun e => ⟨[(0, (VS 5 (a0.map e_SIIII))), (5, (.pointer (some ⟨1, 0, none⟩))), (6, (.bool y18)), (23, (VS 5 (a0.map e_SIIII))), (24, (.int .i64 ((a0.map e_SIIII).length : Int))), (25, (.int .i64 e11)), (50, (.bool e))], ⟨2, [(1, .rw [(.string x14.1), (.int .i64 x14.2.1), (.int .i64 x14.2.2.1), (.int .i64 x14.2.2.2.1), (.int .i64 x14.2.2.2.2)]), (0, .tail 2 1)], false⟩⟩) r26 ?_ ?_
            · refine po_all ?_;(conv=>whnf);refine pbr_oite h27 (fun _ h27 => ?_) (fun _ h27 => ?_)
              · (conv=>whnf);refine pbr_t (by assumption) ?_;(conv=>whnf);refine pbr_t (by assumption) ?_;(conv=>whnf);refine pbr_t (by assumption) ?_;(conv=>whnf);obtain ⟨y28, h29, h27⟩ := obnd_some h27;refine (c84 h29).go ?_;(conv=>whnf);refine pbr_t (by assumption) ?_;(conv=>whnf);cases h27;exact ⟨(.cons rfl (.cons rfl (.cons rfl (.cons rfl (.cons rfl (.cons rfl (.cons rfl .nil))))))), rfl⟩
              · (conv=>whnf);refine pbr_f (by assumption) ?_;(conv=>whnf);refine pbr_f (by assumption) ?_;(conv=>whnf);refine pbr_f (by assumption) ?_;(conv=>whnf);refine pbr_f (by assumption) ?_;(conv=>whnf);cases h27;exact ⟨(.cons rfl (.cons rfl (.cons rfl (.cons rfl (.cons rfl (.cons rfl (.cons rfl .nil))))))), rfl⟩
            · refine po_ops 1 ?_;(conv=>whnf);obtain ⟨r30, h31, h13⟩ := obnd_some h13;refine po_seg (τ := Bool) 5 (fun e => ⟨[(0, (VS 5 (a0.map e_SIIII))), (5, (.pointer (some ⟨1, 0, none⟩))), (6, (.bool y18)), (23, (VS 5 (a0.map e_SIIII))), (24, (.int .i64 ((a0.map e_SIIII).length : Int))), (25, (.int .i64 e11)), (56, (.bool e))], ⟨2, [(1, .rw [(.string x14.1), (.int .i64 x14.2.1), (.int .i64 x14.2.2.1), (.int .i64 x14.2.2.2.1), (.int .i64 x14.2.2.2.2)]), (0, .tail 2 1)], false⟩⟩) r30 ?_ ?_
              · refine po_all ?_;(conv=>whnf);refine pbr_oite h31 (fun _ h31 => ?_) (fun _ h31 => ?_)
                · (conv=>whnf);refine pbr_t (by assumption) ?_;(conv=>whnf);refine pbr_t (by assumption) ?_;(conv=>whnf);refine pbr_t (by assumption) ?_;(conv=>whnf);obtain ⟨y32, h33, h31⟩ := obnd_some h31;refine (c84 h33).go ?_;(conv=>whnf);refine pbr_t (by assumption) ?_;(conv=>whnf);cases h31;exact ⟨(.cons rfl (.cons rfl (.cons rfl (.cons rfl (.cons rfl (.cons rfl (.cons rfl .nil))))))), rfl⟩
                · (conv=>whnf);refine pbr_f (by assumption) ?_;(conv=>whnf);refine pbr_f (by assumption) ?_;(conv=>whnf);refine pbr_f (by assumption) ?_;(conv=>whnf);refine pbr_f (by assumption) ?_;(conv=>whnf);cases h31;exact ⟨(.cons rfl (.cons rfl (.cons rfl (.cons rfl (.cons rfl (.cons rfl (.cons rfl .nil))))))), rfl⟩
              · refine po_all ?_;(conv=>whnf);refine pw_so ?_;refine po_ops 8 ?_;(conv=>whnf);obtain ⟨r34, h35, h13⟩ := obnd_some h13;refine po_seg (τ := Bool) 8 (fun e => ⟨[(0, (VS 5 (a0.map e_SIIII))), (5, (.pointer (some ⟨1, 0, none⟩))), (6, (.bool y18)), (7, (.bool r30)), (23, (VS 5 (a0.map e_SIIII))), (24, (.int .i64 ((a0.map e_SIIII).length : Int))), (25, (.int .i64 e11)), (72, (.bool e))], ⟨2, [(1, .rw [(.string x14.1), (.int .i64 x14.2.1), (.int .i64 x14.2.2.1), (.int .i64 x14.2.2.2.1), (.int .i64 x14.2.2.2.2)]), (0, .tail 2 1)], false⟩⟩) r34 ?_ ?_
                · refine po_all ?_;(conv=>whnf);refine pbr_oite h35 (fun _ h35 => ?_) (fun _ h35 => ?_)
                  · (conv=>whnf);refine pbr_t (by assumption) ?_;(conv=>whnf);refine pbr_t (by assumption) ?_;(conv=>whnf);refine pbr_t (by assumption) ?_;(conv=>whnf);refine pbr_t (by assumption) ?_;(conv=>whnf);refine pbr_t (by assumption) ?_;(conv=>whnf);refine pbr_t (by assumption) ?_;(conv=>whnf);refine pbr_t (by assumption) ?_;(conv=>whnf);cases h35;exact ⟨(.cons rfl (.cons rfl (.cons rfl (.cons rfl (.cons rfl (.cons rfl (.cons rfl (.cons rfl .nil)))))))), rfl⟩
                  · (conv=>whnf);refine pbr_f (by assumption) ?_;(conv=>whnf);refine pbr_f (by assumption) ?_;(conv=>whnf);refine pbr_f (by assumption) ?_;(conv=>whnf);refine pbr_f (by assumption) ?_;(conv=>whnf);refine pbr_f (by assumption) ?_;(conv=>whnf);refine pbr_f (by assumption) ?_;(conv=>whnf);refine pbr_f (by assumption) ?_;(conv=>whnf);cases h35;exact ⟨(.cons rfl (.cons rfl (.cons rfl (.cons rfl (.cons rfl (.cons rfl (.cons rfl (.cons rfl .nil)))))))), rfl⟩
                · refine po_all ?_;(conv=>whnf);refine pw_so ?_;refine po_all ?_;(conv=>whnf);obtain ⟨y36, h37, h13⟩ := obnd_some h13;refine (c88 h37).go ?_;(conv=>whnf);obtain ⟨y38, h39, h13⟩ := obnd_some h13;refine (c64 h39).go ?_;(conv=>whnf);obtain ⟨y40, h41, h13⟩ := obnd_some h13;refine (c64 h41).go ?_;(conv=>whnf);obtain ⟨y42, h43, h13⟩ := obnd_some h13;refine (c64 h43).go ?_;(conv=>whnf);obtain ⟨y44, h45, h13⟩ := obnd_some h13;refine (c64 h45).go ?_;(conv=>whnf);obtain ⟨y46, h47, h13⟩ := obnd_some h13;refine ICalls.goW (c63 h47) (.cons (.vt _ _ _) .nil) ?_;(conv=>whnf);refine pw_so ?_;refine po_all ?_;(conv=>whnf)
                  refine pw_cond ?_;(conv=>whnf);refine pbr_oite h13 (fun _ h13 => ?_) (fun _ h13 => ?_)
                  · (conv=>whnf);refine pw_so ?_;refine po_all ?_;(conv=>whnf);refine pw_ret ?_;(conv=>whnf);cases h13;refine ⟨_, rfl, ?_⟩; rintro rfl;(conv=>whnf);obtain rfl := h10 _ rfl; rfl
                  · (conv=>whnf);refine pw_skip ?_;(conv=>whnf);refine pw_ops ?_;refine po_all ?_;(conv=>whnf);cases h13;refine ⟨_, rfl, ?_⟩;refine Recast.trunc (Nat.le_of_ble_eq_true rfl) ?_ ?_
                    · repeat (first | exact .nil | refine .cons rfl (by first | exact OBnd.rwc (Nat.le_of_ble_eq_true rfl) rfl | exact OBnd.tail (Nat.le_of_ble_eq_true rfl) | trivial) ?_)
                    · repeat (first | exact .nil | refine .cons rfl (by first | exact Bnd.ptr (Nat.le_of_ble_eq_true rfl) | exact Bnd.vt (Nat.le_of_ble_eq_true rfl) | exact Bnd.cl) ?_)
        · (conv=>whnf);refine pw_exit ?_;(conv=>whnf);cases h13;refine ⟨_, rfl, ?_⟩; rintro rfl;(conv=>whnf);exact ⟨_, rfl, ⟨.nil, rfl⟩⟩
    · intro r50 hr; have H := h9 _ hr;refine pw_so ?_;refine po_all ?_;(conv=>whnf);refine pw_ret ?_;(conv=>whnf);cases H; rfl

/-- guidevane/dam.agreed -/
noncomputable def f187  (a0 : List (ByteArray × Int × Int × Int × Int)) : Option (Int × Int × Bool) :=
  obnd (
   oloop (τ := Int × Int × Int) (ρ := Int × Int) (fun e5 =>
    oite ((ilt e5.2.2 ((a0.map e_SIIII).length : Int))) (
     ogrd ((ile 0 e5.2.2)) (
     obnd (a0[e5.2.2.toNat]?) fun (x8 : ByteArray × Int × Int × Int × Int) =>
     some (.inl (((imax e5.1 (IntKind.i64.wrap (x8.2.1 - x8.2.2.2.2))), (imin e5.2.1 (IntKind.i64.wrap (x8.2.2.1 - x8.2.2.2.1))), (IntKind.i64.wrap (e5.2.2 + (1 : Int))))))
     )
      ) (
     some (.inr ((e5.1, e5.2.1)))
      )
     ) (((-2000000 : Int), (2000000 : Int), (0 : Int)))
    ) fun (r1 : Int × Int) =>
  some (r1.1, r1.2, (ile r1.1 r1.2))
set_option maxHeartbeats 1000000 in
theorem c187  {a0 : List (ByteArray × Int × Int × Int × Int)} {x : Int × Int × Bool} (H : f187 a0 = some x) : ICalls E 187 [(VS 5 (a0.map e_SIIII))] AHeap.none fun v _ => v = (.tuple ⟨[(.agg ⟨[(.int .i64 x.1), (.int .i64 x.2.1)]⟩), (.bool x.2.2)]⟩) := by
  refine icalls_fn (pfnw rfl ?_); unfold f187 at H;(conv=>whnf);refine pw_so ?_;refine po_all ?_;(conv=>whnf);refine pw_so ?_;refine po_all ?_;(conv=>whnf);obtain ⟨r1, h2, H⟩ := obnd_some H;refine pw_join (ρ := Int × Int) (fun e => ⟨[(2, (.pointer (some ⟨0, 0, none⟩))), (4, (.pointer (some ⟨1, 0, none⟩)))], ⟨2, [(1, .rw [(.int .i64 e.1), (.int .i64 e.2)]), (0, .rw [(.int .i64 0), (.int .i64 0)])], false⟩⟩) r1 ?_ ?_
  · refine pw_so ?_;refine po_all ?_;(conv=>whnf);refine pw_block ?_;refine pw_loop (τ := Int × Int × Int) (fun e => ⟨[(2, (.pointer (some ⟨0, 0, none⟩))), (4, (.pointer (some ⟨1, 0, none⟩))), (8, (VS 5 (a0.map e_SIIII))), (9, (.int .i64 ((a0.map e_SIIII).length : Int))), (10, (.int .i64 e.2.2))], ⟨2, [(1, .rw [(.int .i64 e.1), (.int .i64 e.2.1)]), (0, .rw [(.int .i64 0), (.int .i64 0)])], false⟩⟩) h2 ?_ (fun _ => Nat.le_of_ble_eq_true rfl) ?_
    · exact .sub' (Nat.le_of_ble_eq_true rfl) (.cons rfl (.cons rfl (.cons rfl (.cons rfl (.cons rfl .nil)))))
    · intro e5 x6 h7;refine pw_so ?_;refine po_all ?_;(conv=>whnf);refine pw_seq ?_;refine pw_cond ?_;(conv=>whnf);refine pbr_oite h7 (fun _ h7 => ?_) (fun _ h7 => ?_)
      · (conv=>whnf);refine pw_skip ?_;(conv=>whnf);refine pw_seq ?_;refine pw_block ?_;refine pw_so ?_;refine po_all ?_;(conv=>whnf);refine pbr_ogrd h7 (fun _ h7 => ?_);(conv=>whnf);refine nth_o (l := a0) h7 (fun x8 _ h7 => ?_);(conv=>whnf);refine pw_ops ?_;refine po_all ?_;(conv=>whnf);refine pw_ops ?_;refine po_all ?_;(conv=>whnf);cases h7;refine ⟨_, rfl, ?_⟩;refine Recast.trunc (Nat.le_of_ble_eq_true rfl) ?_ ?_
        · repeat (first | exact .nil | refine .cons rfl (by first | exact OBnd.rwc (Nat.le_of_ble_eq_true rfl) rfl | exact OBnd.tail (Nat.le_of_ble_eq_true rfl) | trivial) ?_)
        · repeat (first | exact .nil | refine .cons rfl (by first | exact Bnd.ptr (Nat.le_of_ble_eq_true rfl) | exact Bnd.vt (Nat.le_of_ble_eq_true rfl) | exact Bnd.cl) ?_)
      · (conv=>whnf);refine pw_exit ?_;(conv=>whnf);cases h7;refine ⟨_, rfl, ?_⟩; rintro rfl;(conv=>whnf);exact ⟨(.cons rfl (.cons rfl .nil)), rfl⟩
  · refine pw_sd ?_;(conv=>whnf);refine ⟨?_, trivial⟩;(conv=>whnf);refine ⟨by repeat (first | exact trivial | refine And.intro rfl ?_), ?_⟩;(conv=>whnf);refine pw_ret ?_;(conv=>whnf);cases H; rfl

/-- guidevane/dam.AgreedOf -/
noncomputable def f172  (a0 : List (ByteArray × Int × Int × Int × Int)) : Option (Int × Int × Int) :=
  obnd (f186 a0) fun (y1 : Int) =>
  oite ((!(ieq y1 (0 : Int)))) (
   some ((0 : Int), (0 : Int), y1)
    ) (
   obnd (f187 a0) fun (y3 : Int × Int × Bool) =>
   oite (!y3.2.2) (
    some ((0 : Int), (0 : Int), (13 : Int))
     ) (
    some (y3.1, y3.2.1, (0 : Int))
     )
    )
set_option maxHeartbeats 1000000 in
theorem c172  {a0 : List (ByteArray × Int × Int × Int × Int)} {x : Int × Int × Int} (H : f172 a0 = some x) : ICalls E 172 [(VS 5 (a0.map e_SIIII))] AHeap.none fun v _ => v = (.tuple ⟨[(.agg ⟨[(.int .i64 x.1), (.int .i64 x.2.1)]⟩), (.int .i64 x.2.2)]⟩) := by
  refine icalls_fn (pfnw rfl ?_); unfold f172 at H;(conv=>whnf);refine pw_so ?_;refine po_all ?_;(conv=>whnf);refine pw_seq ?_;refine pw_so ?_;refine po_all ?_;(conv=>whnf);obtain ⟨y1, h2, H⟩ := obnd_some H;refine (c186 h2).go ?_;(conv=>whnf);refine pw_so ?_;refine po_all ?_;(conv=>whnf);refine pw_cond ?_;(conv=>whnf);refine pbr_oite H (fun _ H => ?_) (fun _ H => ?_)
  · (conv=>whnf);refine pw_so ?_;refine po_all ?_;(conv=>whnf);refine pw_ret ?_;(conv=>whnf);cases H; rfl
  · (conv=>whnf);refine pw_skip ?_;(conv=>whnf);refine pw_so ?_;refine po_all ?_;(conv=>whnf);obtain ⟨y3, h4, H⟩ := obnd_some H;refine (c187 h4).go ?_;(conv=>whnf);refine pw_seq ?_;refine pw_so ?_;refine po_all ?_;(conv=>whnf);refine pw_cond ?_;(conv=>whnf);refine pbr_oite H (fun _ H => ?_) (fun _ H => ?_)
    · (conv=>whnf);refine pw_so ?_;refine po_all ?_;(conv=>whnf);refine pw_ret ?_;(conv=>whnf);cases H; rfl
    · (conv=>whnf);refine pw_skip ?_;(conv=>whnf);refine pw_so ?_;refine po_all ?_;(conv=>whnf);refine pw_ret ?_;(conv=>whnf);cases H; rfl

/-- guidevane/dam.Contradicting -/
noncomputable def l174_1 (m15 : List (ByteArray × Int × Int × Int × Int)) (x14 : ByteArray × Int × Int × Int × Int) (e18 : Int) : Option ((Int) ⊕ ((ByteArray × Int × Int × Int × Int) ⊕ ((Int) ⊕ ((Unit) ⊕ (ByteArray × ByteArray × Int))))) :=
  oite ((ilt e18 ((m15.map e_SIIII).length : Int))) (
   ogrd ((ile 0 e18)) (
   obnd (m15[e18.toNat]?) fun (x21 : ByteArray × Int × Int × Int × Int) =>
   obnd (f187 (([(x14.1, x14.2.1, x14.2.2.1, x14.2.2.2.1, x14.2.2.2.2), (x21.1, x21.2.1, x21.2.2.1, x21.2.2.2.1, x21.2.2.2.2)] : List (ByteArray × Int × Int × Int × Int)))) fun (y22 : Int × Int × Bool) =>
   oite (!y22.2.2) (
    some (.inr (.inr (.inr (.inr ((x14.1, x21.1, (0 : Int)))))))
     ) (
    some (.inl (IntKind.i64.wrap (e18 + (1 : Int))))
     )
   )
    ) (
   some (.inr (.inl (x14.1, x14.2.1, x14.2.2.1, x14.2.2.2.1, x14.2.2.2.2)))
    )
noncomputable def l174_2 (a0 : List (ByteArray × Int × Int × Int × Int)) (e7 : Int) : Option ((Int) ⊕ ((Unit) ⊕ (ByteArray × ByteArray × Int))) :=
  oite ((ilt e7 ((a0.map e_SIIII).length : Int))) (
   obndS (
    ogrd ((ile 0 e7)) (
    obnd (a0[e7.toNat]?) fun (x14 : ByteArray × Int × Int × Int × Int) =>
    obnd (oslL a0 (IntKind.i64.wrap (e7 + (1 : Int)))) fun (m15 : List (ByteArray × Int × Int × Int × Int)) =>
    oloop (τ := Int) (ρ := (ByteArray × Int × Int × Int × Int) ⊕ ((Int) ⊕ ((Unit) ⊕ (ByteArray × ByteArray × Int)))) (l174_1 m15 x14) (0 : Int)
    )
     ) fun (_ : ByteArray × Int × Int × Int × Int) =>
   some (.inl (IntKind.i64.wrap (e7 + (1 : Int))))
    ) (
   some (.inr (.inl ()))
    )
noncomputable def f174  (a0 : List (ByteArray × Int × Int × Int × Int)) : Option (ByteArray × ByteArray × Int) :=
  obnd (f186 a0) fun (y1 : Int) =>
  oite ((!(ieq y1 (0 : Int)))) (
   some ((⟨#[]⟩ : ByteArray), (⟨#[]⟩ : ByteArray), y1)
    ) (
   obndS (
    oloop (τ := Int) (ρ := (Unit) ⊕ (ByteArray × ByteArray × Int)) (l174_2 a0) (0 : Int)
     ) fun (_ : Unit) =>
   some ((⟨#[]⟩ : ByteArray), (⟨#[]⟩ : ByteArray), (12 : Int))
    )
set_option maxHeartbeats 1000000 in
theorem c174  {a0 : List (ByteArray × Int × Int × Int × Int)} {x : ByteArray × ByteArray × Int} (H : f174 a0 = some x) : ICalls E 174 [(VS 5 (a0.map e_SIIII))] AHeap.none fun v _ => v = (.tuple ⟨[(.agg ⟨[(.string x.1), (.string x.2.1)]⟩), (.int .i64 x.2.2)]⟩) := by
  refine icalls_fn (pfnw rfl ?_); unfold f174 at H;(conv=>whnf);refine pw_so ?_;refine po_all ?_;(conv=>whnf);refine pw_seq ?_;refine pw_so ?_;refine po_all ?_;(conv=>whnf);obtain ⟨y1, h2, H⟩ := obnd_some H;refine (c186 h2).go ?_;(conv=>whnf);refine pw_so ?_;refine po_all ?_;(conv=>whnf);refine pw_cond ?_;(conv=>whnf);refine pbr_oite H (fun _ H => ?_) (fun _ H => ?_)
  · (conv=>whnf);refine pw_so ?_;refine po_all ?_;(conv=>whnf);refine pw_ret ?_;(conv=>whnf);cases H; rfl
  · (conv=>whnf);refine pw_skip ?_;(conv=>whnf);obtain ⟨r3, h4, h5, h6⟩ := obndS_some H;refine pw_joinS (ρ := Unit) (fun e => ⟨[(2, (.pointer (some ⟨0, 0, none⟩)))], ⟨1, [(0, .rw [(.string (⟨#[]⟩ : ByteArray)), (.string (⟨#[]⟩ : ByteArray))])], false⟩⟩) r3 ?_ ?_
    · refine pw_so ?_;refine po_all ?_;(conv=>whnf);refine pw_block ?_;refine pw_loop (τ := Int) (fun e => ⟨[(0, (VS 5 (a0.map e_SIIII))), (2, (.pointer (some ⟨0, 0, none⟩))), (17, (VS 5 (a0.map e_SIIII))), (18, (.int .i64 ((a0.map e_SIIII).length : Int))), (19, (.int .i64 e))], ⟨1, [(0, .rw [(.string (⟨#[]⟩ : ByteArray)), (.string (⟨#[]⟩ : ByteArray))])], false⟩⟩) h4 ?_ (fun _ => Nat.le_of_ble_eq_true rfl) ?_
      · exact .sub' (Nat.le_of_ble_eq_true rfl) (.cons rfl (.cons rfl (.cons rfl (.cons rfl (.cons rfl .nil)))))
      · intro e7 x8 h9; unfold l174_2 at h9;refine pw_so ?_;refine po_all ?_;(conv=>whnf);refine pw_seq ?_;refine pw_cond ?_;(conv=>whnf);refine pbr_oite h9 (fun _ h9 => ?_) (fun _ h9 => ?_)
        · (conv=>whnf);refine pw_skip ?_;(conv=>whnf);obtain ⟨r10, h11, h12, h13⟩ := obndS_some h9;refine pw_joinS (ρ := ByteArray × Int × Int × Int × Int) (fun e => ⟨[(0, (VS 5 (a0.map e_SIIII))), (2, (.pointer (some ⟨0, 0, none⟩))), (17, (VS 5 (a0.map e_SIIII))), (18, (.int .i64 ((a0.map e_SIIII).length : Int))), (19, (.int .i64 e7))], ⟨2, [(1, .rw [(.string e.1), (.int .i64 e.2.1), (.int .i64 e.2.2.1), (.int .i64 e.2.2.2.1), (.int .i64 e.2.2.2.2)]), (0, .rw [(.string (⟨#[]⟩ : ByteArray)), (.string (⟨#[]⟩ : ByteArray))])], false⟩⟩) r10 ?_ ?_
          · refine pw_block ?_;refine pw_so ?_;refine po_all ?_;(conv=>whnf);refine pbr_ogrd h11 (fun _ h11 => ?_);(conv=>whnf);refine nth_o (l := a0) h11 (fun x14 _ h11 => ?_);(conv=>whnf);refine pw_so ?_;refine po_all ?_;(conv=>whnf);refine oslL_o (f := e_SIIII) h11 (fun m15 _ h11 h16 h17 => ?_);refine pbr_t (ile_t h16.1) ?_;(conv=>whnf);refine pbr_t (ile_t (by rw [List.length_map];exact h16.2)) ?_; rw [h17];(conv=>whnf);refine pw_block ?_;refine pw_loop (τ := Int) (fun e => ⟨[(0, (VS 5 (a0.map e_SIIII))), (2, (.pointer (some ⟨0, 0, none⟩))), (6, (.pointer (some ⟨1, 0, none⟩))), (17, (VS 5 (a0.map e_SIIII))), (18, (.int .i64 ((a0.map e_SIIII).length : Int))), (19, (.int .i64 e7)), (27, (VS 5 (m15.map e_SIIII))), (28, (.int .i64 ((m15.map e_SIIII).length : Int))), (29, (.int .i64 e))], ⟨2, [(1, .rw [(.string x14.1), (.int .i64 x14.2.1), (.int .i64 x14.2.2.1), (.int .i64 x14.2.2.2.1), (.int .i64 x14.2.2.2.2)]), (0, .rw [(.string (⟨#[]⟩ : ByteArray)), (.string (⟨#[]⟩ : ByteArray))])], false⟩⟩) h11 ?_ (fun _ => Nat.le_of_ble_eq_true rfl) ?_
            · exact .sub' (Nat.le_of_ble_eq_true rfl) (.cons rfl (.cons rfl (.cons rfl (.cons rfl (.cons rfl (.cons rfl (.cons rfl (.cons rfl (.cons rfl .nil)))))))))
            · intro e18 x19 h20; unfold l174_1 at h20;refine pw_so ?_;refine po_all ?_;(conv=>whnf);refine pw_seq ?_;refine pw_cond ?_;(conv=>whnf);refine pbr_oite h20 (fun _ h20 => ?_) (fun _ h20 => ?_)
              · (conv=>whnf);refine pw_skip ?_;(conv=>whnf);refine pw_seq ?_;refine pw_block ?_;refine pw_so ?_;refine po_all ?_;(conv=>whnf);refine pbr_ogrd h20 (fun _ h20 => ?_);(conv=>whnf);refine nth_o (l := m15) h20 (fun x21 _ h20 => ?_);(conv=>whnf);refine pw_so ?_;refine po_all ?_;(conv=>whnf);obtain ⟨y22, h23, h20⟩ := obnd_some h20;refine ICalls.goW (c187 h23) (.cons (.vt _ _ _) .nil) ?_;(conv=>whnf);refine pw_so ?_;refine po_all ?_;(conv=>whnf);refine pw_cond ?_;(conv=>whnf);refine pbr_oite h20 (fun _ h20 => ?_) (fun _ h20 => ?_)
                · (conv=>whnf);refine pw_so ?_;refine po_all ?_;(conv=>whnf);refine pw_ret ?_;(conv=>whnf);cases h20;refine ⟨_, rfl, ?_⟩; rintro rfl;(conv=>whnf);obtain rfl := h13 _ rfl;refine ⟨_, rfl, ?_⟩; rintro rfl;(conv=>whnf);obtain rfl := h6 _ rfl; rfl
                · (conv=>whnf);refine pw_skip ?_;(conv=>whnf);refine pw_ops ?_;refine po_all ?_;(conv=>whnf);cases h20;refine ⟨_, rfl, ?_⟩;refine Recast.trunc (Nat.le_of_ble_eq_true rfl) ?_ ?_
                  · repeat (first | exact .nil | refine .cons rfl (by first | exact OBnd.rwc (Nat.le_of_ble_eq_true rfl) rfl | exact OBnd.tail (Nat.le_of_ble_eq_true rfl) | trivial) ?_)
                  · repeat (first | exact .nil | refine .cons rfl (by first | exact Bnd.ptr (Nat.le_of_ble_eq_true rfl) | exact Bnd.vt (Nat.le_of_ble_eq_true rfl) | exact Bnd.cl) ?_)
              · (conv=>whnf);refine pw_exit ?_;(conv=>whnf);cases h20;refine ⟨_, rfl, ?_⟩; rintro rfl;(conv=>whnf);exact ⟨_, rfl, ⟨(.cons rfl (.cons rfl (.cons rfl (.cons rfl (.cons rfl .nil))))), rfl⟩⟩
          · intro r27 hr; have h9 := h12 _ hr;refine pw_ops ?_;refine po_all ?_;(conv=>whnf);cases h9;refine ⟨_, rfl, ?_⟩;refine Recast.trunc (Nat.le_of_ble_eq_true rfl) ?_ ?_
            · repeat (first | exact .nil | refine .cons rfl (by first | exact OBnd.rwc (Nat.le_of_ble_eq_true rfl) rfl | exact OBnd.tail (Nat.le_of_ble_eq_true rfl) | trivial) ?_)
            · repeat (first | exact .nil | refine .cons rfl (by first | exact Bnd.ptr (Nat.le_of_ble_eq_true rfl) | exact Bnd.vt (Nat.le_of_ble_eq_true rfl) | exact Bnd.cl) ?_)
        · (conv=>whnf);refine pw_exit ?_;(conv=>whnf);cases h9;refine ⟨_, rfl, ?_⟩; rintro rfl;(conv=>whnf);exact ⟨_, rfl, ⟨(.cons rfl .nil), rfl⟩⟩
    · intro r29 hr; have H := h5 _ hr;refine pw_so ?_;refine po_all ?_;(conv=>whnf);refine pw_ret ?_;(conv=>whnf);cases H; rfl

/-- guidevane/guidevaneref09.isValue -/
noncomputable def f188  (a0 : Int) : Option Bool :=
  obnd (f15 a0 (-1000000 : Int) (1000000 : Int)) fun (y1 : Bool) =>
  some y1
set_option maxHeartbeats 1000000 in
theorem c188  {a0 : Int} {x : Bool} (H : f188 a0 = some x) : ICalls E 188 [(.int .i64 a0)] AHeap.none fun v _ => v = (.bool x) := by
  refine icalls_fn (pfnw rfl ?_); unfold f188 at H;(conv=>whnf);refine pw_so ?_;refine po_all ?_;(conv=>whnf);refine pw_so ?_;refine po_all ?_;(conv=>whnf);obtain ⟨y1, h2, H⟩ := obnd_some H;refine (c15 h2).go ?_;(conv=>whnf);refine pw_ret ?_;(conv=>whnf);cases H; rfl

/-- guidevane/guidevaneref09.GaugesErr -/
noncomputable def l175_1 (e5 : Int) (a0 : List (ByteArray × Int × Int × Int × Int)) (x8 : ByteArray × Int × Int × Int × Int) (e16 : Int) : Option ((Int) ⊕ ((Unit) ⊕ ((Int) ⊕ ((Unit) ⊕ Int)))) :=
  oite ((ilt e16 e5)) (
   ogrd ((ile 0 e16)) (
   obnd (a0[e16.toNat]?) fun (x19 : ByteArray × Int × Int × Int × Int) =>
   oite ((x19.1.toList == x8.1.toList)) (
    some (.inr (.inr (.inr (.inr ((5 : Int))))))
     ) (
    some (.inl (IntKind.i64.wrap (e16 + (1 : Int))))
     )
   )
    ) (
   some (.inr (.inl ()))
    )
noncomputable def l175_2 (a0 : List (ByteArray × Int × Int × Int × Int)) (e5 : Int) : Option ((Int) ⊕ ((Unit) ⊕ Int)) :=
  oite ((ilt e5 ((a0.map e_SIIII).length : Int))) (
   ogrd ((ile 0 e5)) (
   obnd (a0[e5.toNat]?) fun (x8 : ByteArray × Int × Int × Int × Int) =>
   obnd (f91 x8.1) fun (y9 : Bool) =>
   oite (!y9) (
    some (.inr (.inr ((4 : Int))))
     ) (
    obndS (
     oloop (τ := Int) (ρ := (Unit) ⊕ ((Int) ⊕ ((Unit) ⊕ Int))) (l175_1 e5 a0 x8) (0 : Int)
      ) fun (_ : Unit) =>
    obnd (
     obnd (f188 x8.2.1) fun (y28 : Bool) =>
     obnd (
      oite (!y28) (
       some true
        ) (
       obnd (f188 x8.2.2.1) fun (y32 : Bool) =>
       some (!y32)
        )
       ) fun (r30 : Bool) =>
     obnd (
      oite r30 (
       some true
        ) (
       obnd (f188 x8.2.2.2.1) fun (y36 : Bool) =>
       some (!y36)
        )
       ) fun (r34 : Bool) =>
     oite r34 (
      some true
       ) (
      obnd (f188 x8.2.2.2.2) fun (y38 : Bool) =>
      some (!y38)
       )
      ) fun (r24 : Bool) =>
    oite r24 (
     some (.inr (.inr ((2 : Int))))
      ) (
     obnd (
      oite ((ilt x8.2.2.1 x8.2.1)) (
       some true
        ) (
       some (ilt x8.2.2.2.2 x8.2.2.2.1)
        )
       ) fun (r41 : Bool) =>
     oite r41 (
      some (.inr (.inr ((9 : Int))))
       ) (
      some (.inl (IntKind.i64.wrap (e5 + (1 : Int))))
       )
      )
     )
   )
    ) (
   some (.inr (.inl ()))
    )
noncomputable def f175  (a0 : List (ByteArray × Int × Int × Int × Int)) : Option Int :=
  oite ((ieq ((a0.map e_SIIII).length : Int) (0 : Int))) (
   some (10 : Int)
    ) (
   oite ((ilt (12 : Int) ((a0.map e_SIIII).length : Int))) (
    some (8 : Int)
     ) (
    obndS (
     oloop (τ := Int) (ρ := (Unit) ⊕ Int) (l175_2 a0) (0 : Int)
      ) fun (_ : Unit) =>
    some (0 : Int)
     )
    )
set_option maxHeartbeats 1000000 in
theorem c175  {a0 : List (ByteArray × Int × Int × Int × Int)} {x : Int} (H : f175 a0 = some x) : ICalls E 175 [(VS 5 (a0.map e_SIIII))] AHeap.none fun v _ => v = (.int .i64 x) := by
  refine icalls_fn (pfnw rfl ?_); unfold f175 at H;(conv=>whnf);refine pw_so ?_;refine po_all ?_;(conv=>whnf);refine pw_seq ?_;refine pw_so ?_;refine po_all ?_;(conv=>whnf);refine pw_cond ?_;(conv=>whnf);refine pbr_oite H (fun _ H => ?_) (fun _ H => ?_)
  · (conv=>whnf);refine pw_so ?_;refine po_all ?_;(conv=>whnf);refine pw_ret ?_;(conv=>whnf);cases H; rfl
  · (conv=>whnf);refine pw_skip ?_;(conv=>whnf);refine pw_seq ?_;refine pw_so ?_;refine po_all ?_;(conv=>whnf);refine pw_cond ?_;(conv=>whnf);refine pbr_oite H (fun _ H => ?_) (fun _ H => ?_)
    · (conv=>whnf);refine pw_so ?_;refine po_all ?_;(conv=>whnf);refine pw_ret ?_;(conv=>whnf);cases H; rfl
    · (conv=>whnf);refine pw_skip ?_;(conv=>whnf);obtain ⟨r1, h2, h3, h4⟩ := obndS_some H;refine pw_joinS (ρ := Unit) (fun e => ⟨[], ⟨0, [], false⟩⟩) r1 ?_ ?_
      · refine pw_so ?_;refine po_all ?_;(conv=>whnf);refine pw_block ?_;refine pw_loop (τ := Int) (fun e => ⟨[(0, (VS 5 (a0.map e_SIIII))), (3, (.int .i64 e))], ⟨0, [], false⟩⟩) h2 ?_ (fun _ => Nat.le_of_ble_eq_true rfl) ?_
        · exact .sub' (Nat.le_of_ble_eq_true rfl) (.cons rfl (.cons rfl .nil))
        · intro e5 x6 h7; unfold l175_2 at h7;refine pw_seq ?_;refine pw_so ?_;refine po_all ?_;(conv=>whnf);refine pw_cond ?_;(conv=>whnf);refine pbr_oite h7 (fun _ h7 => ?_) (fun _ h7 => ?_)
          · (conv=>whnf);refine pw_skip ?_;(conv=>whnf);refine pw_seq ?_;refine pw_block ?_;refine pw_so ?_;refine po_all ?_;(conv=>whnf);refine pbr_ogrd h7 (fun _ h7 => ?_);(conv=>whnf);refine nth_o (l := a0) h7 (fun x8 _ h7 => ?_);(conv=>whnf);refine pw_seq ?_;refine pw_so ?_;refine po_all ?_;(conv=>whnf);obtain ⟨y9, h10, h7⟩ := obnd_some h7;refine (c91 h10).go ?_;(conv=>whnf);refine pw_cond ?_;(conv=>whnf);refine pbr_oite h7 (fun _ h7 => ?_) (fun _ h7 => ?_)
            · (conv=>whnf);refine pw_so ?_;refine po_all ?_;(conv=>whnf);refine pw_ret ?_;(conv=>whnf);cases h7;refine ⟨_, rfl, ?_⟩; rintro rfl;(conv=>whnf);obtain rfl := h4 _ rfl; rfl
            · (conv=>whnf);refine pw_skip ?_;(conv=>whnf);obtain ⟨r12, h13, h14, h15⟩ := obndS_some h7;refine pw_joinS (ρ := Unit) (fun e => ⟨[(0, (VS 5 (a0.map e_SIIII))), (3, (.int .i64 e5)), (4, (.pointer (some ⟨0, 0, none⟩)))], ⟨1, [(0, .rw [(.string x8.1), (.int .i64 x8.2.1), (.int .i64 x8.2.2.1), (.int .i64 x8.2.2.2.1), (.int .i64 x8.2.2.2.2)])], false⟩⟩) r12 ?_ ?_
              · refine pw_so ?_;refine po_all ?_;(conv=>whnf);refine pw_block ?_;refine pw_loop (τ := Int) (fun e => ⟨[(0, (VS 5 (a0.map e_SIIII))), (3, (.int .i64 e5)), (4, (.pointer (some ⟨0, 0, none⟩))), (5, (.int .i64 e))], ⟨1, [(0, .rw [(.string x8.1), (.int .i64 x8.2.1), (.int .i64 x8.2.2.1), (.int .i64 x8.2.2.2.1), (.int .i64 x8.2.2.2.2)])], false⟩⟩) h13 ?_ (fun _ => Nat.le_of_ble_eq_true rfl) ?_
                · exact .sub' (Nat.le_of_ble_eq_true rfl) (.cons rfl (.cons rfl (.cons rfl (.cons rfl .nil))))
                · intro e16 x17 h18; unfold l175_1 at h18;refine pw_seq ?_;refine pw_so ?_;refine po_all ?_;(conv=>whnf);refine pw_cond ?_;(conv=>whnf);refine pbr_oite h18 (fun _ h18 => ?_) (fun _ h18 => ?_)
                  · (conv=>whnf);refine pw_skip ?_;(conv=>whnf);refine pw_seq ?_;refine pw_block ?_;refine pw_sd ?_;(conv=>whnf);refine pbr_ogrd h18 (fun _ h18 => ?_);(conv=>whnf);refine nth_o (l := a0) h18 (fun x19 _ h18 => ?_);(conv=>whnf);refine pw_cond ?_;(conv=>whnf);refine pbr_oite h18 (fun _ h18 => ?_) (fun _ h18 => ?_)
                    · (conv=>whnf);refine pw_so ?_;refine po_all ?_;(conv=>whnf);refine pw_ret ?_;(conv=>whnf);cases h18;refine ⟨_, rfl, ?_⟩; rintro rfl;(conv=>whnf);obtain rfl := h15 _ rfl;refine ⟨_, rfl, ?_⟩; rintro rfl;(conv=>whnf);obtain rfl := h4 _ rfl; rfl
                    · (conv=>whnf);refine pw_skip ?_;(conv=>whnf);refine pw_ops ?_;refine po_all ?_;(conv=>whnf);cases h18;refine ⟨_, rfl, ?_⟩;exact .sub' (Nat.le_of_ble_eq_true rfl) (.cons rfl (.cons rfl (.cons rfl (.cons rfl .nil))))
                  · (conv=>whnf);refine pw_exit ?_;(conv=>whnf);cases h18;refine ⟨_, rfl, ?_⟩; rintro rfl;(conv=>whnf);exact ⟨_, rfl, ⟨(.cons rfl (.cons rfl (.cons rfl .nil))), rfl⟩⟩
              · intro r23 hr; have h7 := h14 _ hr;refine pw_seq ?_;obtain ⟨r24, h25, h7⟩ := obnd_some h7;refine pw_join (ρ := Bool) (fun e => ⟨[(0, (VS 5 (a0.map e_SIIII))), (3, (.int .i64 e5)), (4, (.pointer (some ⟨0, 0, none⟩))), (64, (.bool e))], ⟨1, [(0, .rw [(.string x8.1), (.int .i64 x8.2.1), (.int .i64 x8.2.2.1), (.int .i64 x8.2.2.2.1), (.int .i64 x8.2.2.2.2)])], false⟩⟩) r24 ?_ ?_
                · refine pw_ops ?_;refine po_ops 6 ?_;(conv=>whnf);obtain ⟨y28, h29, h25⟩ := obnd_some h25;refine (c188 h29).go ?_;(conv=>whnf);obtain ⟨r30, h31, h25⟩ := obnd_some h25;refine po_seg (τ := Bool) 6 (fun e => ⟨[(0, (VS 5 (a0.map e_SIIII))), (3, (.int .i64 e5)), (4, (.pointer (some ⟨0, 0, none⟩))), (50, (.bool e))], ⟨1, [(0, .rw [(.string x8.1), (.int .i64 x8.2.1), (.int .i64 x8.2.2.1), (.int .i64 x8.2.2.2.1), (.int .i64 x8.2.2.2.2)])], false⟩⟩) r30 ?_ ?_
                  · refine po_all ?_;(conv=>whnf);refine pbr_oite h31 (fun _ h31 => ?_) (fun _ h31 => ?_)
                    · (conv=>whnf);refine pbr_t (by assumption) ?_;(conv=>whnf);refine pbr_t (by assumption) ?_;(conv=>whnf);refine pbr_t (by assumption) ?_;(conv=>whnf);refine pbr_t (by assumption) ?_;(conv=>whnf);refine pbr_t (by assumption) ?_;(conv=>whnf);cases h31;exact ⟨(.cons rfl (.cons rfl (.cons rfl (.cons rfl .nil)))), rfl⟩
                    · (conv=>whnf);refine pbr_f (by assumption) ?_;(conv=>whnf);refine pbr_f (by assumption) ?_;(conv=>whnf);refine pbr_f (by assumption) ?_;(conv=>whnf);obtain ⟨y32, h33, h31⟩ := obnd_some h31;refine (c188 h33).go ?_;(conv=>whnf);refine pbr_f (by assumption) ?_;(conv=>whnf);refine pbr_f (by assumption) ?_;(conv=>whnf);cases h31;exact ⟨(.cons rfl (.cons rfl (.cons rfl (.cons rfl .nil)))), rfl⟩
                  · refine po_ops 1 ?_;(conv=>whnf);obtain ⟨r34, h35, h25⟩ := obnd_some h25;refine po_seg (τ := Bool) 6 (fun e => ⟨[(0, (VS 5 (a0.map e_SIIII))), (3, (.int .i64 e5)), (4, (.pointer (some ⟨0, 0, none⟩))), (57, (.bool e))], ⟨1, [(0, .rw [(.string x8.1), (.int .i64 x8.2.1), (.int .i64 x8.2.2.1), (.int .i64 x8.2.2.2.1), (.int .i64 x8.2.2.2.2)])], false⟩⟩) r34 ?_ ?_
                    · refine po_all ?_;(conv=>whnf);refine pbr_oite h35 (fun _ h35 => ?_) (fun _ h35 => ?_)
                      · (conv=>whnf);refine pbr_t (by assumption) ?_;(conv=>whnf);refine pbr_t (by assumption) ?_;(conv=>whnf);refine pbr_t (by assumption) ?_;(conv=>whnf);refine pbr_t (by assumption) ?_;(conv=>whnf);refine pbr_t (by assumption) ?_;(conv=>whnf);cases h35;exact ⟨(.cons rfl (.cons rfl (.cons rfl (.cons rfl .nil)))), rfl⟩
                      · (conv=>whnf);refine pbr_f (by assumption) ?_;(conv=>whnf);refine pbr_f (by assumption) ?_;(conv=>whnf);refine pbr_f (by assumption) ?_;(conv=>whnf);obtain ⟨y36, h37, h35⟩ := obnd_some h35;refine (c188 h37).go ?_;(conv=>whnf);refine pbr_f (by assumption) ?_;(conv=>whnf);refine pbr_f (by assumption) ?_;(conv=>whnf);cases h35;exact ⟨(.cons rfl (.cons rfl (.cons rfl (.cons rfl .nil)))), rfl⟩
                    · refine po_all ?_;(conv=>whnf);refine pbr_oite h25 (fun _ h25 => ?_) (fun _ h25 => ?_)
                      · (conv=>whnf);refine pbr_t (by assumption) ?_;(conv=>whnf);refine pbr_t (by assumption) ?_;(conv=>whnf);refine pbr_t (by assumption) ?_;(conv=>whnf);refine pbr_t (by assumption) ?_;(conv=>whnf);refine pbr_t (by assumption) ?_;(conv=>whnf);cases h25;exact ⟨(.cons rfl (.cons rfl (.cons rfl (.cons rfl .nil)))), rfl⟩
                      · (conv=>whnf);refine pbr_f (by assumption) ?_;(conv=>whnf);refine pbr_f (by assumption) ?_;(conv=>whnf);refine pbr_f (by assumption) ?_;(conv=>whnf);obtain ⟨y38, h39, h25⟩ := obnd_some h25;refine (c188 h39).go ?_;(conv=>whnf);refine pbr_f (by assumption) ?_;(conv=>whnf);refine pbr_f (by assumption) ?_;(conv=>whnf);cases h25;exact ⟨(.cons rfl (.cons rfl (.cons rfl (.cons rfl .nil)))), rfl⟩
                · refine pw_cond ?_;(conv=>whnf);refine pbr_oite h7 (fun _ h7 => ?_) (fun _ h7 => ?_)
                  · (conv=>whnf);refine pw_so ?_;refine po_all ?_;(conv=>whnf);refine pw_ret ?_;(conv=>whnf);cases h7;refine ⟨_, rfl, ?_⟩; rintro rfl;(conv=>whnf);obtain rfl := h4 _ rfl; rfl
                  · (conv=>whnf);refine pw_skip ?_;(conv=>whnf);obtain ⟨r41, h42, h7⟩ := obnd_some h7;refine pw_join (ρ := Bool) (fun e => ⟨[(0, (VS 5 (a0.map e_SIIII))), (3, (.int .i64 e5)), (80, (.bool e))], ⟨1, [(0, .rw [(.string x8.1), (.int .i64 x8.2.1), (.int .i64 x8.2.2.1), (.int .i64 x8.2.2.2.1), (.int .i64 x8.2.2.2.2)])], false⟩⟩) r41 ?_ ?_
                    · refine pw_ops ?_;refine po_all ?_;(conv=>whnf);refine pbr_oite h42 (fun _ h42 => ?_) (fun _ h42 => ?_)
                      · (conv=>whnf);refine pbr_t (by assumption) ?_;(conv=>whnf);refine pbr_t (by assumption) ?_;(conv=>whnf);refine pbr_t (by assumption) ?_;(conv=>whnf);refine pbr_t (by assumption) ?_;(conv=>whnf);refine pbr_t (by assumption) ?_;(conv=>whnf);refine pbr_t (by assumption) ?_;(conv=>whnf);refine pbr_t (by assumption) ?_;(conv=>whnf);cases h42;exact ⟨(.cons rfl (.cons rfl (.cons rfl .nil))), rfl⟩
                      · (conv=>whnf);refine pbr_f (by assumption) ?_;(conv=>whnf);refine pbr_f (by assumption) ?_;(conv=>whnf);refine pbr_f (by assumption) ?_;(conv=>whnf);refine pbr_f (by assumption) ?_;(conv=>whnf);refine pbr_f (by assumption) ?_;(conv=>whnf);refine pbr_f (by assumption) ?_;(conv=>whnf);refine pbr_f (by assumption) ?_;(conv=>whnf);cases h42;exact ⟨(.cons rfl (.cons rfl (.cons rfl .nil))), rfl⟩
                    · refine pw_cond ?_;(conv=>whnf);refine pbr_oite h7 (fun _ h7 => ?_) (fun _ h7 => ?_)
                      · (conv=>whnf);refine pw_so ?_;refine po_all ?_;(conv=>whnf);refine pw_ret ?_;(conv=>whnf);cases h7;refine ⟨_, rfl, ?_⟩; rintro rfl;(conv=>whnf);obtain rfl := h4 _ rfl; rfl
                      · (conv=>whnf);refine pw_skip ?_;(conv=>whnf);refine pw_ops ?_;refine po_all ?_;(conv=>whnf);cases h7;refine ⟨_, rfl, ?_⟩;refine Recast.trunc (Nat.le_of_ble_eq_true rfl) ?_ ?_
                        · repeat (first | exact .nil | refine .cons rfl (by first | exact OBnd.rwc (Nat.le_of_ble_eq_true rfl) rfl | exact OBnd.tail (Nat.le_of_ble_eq_true rfl) | trivial) ?_)
                        · repeat (first | exact .nil | refine .cons rfl (by first | exact Bnd.ptr (Nat.le_of_ble_eq_true rfl) | exact Bnd.vt (Nat.le_of_ble_eq_true rfl) | exact Bnd.cl) ?_)
          · (conv=>whnf);refine pw_exit ?_;(conv=>whnf);cases h7;refine ⟨_, rfl, ?_⟩; rintro rfl;(conv=>whnf);exact ⟨_, rfl, ⟨.nil, rfl⟩⟩
      · intro r47 hr; have H := h3 _ hr;refine pw_so ?_;refine po_all ?_;(conv=>whnf);refine pw_ret ?_;(conv=>whnf);cases H; rfl

/-- guidevane/guidevaneref09.True -/
noncomputable def f189  (_ : ByteArray) (a1 : Int) (a2 : Int) (a3 : Int) (a4 : Int) : Option (Int × Int) :=
  some ((IntKind.i64.wrap (a1 - a4)), (IntKind.i64.wrap (a2 - a3)))
set_option maxHeartbeats 1000000 in
theorem c189  {a0 : ByteArray} {a1 : Int} {a2 : Int} {a3 : Int} {a4 : Int} {x : Int × Int} (H : f189 a0 a1 a2 a3 a4 = some x) : ICalls E 189 [(.agg ⟨[(.string a0), (.int .i64 a1), (.int .i64 a2), (.int .i64 a3), (.int .i64 a4)]⟩)] AHeap.none fun v _ => v = (.agg ⟨[(.int .i64 x.1), (.int .i64 x.2)]⟩) := by
  refine icalls_fn (pfnw rfl ?_); unfold f189 at H;(conv=>whnf);refine pw_so ?_;refine po_all ?_;(conv=>whnf);refine pw_so ?_;refine po_all ?_;(conv=>whnf);refine pw_ret ?_;(conv=>whnf);cases H; rfl

/-- guidevane/guidevaneref09.Agreed -/
noncomputable def f176  (a0 : List (ByteArray × Int × Int × Int × Int)) : Option (Int × Int × Bool) :=
  obnd (a0[(0 : Int).toNat]?) fun (x1 : ByteArray × Int × Int × Int × Int) =>
  obnd (f189 x1.1 x1.2.1 x1.2.2.1 x1.2.2.2.1 x1.2.2.2.2) fun (y2 : Int × Int) =>
  obnd (
   oloop (τ := Int × Int × Int) (ρ := Int × Int) (fun e8 =>
    oite ((ilt e8.2.2 ((a0.map e_SIIII).length : Int))) (
     ogrd ((ile 0 e8.2.2)) (
     obnd (a0[e8.2.2.toNat]?) fun (x11 : ByteArray × Int × Int × Int × Int) =>
     obnd (f189 x11.1 x11.2.1 x11.2.2.1 x11.2.2.2.1 x11.2.2.2.2) fun (y12 : Int × Int) =>
     some (.inl (((imax e8.1 y12.1), (imin e8.2.1 y12.2), (IntKind.i64.wrap (e8.2.2 + (1 : Int))))))
     )
      ) (
     some (.inr ((e8.1, e8.2.1)))
      )
     ) (y2.1, y2.2, (1 : Int))
    ) fun (r4 : Int × Int) =>
  some (r4.1, r4.2, (ile r4.1 r4.2))
set_option maxHeartbeats 1000000 in
theorem c176  {a0 : List (ByteArray × Int × Int × Int × Int)} {x : Int × Int × Bool} (H : f176 a0 = some x) : ICalls E 176 [(VS 5 (a0.map e_SIIII))] AHeap.none fun v _ => v = (.tuple ⟨[(.agg ⟨[(.int .i64 x.1), (.int .i64 x.2.1)]⟩), (.bool x.2.2)]⟩) := by
  refine icalls_fn (pfnw rfl ?_); unfold f176 at H;(conv=>whnf);refine pw_so ?_;refine po_all ?_;(conv=>whnf);refine pw_so ?_;refine po_all ?_;(conv=>whnf);refine nth_o (l := a0) H (fun x1 _ H => ?_);(conv=>whnf);obtain ⟨y2, h3, H⟩ := obnd_some H;refine (c189 h3).go ?_;(conv=>whnf);obtain ⟨r4, h5, H⟩ := obnd_some H;refine pw_join (ρ := Int × Int) (fun e => ⟨[(2, (.pointer (some ⟨0, 0, none⟩))), (4, (.pointer (some ⟨1, 0, none⟩)))], ⟨2, [(1, .rw [(.int .i64 e.1), (.int .i64 e.2)]), (0, .rw [(.int .i64 0), (.int .i64 0)])], false⟩⟩) r4 ?_ ?_
  · refine pw_so ?_;refine po_all ?_;(conv=>whnf);refine pw_block ?_;refine pw_loop (τ := Int × Int × Int) (fun e => ⟨[(0, (VS 5 (a0.map e_SIIII))), (2, (.pointer (some ⟨0, 0, none⟩))), (4, (.pointer (some ⟨1, 0, none⟩))), (5, (.int .i64 e.2.2))], ⟨2, [(1, .rw [(.int .i64 e.1), (.int .i64 e.2.1)]), (0, .rw [(.int .i64 0), (.int .i64 0)])], false⟩⟩) h5 ?_ (fun _ => Nat.le_of_ble_eq_true rfl) ?_
    · exact .sub' (Nat.le_of_ble_eq_true rfl) (.cons rfl (.cons rfl (.cons rfl (.cons rfl .nil))))
    · intro e8 x9 h10;refine pw_seq ?_;refine pw_so ?_;refine po_all ?_;(conv=>whnf);refine pw_cond ?_;(conv=>whnf);refine pbr_oite h10 (fun _ h10 => ?_) (fun _ h10 => ?_)
      · (conv=>whnf);refine pw_skip ?_;(conv=>whnf);refine pw_seq ?_;refine pw_block ?_;refine pw_so ?_;refine po_all ?_;(conv=>whnf);refine pbr_ogrd h10 (fun _ h10 => ?_);(conv=>whnf);refine nth_o (l := a0) h10 (fun x11 _ h10 => ?_);(conv=>whnf);obtain ⟨y12, h13, h10⟩ := obnd_some h10;refine (c189 h13).go ?_;(conv=>whnf);refine pw_ops ?_;refine po_all ?_;(conv=>whnf);refine pw_ops ?_;refine po_all ?_;(conv=>whnf);cases h10;refine ⟨_, rfl, ?_⟩;refine Recast.trunc (Nat.le_of_ble_eq_true rfl) ?_ ?_
        · repeat (first | exact .nil | refine .cons rfl (by first | exact OBnd.rwc (Nat.le_of_ble_eq_true rfl) rfl | exact OBnd.tail (Nat.le_of_ble_eq_true rfl) | trivial) ?_)
        · repeat (first | exact .nil | refine .cons rfl (by first | exact Bnd.ptr (Nat.le_of_ble_eq_true rfl) | exact Bnd.vt (Nat.le_of_ble_eq_true rfl) | exact Bnd.cl) ?_)
      · (conv=>whnf);refine pw_exit ?_;(conv=>whnf);cases h10;refine ⟨_, rfl, ?_⟩; rintro rfl;(conv=>whnf);exact ⟨(.cons rfl (.cons rfl .nil)), rfl⟩
  · refine pw_sd ?_;(conv=>whnf);refine ⟨?_, trivial⟩;(conv=>whnf);refine ⟨by repeat (first | exact trivial | refine And.intro rfl ?_), ?_⟩;(conv=>whnf);refine pw_ret ?_;(conv=>whnf);cases H; rfl

/-- guidevane/guidevaneref09.Pair -/
noncomputable def l177_1 (a0 : List (ByteArray × Int × Int × Int × Int)) (e5 : Int) (e12 : Int) : Option ((Int) ⊕ ((Unit) ⊕ ((Int) ⊕ ((Unit) ⊕ (ByteArray × ByteArray × Bool))))) :=
  oite ((ilt e12 ((a0.map e_SIIII).length : Int))) (
   ogrd ((ile 0 e5)) (
   obnd (a0[e5.toNat]?) fun (x16 : ByteArray × Int × Int × Int × Int) =>
   ogrd ((ile 0 e12)) (
   obnd (a0[e12.toNat]?) fun (x17 : ByteArray × Int × Int × Int × Int) =>
   obnd (f176 (([(x16.1, x16.2.1, x16.2.2.1, x16.2.2.2.1, x16.2.2.2.2), (x17.1, x17.2.1, x17.2.2.1, x17.2.2.2.1, x17.2.2.2.2)] : List (ByteArray × Int × Int × Int × Int)))) fun (y18 : Int × Int × Bool) =>
   oite (!y18.2.2) (
    obnd (a0[e5.toNat]?) fun (x20 : ByteArray × Int × Int × Int × Int) =>
    obnd (a0[e12.toNat]?) fun (x21 : ByteArray × Int × Int × Int × Int) =>
    some (.inr (.inr (.inr (.inr ((x20.1, x21.1, true))))))
     ) (
    some (.inl (IntKind.i64.wrap (e12 + (1 : Int))))
     )
   )
   )
    ) (
   some (.inr (.inl ()))
    )
noncomputable def l177_2 (a0 : List (ByteArray × Int × Int × Int × Int)) (e5 : Int) : Option ((Int) ⊕ ((Unit) ⊕ (ByteArray × ByteArray × Bool))) :=
  oite ((ilt e5 ((a0.map e_SIIII).length : Int))) (
   obndS (
    oloop (τ := Int) (ρ := (Unit) ⊕ ((Int) ⊕ ((Unit) ⊕ (ByteArray × ByteArray × Bool)))) (l177_1 a0 e5) (IntKind.i64.wrap (e5 + (1 : Int)))
     ) fun (_ : Unit) =>
   some (.inl (IntKind.i64.wrap (e5 + (1 : Int))))
    ) (
   some (.inr (.inl ()))
    )
noncomputable def f177  (a0 : List (ByteArray × Int × Int × Int × Int)) : Option (ByteArray × ByteArray × Bool) :=
  obndS (
   oloop (τ := Int) (ρ := (Unit) ⊕ (ByteArray × ByteArray × Bool)) (l177_2 a0) (0 : Int)
    ) fun (_ : Unit) =>
  some ((⟨#[]⟩ : ByteArray), (⟨#[]⟩ : ByteArray), false)
set_option maxHeartbeats 1000000 in
theorem c177  {a0 : List (ByteArray × Int × Int × Int × Int)} {x : ByteArray × ByteArray × Bool} (H : f177 a0 = some x) : ICalls E 177 [(VS 5 (a0.map e_SIIII))] AHeap.none fun v _ => v = (.tuple ⟨[(.agg ⟨[(.string x.1), (.string x.2.1)]⟩), (.bool x.2.2)]⟩) := by
  refine icalls_fn (pfnw rfl ?_); unfold f177 at H;(conv=>whnf);refine pw_so ?_;refine po_all ?_;(conv=>whnf);obtain ⟨r1, h2, h3, h4⟩ := obndS_some H;refine pw_joinS (ρ := Unit) (fun e => ⟨[(2, (.pointer (some ⟨0, 0, none⟩)))], ⟨1, [(0, .rw [(.string (⟨#[]⟩ : ByteArray)), (.string (⟨#[]⟩ : ByteArray))])], false⟩⟩) r1 ?_ ?_
  · refine pw_so ?_;refine po_all ?_;(conv=>whnf);refine pw_block ?_;refine pw_loop (τ := Int) (fun e => ⟨[(0, (VS 5 (a0.map e_SIIII))), (2, (.pointer (some ⟨0, 0, none⟩))), (4, (.int .i64 e))], ⟨1, [(0, .rw [(.string (⟨#[]⟩ : ByteArray)), (.string (⟨#[]⟩ : ByteArray))])], false⟩⟩) h2 ?_ (fun _ => Nat.le_of_ble_eq_true rfl) ?_
    · exact .sub' (Nat.le_of_ble_eq_true rfl) (.cons rfl (.cons rfl (.cons rfl .nil)))
    · intro e5 x6 h7; unfold l177_2 at h7;refine pw_seq ?_;refine pw_so ?_;refine po_all ?_;(conv=>whnf);refine pw_cond ?_;(conv=>whnf);refine pbr_oite h7 (fun _ h7 => ?_) (fun _ h7 => ?_)
      · (conv=>whnf);refine pw_skip ?_;(conv=>whnf);obtain ⟨r8, h9, h10, h11⟩ := obndS_some h7;refine pw_joinS (ρ := Unit) (fun e => ⟨[(0, (VS 5 (a0.map e_SIIII))), (2, (.pointer (some ⟨0, 0, none⟩))), (4, (.int .i64 e5))], ⟨1, [(0, .rw [(.string (⟨#[]⟩ : ByteArray)), (.string (⟨#[]⟩ : ByteArray))])], false⟩⟩) r8 ?_ ?_
        · refine pw_block ?_;refine pw_so ?_;refine po_all ?_;(conv=>whnf);refine pw_block ?_;refine pw_loop (τ := Int) (fun e => ⟨[(0, (VS 5 (a0.map e_SIIII))), (2, (.pointer (some ⟨0, 0, none⟩))), (4, (.int .i64 e5)), (5, (.int .i64 e))], ⟨1, [(0, .rw [(.string (⟨#[]⟩ : ByteArray)), (.string (⟨#[]⟩ : ByteArray))])], false⟩⟩) h9 ?_ (fun _ => Nat.le_of_ble_eq_true rfl) ?_
          · exact .sub' (Nat.le_of_ble_eq_true rfl) (.cons rfl (.cons rfl (.cons rfl (.cons rfl .nil))))
          · intro e12 x13 h14; unfold l177_1 at h14;refine pw_seq ?_;refine pw_so ?_;refine po_all ?_;(conv=>whnf);refine pw_cond ?_;(conv=>whnf);refine pbr_oite h14 (fun _ h14 => ?_) (fun _ h14 => ?_)
            · (conv=>whnf);refine pw_skip ?_;(conv=>whnf);refine pw_seq ?_;refine pw_block ?_;refine pw_sd ?_;(conv=>whnf);refine pbr_ogrd h14 (fun _ h14 => ?_);(conv=>whnf);refine nth_o (l := a0) h14 (fun x16 _ h14 => ?_);(conv=>whnf);refine pbr_ogrd h14 (fun _ h14 => ?_);(conv=>whnf);refine nth_o (l := a0) h14 (fun x17 _ h14 => ?_);(conv=>whnf);refine ⟨?_, ?_⟩
              · (conv=>whnf);refine ⟨by repeat (first | exact trivial | refine And.intro rfl ?_), ?_⟩;(conv=>whnf);refine ⟨?_, ?_⟩
                · (conv=>whnf);obtain ⟨y18, h19, h14⟩ := obnd_some h14;refine ICalls.goW (c176 h19) (.cons (.vt _ _ _) .nil) ?_;(conv=>whnf);refine ⟨by repeat (first | exact trivial | refine And.intro rfl ?_), ?_⟩;(conv=>whnf);refine ⟨?_, trivial⟩;(conv=>whnf);refine ⟨by repeat (first | exact trivial | refine And.intro rfl ?_), ?_⟩;(conv=>whnf);refine ⟨?_, trivial⟩;(conv=>whnf);refine ⟨by repeat (first | exact trivial | refine And.intro rfl ?_), ?_⟩;(conv=>whnf);refine pw_so ?_;refine po_all ?_;(conv=>whnf);refine pw_cond ?_;(conv=>whnf);refine pbr_oite h14 (fun _ h14 => ?_) (fun _ h14 => ?_)
                  · (conv=>whnf);refine pw_sd ?_;(conv=>whnf);refine pbr_t (by assumption) ?_;(conv=>whnf);refine nth_o (l := a0) h14 (fun x20 _ h14 => ?_);(conv=>whnf);refine pbr_t (by assumption) ?_;(conv=>whnf);refine nth_o (l := a0) h14 (fun x21 _ h14 => ?_);(conv=>whnf);refine ⟨?_, trivial⟩;(conv=>whnf);refine ⟨by repeat (first | exact trivial | refine And.intro rfl ?_), ?_⟩;(conv=>whnf);refine pw_ret ?_;(conv=>whnf);cases h14;refine ⟨_, rfl, ?_⟩; rintro rfl;(conv=>whnf);obtain rfl := h11 _ rfl;refine ⟨_, rfl, ?_⟩; rintro rfl;(conv=>whnf);obtain rfl := h4 _ rfl; rfl
                  · (conv=>whnf);refine pw_skip ?_;(conv=>whnf);refine pw_ops ?_;refine po_all ?_;(conv=>whnf);cases h14;refine ⟨_, rfl, ?_⟩;refine Recast.trunc (Nat.le_of_ble_eq_true rfl) ?_ ?_
                    · repeat (first | exact .nil | refine .cons rfl (by first | exact OBnd.rwc (Nat.le_of_ble_eq_true rfl) rfl | exact OBnd.tail (Nat.le_of_ble_eq_true rfl) | trivial) ?_)
                    · repeat (first | exact .nil | refine .cons rfl (by first | exact Bnd.ptr (Nat.le_of_ble_eq_true rfl) | exact Bnd.vt (Nat.le_of_ble_eq_true rfl) | exact Bnd.cl) ?_)
                · obtain ⟨y18, h19, h14⟩ := obnd_some h14;(conv=>whnf);refine ⟨?_, trivial⟩;(conv=>whnf);refine ⟨by repeat (first | exact trivial | refine And.intro rfl ?_), ?_⟩;(conv=>whnf);refine ⟨?_, trivial⟩;(conv=>whnf);refine ICalls.goW (c176 h19) (.cons (.vt _ _ _) .nil) ?_;(conv=>whnf);refine ⟨by repeat (first | exact trivial | refine And.intro rfl ?_), ?_⟩;(conv=>whnf);refine ⟨?_, trivial⟩;(conv=>whnf);refine ⟨by repeat (first | exact trivial | refine And.intro rfl ?_), ?_⟩;(conv=>whnf);refine pw_so ?_;refine po_all ?_;(conv=>whnf);refine pw_cond ?_;(conv=>whnf);refine pbr_oite h14 (fun _ h14 => ?_) (fun _ h14 => ?_)
                  · (conv=>whnf);refine pw_sd ?_;(conv=>whnf);refine pbr_t (by assumption) ?_;(conv=>whnf);refine nth_o (l := a0) h14 (fun x24 _ h14 => ?_);(conv=>whnf);refine pbr_t (by assumption) ?_;(conv=>whnf);refine nth_o (l := a0) h14 (fun x25 _ h14 => ?_);(conv=>whnf);refine ⟨?_, trivial⟩;(conv=>whnf);refine ⟨by repeat (first | exact trivial | refine And.intro rfl ?_), ?_⟩;(conv=>whnf);refine pw_ret ?_;(conv=>whnf);cases h14;refine ⟨_, rfl, ?_⟩; rintro rfl;(conv=>whnf);obtain rfl := h11 _ rfl;refine ⟨_, rfl, ?_⟩; rintro rfl;(conv=>whnf);obtain rfl := h4 _ rfl; rfl
                  · (conv=>whnf);refine pw_skip ?_;(conv=>whnf);refine pw_ops ?_;refine po_all ?_;(conv=>whnf);cases h14;refine ⟨_, rfl, ?_⟩;refine Recast.trunc (Nat.le_of_ble_eq_true rfl) ?_ ?_
                    · repeat (first | exact .nil | refine .cons rfl (by first | exact OBnd.rwc (Nat.le_of_ble_eq_true rfl) rfl | exact OBnd.tail (Nat.le_of_ble_eq_true rfl) | trivial) ?_)
                    · repeat (first | exact .nil | refine .cons rfl (by first | exact Bnd.ptr (Nat.le_of_ble_eq_true rfl) | exact Bnd.vt (Nat.le_of_ble_eq_true rfl) | exact Bnd.cl) ?_)
              · obtain ⟨y18, h19, h14⟩ := obnd_some h14;(conv=>whnf);refine ⟨?_, trivial⟩;(conv=>whnf);refine ⟨by repeat (first | exact trivial | refine And.intro rfl ?_), ?_⟩;(conv=>whnf);refine ⟨?_, trivial⟩;(conv=>whnf);refine ⟨by repeat (first | exact trivial | refine And.intro rfl ?_), ?_⟩;(conv=>whnf);refine ⟨?_, trivial⟩;(conv=>whnf);refine ICalls.goW (c176 h19) (.cons (.vt _ _ _) .nil) ?_;(conv=>whnf);refine ⟨by repeat (first | exact trivial | refine And.intro rfl ?_), ?_⟩;(conv=>whnf);refine ⟨?_, trivial⟩;(conv=>whnf);refine ⟨by repeat (first | exact trivial | refine And.intro rfl ?_), ?_⟩;(conv=>whnf)
                refine pw_so ?_;refine po_all ?_;(conv=>whnf);refine pw_cond ?_;(conv=>whnf);refine pbr_oite h14 (fun _ h14 => ?_) (fun _ h14 => ?_)
                · (conv=>whnf);refine pw_sd ?_;(conv=>whnf);refine pbr_t (by assumption) ?_;(conv=>whnf);refine nth_o (l := a0) h14 (fun x28 _ h14 => ?_);(conv=>whnf);refine pbr_t (by assumption) ?_;(conv=>whnf);refine nth_o (l := a0) h14 (fun x29 _ h14 => ?_);(conv=>whnf);refine ⟨?_, trivial⟩;(conv=>whnf);refine ⟨by repeat (first | exact trivial | refine And.intro rfl ?_), ?_⟩;(conv=>whnf);refine pw_ret ?_;(conv=>whnf);cases h14;refine ⟨_, rfl, ?_⟩; rintro rfl;(conv=>whnf);obtain rfl := h11 _ rfl;refine ⟨_, rfl, ?_⟩; rintro rfl;(conv=>whnf);obtain rfl := h4 _ rfl; rfl
                · (conv=>whnf);refine pw_skip ?_;(conv=>whnf);refine pw_ops ?_;refine po_all ?_;(conv=>whnf);cases h14;refine ⟨_, rfl, ?_⟩;refine Recast.trunc (Nat.le_of_ble_eq_true rfl) ?_ ?_
                  · repeat (first | exact .nil | refine .cons rfl (by first | exact OBnd.rwc (Nat.le_of_ble_eq_true rfl) rfl | exact OBnd.tail (Nat.le_of_ble_eq_true rfl) | trivial) ?_)
                  · repeat (first | exact .nil | refine .cons rfl (by first | exact Bnd.ptr (Nat.le_of_ble_eq_true rfl) | exact Bnd.vt (Nat.le_of_ble_eq_true rfl) | exact Bnd.cl) ?_)
            · (conv=>whnf);refine pw_exit ?_;(conv=>whnf);cases h14;refine ⟨_, rfl, ?_⟩; rintro rfl;(conv=>whnf);exact ⟨_, rfl, ⟨(.cons rfl (.cons rfl (.cons rfl .nil))), rfl⟩⟩
        · intro r33 hr; have h7 := h10 _ hr;refine pw_ops ?_;refine po_all ?_;(conv=>whnf);cases h7;refine ⟨_, rfl, ?_⟩;exact .sub' (Nat.le_of_ble_eq_true rfl) (.cons rfl (.cons rfl (.cons rfl .nil)))
      · (conv=>whnf);refine pw_exit ?_;(conv=>whnf);cases h7;refine ⟨_, rfl, ?_⟩; rintro rfl;(conv=>whnf);exact ⟨_, rfl, ⟨(.cons rfl .nil), rfl⟩⟩
  · intro r35 hr; have H := h3 _ hr;refine pw_so ?_;refine po_all ?_;(conv=>whnf);refine pw_ret ?_;(conv=>whnf);cases H; rfl

/-- guidevane/guidevanelaw09.DamGauges -/
noncomputable def f166  (a0 : List (ByteArray × Int × Int × Int × Int)) : Option Bool :=
  obnd (f10) fun (y1 : Bool) =>
  oite (!y1) (
   some false
    ) (
   oite ((ilt (14 : Int) ((a0.map e_SIIII).length : Int))) (
    some true
     ) (
    obndS (
     oloop (τ := Int) (ρ := (Unit) ⊕ Bool) (fun e7 =>
      oite ((ilt e7 ((a0.map e_SIIII).length : Int))) (
       ogrd ((ile 0 e7)) (
       obnd (a0[e7.toNat]?) fun (x10 : ByteArray × Int × Int × Int × Int) =>
       oite ((ilt (30 : Int) (x10.1.size : Int))) (
        some (.inr (.inr (true)))
         ) (
        some (.inl (IntKind.i64.wrap (e7 + (1 : Int))))
         )
       )
        ) (
       some (.inr (.inl ()))
        )
       ) (0 : Int)
      ) fun (_ : Unit) =>
    obnd (f173 a0) fun (y14 : (List (ByteArray × Int × Int × Int × Int))) =>
    obnd (f172 y14) fun (y16 : Int × Int × Int) =>
    obnd (f173 a0) fun (y18 : (List (ByteArray × Int × Int × Int × Int))) =>
    obnd (f174 y18) fun (y20 : ByteArray × ByteArray × Int) =>
    obnd (f175 a0) fun (y22 : Int) =>
    oite ((!(ieq y22 (0 : Int)))) (
     obnd (
      oite ((ieq y16.2.2 y22)) (
       some ((ieq y16.1 (0 : Int)) && ((ieq y16.2.1 (0 : Int)) && true))
        ) (
       some false
        )
       ) fun (r24 : Bool) =>
     obnd (
      oite r24 (
       some (ieq y20.2.2 y22)
        ) (
       some false
        )
       ) fun (r26 : Bool) =>
     obnd (
      oite r26 (
       some ((y20.1 == (⟨#[]⟩ : ByteArray)) && ((y20.2.1 == (⟨#[]⟩ : ByteArray)) && true))
        ) (
       some false
        )
       ) fun (r28 : Bool) =>
     some r28
      ) (
     obnd (f176 a0) fun (y30 : Int × Int × Bool) =>
     obnd (f177 a0) fun (y32 : ByteArray × ByteArray × Bool) =>
     oite ((y32.2.2 == y30.2.2)) (
      some false
       ) (
      oite (!y30.2.2) (
       obnd (
        oite ((ieq y16.2.2 (13 : Int))) (
         some ((ieq y16.1 (0 : Int)) && ((ieq y16.2.1 (0 : Int)) && true))
          ) (
         some false
          )
         ) fun (r34 : Bool) =>
       obnd (
        oite r34 (
         some (ieq y20.2.2 (0 : Int))
          ) (
         some false
          )
         ) fun (r36 : Bool) =>
       obnd (
        oite r36 (
         some ((y20.1 == y32.1) && ((y20.2.1 == y32.2.1) && true))
          ) (
         some false
          )
         ) fun (r38 : Bool) =>
       some r38
        ) (
       obnd (
        obnd (
         oite ((!(ieq y16.2.2 (0 : Int)))) (
          some true
           ) (
          some (!((ieq y16.1 y30.1) && ((ieq y16.2.1 y30.2.1) && true)))
           )
          ) fun (r44 : Bool) =>
        obnd (
         oite r44 (
          some true
           ) (
          some (!(ieq y20.2.2 (12 : Int)))
           )
          ) fun (r46 : Bool) =>
        oite r46 (
         some true
          ) (
         some (!((y20.1 == (⟨#[]⟩ : ByteArray)) && ((y20.2.1 == (⟨#[]⟩ : ByteArray)) && true)))
          )
         ) fun (r40 : Bool) =>
       oite r40 (
        some false
         ) (
        oite ((ieq ((a0.map e_SIIII).length : Int) (1 : Int))) (
         some true
          ) (
         obnd (oslL a0 (1 : Int)) fun (m48 : List (ByteArray × Int × Int × Int × Int)) =>
         obnd (f173 m48) fun (y51 : (List (ByteArray × Int × Int × Int × Int))) =>
         obnd (f172 y51) fun (y53 : Int × Int × Int) =>
         obnd (
          oite ((ieq y53.2.2 (0 : Int))) (
           some (ile y53.1 y16.1)
            ) (
           some false
            )
           ) fun (r55 : Bool) =>
         obnd (
          oite r55 (
           some (ile y16.2.1 y53.2.1)
            ) (
           some false
            )
           ) fun (r57 : Bool) =>
         some r57
          )
         )
        )
       )
      )
     )
    )
set_option maxHeartbeats 1000000 in
theorem c166  {a0 : List (ByteArray × Int × Int × Int × Int)} {x : Bool} (H : f166 a0 = some x) : ICalls E 166 [(VS 5 (a0.map e_SIIII))] AHeap.none fun v _ => v = (.bool x) := by
  refine icalls_fn (pfnw rfl ?_); unfold f166 at H;(conv=>whnf);refine pw_so ?_;refine po_all ?_;(conv=>whnf);refine pw_seq ?_;refine pw_so ?_;refine po_all ?_;(conv=>whnf);obtain ⟨y1, h2, H⟩ := obnd_some H;refine (c10 h2).go ?_;(conv=>whnf);refine pw_cond ?_;(conv=>whnf);refine pbr_oite H (fun _ H => ?_) (fun _ H => ?_)
  · (conv=>whnf);refine pw_so ?_;refine po_all ?_;(conv=>whnf);refine pw_ret ?_;(conv=>whnf);cases H; rfl
  · (conv=>whnf);refine pw_skip ?_;(conv=>whnf);refine pw_seq ?_;refine pw_so ?_;refine po_all ?_;(conv=>whnf);refine pw_cond ?_;(conv=>whnf);refine pbr_oite H (fun _ H => ?_) (fun _ H => ?_)
    · (conv=>whnf);refine pw_so ?_;refine po_all ?_;(conv=>whnf);refine pw_ret ?_;(conv=>whnf);cases H; rfl
    · (conv=>whnf);refine pw_skip ?_;(conv=>whnf);obtain ⟨r3, h4, h5, h6⟩ := obndS_some H;refine pw_joinS (ρ := Unit) (fun e => ⟨[(0, (VS 5 (a0.map e_SIIII)))], ⟨0, [], false⟩⟩) r3 ?_ ?_
      · refine pw_so ?_;refine po_all ?_;(conv=>whnf);refine pw_block ?_;refine pw_loop (τ := Int) (fun e => ⟨[(0, (VS 5 (a0.map e_SIIII))), (3, (.int .i64 e))], ⟨0, [], false⟩⟩) h4 ?_ (fun _ => Nat.le_of_ble_eq_true rfl) ?_
        · exact .sub' (Nat.le_of_ble_eq_true rfl) (.cons rfl (.cons rfl .nil))
        · intro e7 x8 h9;refine pw_seq ?_;refine pw_so ?_;refine po_all ?_;(conv=>whnf);refine pw_cond ?_;(conv=>whnf);refine pbr_oite h9 (fun _ h9 => ?_) (fun _ h9 => ?_)
          · (conv=>whnf);refine pw_skip ?_;(conv=>whnf);refine pw_seq ?_;refine pw_block ?_;refine pw_so ?_;refine po_all ?_;(conv=>whnf);refine pbr_ogrd h9 (fun _ h9 => ?_);(conv=>whnf);refine nth_o (l := a0) h9 (fun x10 _ h9 => ?_);(conv=>whnf);refine pw_cond ?_;(conv=>whnf);refine pbr_oite h9 (fun _ h9 => ?_) (fun _ h9 => ?_)
            · (conv=>whnf);refine pw_so ?_;refine po_all ?_;(conv=>whnf);refine pw_ret ?_;(conv=>whnf);cases h9;refine ⟨_, rfl, ?_⟩; rintro rfl;(conv=>whnf);obtain rfl := h6 _ rfl; rfl
            · (conv=>whnf);refine pw_skip ?_;(conv=>whnf);refine pw_ops ?_;refine po_all ?_;(conv=>whnf);cases h9;refine ⟨_, rfl, ?_⟩;exact .sub' (Nat.le_of_ble_eq_true rfl) (.cons rfl (.cons rfl .nil))
          · (conv=>whnf);refine pw_exit ?_;(conv=>whnf);cases h9;refine ⟨_, rfl, ?_⟩; rintro rfl;(conv=>whnf);exact ⟨_, rfl, ⟨(.cons rfl .nil), rfl⟩⟩
      · intro r13 hr; have H := h5 _ hr;refine pw_so ?_;refine po_all ?_;(conv=>whnf);obtain ⟨y14, h15, H⟩ := obnd_some H;refine (c173 h15).go ?_;(conv=>whnf);obtain ⟨y16, h17, H⟩ := obnd_some H;refine (c172 h17).go ?_;(conv=>whnf);refine pw_so ?_;refine po_all ?_;(conv=>whnf);obtain ⟨y18, h19, H⟩ := obnd_some H;refine (c173 h19).go ?_;(conv=>whnf);obtain ⟨y20, h21, H⟩ := obnd_some H;refine (c174 h21).go ?_;(conv=>whnf);refine pw_seq ?_;refine pw_so ?_;refine po_all ?_;(conv=>whnf);obtain ⟨y22, h23, H⟩ := obnd_some H;refine (c175 h23).go ?_;(conv=>whnf);refine pw_so ?_;refine po_all ?_;(conv=>whnf);refine pw_cond ?_
        (conv=>whnf);refine pbr_oite H (fun _ H => ?_) (fun _ H => ?_)
        · (conv=>whnf);refine pw_so ?_;refine po_ops 4 ?_;(conv=>whnf);obtain ⟨r24, h25, H⟩ := obnd_some H;refine po_seg (τ := Bool) 4 (fun e => ⟨[(6, (.pointer (some ⟨1, 0, none⟩))), (7, (.int .i64 y20.2.2)), (8, (.int .i64 y22)), (56, (.bool e))], ⟨2, [(1, .rw [(.string y20.1), (.string y20.2.1)]), (0, .rw [(.int .i64 y16.1), (.int .i64 y16.2.1)])], false⟩⟩) r24 ?_ ?_
          · refine po_all ?_;(conv=>whnf);refine pbr_oite h25 (fun _ h25 => ?_) (fun _ h25 => ?_)
            · (conv=>whnf);refine pbr_t (by assumption) ?_;(conv=>whnf);refine pbr_t (by assumption) ?_;(conv=>whnf);refine pbr_t (by assumption) ?_;(conv=>whnf);cases h25;exact ⟨(.cons rfl (.cons rfl (.cons rfl (.cons rfl .nil)))), rfl⟩
            · (conv=>whnf);refine pbr_f (by assumption) ?_;(conv=>whnf);refine pbr_f (by assumption) ?_;(conv=>whnf);refine pbr_f (by assumption) ?_;(conv=>whnf);cases h25;exact ⟨(.cons rfl (.cons rfl (.cons rfl (.cons rfl .nil)))), rfl⟩
          · refine po_ops 1 ?_;(conv=>whnf);obtain ⟨r26, h27, H⟩ := obnd_some H;refine po_seg (τ := Bool) 4 (fun e => ⟨[(6, (.pointer (some ⟨1, 0, none⟩))), (61, (.bool e))], ⟨2, [(1, .rw [(.string y20.1), (.string y20.2.1)]), (0, .rw [(.int .i64 y16.1), (.int .i64 y16.2.1)])], false⟩⟩) r26 ?_ ?_
            · refine po_all ?_;(conv=>whnf);refine pbr_oite h27 (fun _ h27 => ?_) (fun _ h27 => ?_)
              · (conv=>whnf);refine pbr_t (by assumption) ?_;(conv=>whnf);refine pbr_t (by assumption) ?_;(conv=>whnf);refine pbr_t (by assumption) ?_;(conv=>whnf);cases h27;exact ⟨(.cons rfl (.cons rfl .nil)), rfl⟩
              · (conv=>whnf);refine pbr_f (by assumption) ?_;(conv=>whnf);refine pbr_f (by assumption) ?_;(conv=>whnf);refine pbr_f (by assumption) ?_;(conv=>whnf);cases h27;exact ⟨(.cons rfl (.cons rfl .nil)), rfl⟩
            · refine po_ops 1 ?_;(conv=>whnf);obtain ⟨r28, h29, H⟩ := obnd_some H;refine po_seg (τ := Bool) 4 (fun e => ⟨[(66, (.bool e))], ⟨2, [(1, .rw [(.string y20.1), (.string y20.2.1)]), (0, .rw [(.int .i64 y16.1), (.int .i64 y16.2.1)])], false⟩⟩) r28 ?_ ?_
              · refine po_all ?_;(conv=>whnf);refine pbr_oite h29 (fun _ h29 => ?_) (fun _ h29 => ?_)
                · (conv=>whnf);refine pbr_t (by assumption) ?_;(conv=>whnf);refine pbr_t (by assumption) ?_;(conv=>whnf);refine pbr_t (by assumption) ?_;(conv=>whnf);cases h29;exact ⟨(.cons rfl .nil), rfl⟩
                · (conv=>whnf);refine pbr_f (by assumption) ?_;(conv=>whnf);refine pbr_f (by assumption) ?_;(conv=>whnf);refine pbr_f (by assumption) ?_;(conv=>whnf);cases h29;exact ⟨(.cons rfl .nil), rfl⟩
              · refine po_all ?_;(conv=>whnf);refine pw_ret ?_;(conv=>whnf);cases H; rfl
        · (conv=>whnf);refine pw_skip ?_;(conv=>whnf);refine pw_so ?_;refine po_all ?_;(conv=>whnf);obtain ⟨y30, h31, H⟩ := obnd_some H;refine (c176 h31).go ?_;(conv=>whnf);refine pw_so ?_;refine po_all ?_;(conv=>whnf);obtain ⟨y32, h33, H⟩ := obnd_some H;refine (c177 h33).go ?_;(conv=>whnf);refine pw_seq ?_;refine pw_so ?_;refine po_all ?_;(conv=>whnf);refine pw_cond ?_;(conv=>whnf);refine pbr_oite H (fun _ H => ?_) (fun _ H => ?_)
          · (conv=>whnf);refine pw_so ?_;refine po_all ?_;(conv=>whnf);refine pw_ret ?_;(conv=>whnf);cases H; rfl
          · (conv=>whnf);refine pw_skip ?_;(conv=>whnf);refine pw_seq ?_;refine pw_so ?_;refine po_all ?_;(conv=>whnf);refine pw_cond ?_;(conv=>whnf);refine pbr_oite H (fun _ H => ?_) (fun _ H => ?_)
            · (conv=>whnf);refine pw_so ?_;refine po_ops 3 ?_;(conv=>whnf);obtain ⟨r34, h35, H⟩ := obnd_some H;refine po_seg (τ := Bool) 4 (fun e => ⟨[(6, (.pointer (some ⟨1, 0, none⟩))), (7, (.int .i64 y20.2.2)), (11, (.pointer (some ⟨3, 0, none⟩))), (88, (.bool e))], ⟨4, [(3, .rw [(.string y32.1), (.string y32.2.1)]), (2, .rw [(.int .i64 y30.1), (.int .i64 y30.2.1)]), (1, .rw [(.string y20.1), (.string y20.2.1)]), (0, .rw [(.int .i64 y16.1), (.int .i64 y16.2.1)])], false⟩⟩) r34 ?_ ?_
              · refine po_all ?_;(conv=>whnf);refine pbr_oite h35 (fun _ h35 => ?_) (fun _ h35 => ?_)
                · (conv=>whnf);refine pbr_t (by assumption) ?_;(conv=>whnf);refine pbr_t (by assumption) ?_;(conv=>whnf);refine pbr_t (by assumption) ?_;(conv=>whnf);cases h35;exact ⟨(.cons rfl (.cons rfl (.cons rfl (.cons rfl .nil)))), rfl⟩
                · (conv=>whnf);refine pbr_f (by assumption) ?_;(conv=>whnf);refine pbr_f (by assumption) ?_;(conv=>whnf);refine pbr_f (by assumption) ?_;(conv=>whnf);cases h35;exact ⟨(.cons rfl (.cons rfl (.cons rfl (.cons rfl .nil)))), rfl⟩
              · refine po_ops 1 ?_;(conv=>whnf);obtain ⟨r36, h37, H⟩ := obnd_some H;refine po_seg (τ := Bool) 3 (fun e => ⟨[(6, (.pointer (some ⟨1, 0, none⟩))), (11, (.pointer (some ⟨3, 0, none⟩))), (92, (.bool e))], ⟨4, [(3, .rw [(.string y32.1), (.string y32.2.1)]), (2, .rw [(.int .i64 y30.1), (.int .i64 y30.2.1)]), (1, .rw [(.string y20.1), (.string y20.2.1)]), (0, .rw [(.int .i64 y16.1), (.int .i64 y16.2.1)])], false⟩⟩) r36 ?_ ?_
                · refine po_all ?_;(conv=>whnf);refine pbr_oite h37 (fun _ h37 => ?_) (fun _ h37 => ?_)
                  · (conv=>whnf);refine pbr_t (by assumption) ?_;(conv=>whnf);refine pbr_t (by assumption) ?_;(conv=>whnf);cases h37;exact ⟨(.cons rfl (.cons rfl (.cons rfl .nil))), rfl⟩
                  · (conv=>whnf);refine pbr_f (by assumption) ?_;(conv=>whnf);refine pbr_f (by assumption) ?_;(conv=>whnf);cases h37;exact ⟨(.cons rfl (.cons rfl (.cons rfl .nil))), rfl⟩
                · refine po_ops 1 ?_;(conv=>whnf);obtain ⟨r38, h39, H⟩ := obnd_some H;refine po_seg (τ := Bool) 4 (fun e => ⟨[(97, (.bool e))], ⟨4, [(3, .rw [(.string y32.1), (.string y32.2.1)]), (2, .rw [(.int .i64 y30.1), (.int .i64 y30.2.1)]), (1, .rw [(.string y20.1), (.string y20.2.1)]), (0, .rw [(.int .i64 y16.1), (.int .i64 y16.2.1)])], false⟩⟩) r38 ?_ ?_
                  · refine po_all ?_;(conv=>whnf);refine pbr_oite h39 (fun _ h39 => ?_) (fun _ h39 => ?_)
                    · (conv=>whnf);refine pbr_t (by assumption) ?_;(conv=>whnf);refine pbr_t (by assumption) ?_;(conv=>whnf);refine pbr_t (by assumption) ?_;(conv=>whnf);cases h39;exact ⟨(.cons rfl .nil), rfl⟩
                    · (conv=>whnf);refine pbr_f (by assumption) ?_;(conv=>whnf);refine pbr_f (by assumption) ?_;(conv=>whnf);refine pbr_f (by assumption) ?_;(conv=>whnf);cases h39;exact ⟨(.cons rfl .nil), rfl⟩
                  · refine po_all ?_;(conv=>whnf);refine pw_ret ?_;(conv=>whnf);cases H; rfl
            · (conv=>whnf);refine pw_skip ?_;(conv=>whnf);refine pw_seq ?_;obtain ⟨r40, h41, H⟩ := obnd_some H;refine pw_join (ρ := Bool) (fun e => ⟨[(0, (VS 5 (a0.map e_SIIII))), (4, (.pointer (some ⟨0, 0, none⟩))), (113, (.bool e))], ⟨4, [(3, .rw [(.string y32.1), (.string y32.2.1)]), (2, .rw [(.int .i64 y30.1), (.int .i64 y30.2.1)]), (1, .rw [(.string y20.1), (.string y20.2.1)]), (0, .rw [(.int .i64 y16.1), (.int .i64 y16.2.1)])], false⟩⟩) r40 ?_ ?_
              · refine pw_ops ?_;refine po_ops 3 ?_;(conv=>whnf);obtain ⟨r44, h45, h41⟩ := obnd_some h41;refine po_seg (τ := Bool) 4 (fun e => ⟨[(0, (VS 5 (a0.map e_SIIII))), (4, (.pointer (some ⟨0, 0, none⟩))), (6, (.pointer (some ⟨1, 0, none⟩))), (7, (.int .i64 y20.2.2)), (104, (.bool e))], ⟨4, [(3, .rw [(.string y32.1), (.string y32.2.1)]), (2, .rw [(.int .i64 y30.1), (.int .i64 y30.2.1)]), (1, .rw [(.string y20.1), (.string y20.2.1)]), (0, .rw [(.int .i64 y16.1), (.int .i64 y16.2.1)])], false⟩⟩) r44 ?_ ?_
                · refine po_all ?_;(conv=>whnf);refine pbr_oite h45 (fun _ h45 => ?_) (fun _ h45 => ?_)
                  · (conv=>whnf);refine pbr_t (by assumption) ?_;(conv=>whnf);refine pbr_t (by assumption) ?_;(conv=>whnf);refine pbr_t (by assumption) ?_;(conv=>whnf);cases h45;exact ⟨(.cons rfl (.cons rfl (.cons rfl (.cons rfl (.cons rfl .nil))))), rfl⟩
                  · (conv=>whnf);refine pbr_f (by assumption) ?_;(conv=>whnf);refine pbr_f (by assumption) ?_;(conv=>whnf);refine pbr_f (by assumption) ?_;(conv=>whnf);cases h45;exact ⟨(.cons rfl (.cons rfl (.cons rfl (.cons rfl (.cons rfl .nil))))), rfl⟩
                · refine po_ops 1 ?_;(conv=>whnf);obtain ⟨r46, h47, h41⟩ := obnd_some h41;refine po_seg (τ := Bool) 3 (fun e => ⟨[(0, (VS 5 (a0.map e_SIIII))), (4, (.pointer (some ⟨0, 0, none⟩))), (6, (.pointer (some ⟨1, 0, none⟩))), (108, (.bool e))], ⟨4, [(3, .rw [(.string y32.1), (.string y32.2.1)]), (2, .rw [(.int .i64 y30.1), (.int .i64 y30.2.1)]), (1, .rw [(.string y20.1), (.string y20.2.1)]), (0, .rw [(.int .i64 y16.1), (.int .i64 y16.2.1)])], false⟩⟩) r46 ?_ ?_
                  · refine po_all ?_;(conv=>whnf);refine pbr_oite h47 (fun _ h47 => ?_) (fun _ h47 => ?_)
                    · (conv=>whnf);refine pbr_t (by assumption) ?_;(conv=>whnf);refine pbr_t (by assumption) ?_;(conv=>whnf);cases h47;exact ⟨(.cons rfl (.cons rfl (.cons rfl (.cons rfl .nil)))), rfl⟩
                    · (conv=>whnf);refine pbr_f (by assumption) ?_;(conv=>whnf);refine pbr_f (by assumption) ?_;(conv=>whnf);cases h47;exact ⟨(.cons rfl (.cons rfl (.cons rfl (.cons rfl .nil)))), rfl⟩
                  · refine po_all ?_;(conv=>whnf);refine pbr_oite h41 (fun _ h41 => ?_) (fun _ h41 => ?_)
                    · (conv=>whnf);refine pbr_t (by assumption) ?_;(conv=>whnf);refine pbr_t (by assumption) ?_;(conv=>whnf);refine pbr_t (by assumption) ?_;(conv=>whnf);cases h41;exact ⟨(.cons rfl (.cons rfl (.cons rfl .nil))), rfl⟩
                    · (conv=>whnf);refine pbr_f (by assumption) ?_;(conv=>whnf);refine pbr_f (by assumption) ?_;(conv=>whnf);refine pbr_f (by assumption) ?_;(conv=>whnf);cases h41;exact ⟨(.cons rfl (.cons rfl (.cons rfl .nil))), rfl⟩
              · refine pw_cond ?_;(conv=>whnf);refine pbr_oite H (fun _ H => ?_) (fun _ H => ?_)
                · (conv=>whnf);refine pw_so ?_;refine po_all ?_;(conv=>whnf);refine pw_ret ?_;(conv=>whnf);cases H; rfl
                · (conv=>whnf);refine pw_skip ?_;(conv=>whnf);refine pw_seq ?_;refine pw_so ?_;refine po_all ?_;(conv=>whnf);refine pw_cond ?_;(conv=>whnf);refine pbr_oite H (fun _ H => ?_) (fun _ H => ?_)
                  · (conv=>whnf);refine pw_so ?_;refine po_all ?_;(conv=>whnf);refine pw_ret ?_;(conv=>whnf);cases H; rfl
                  · (conv=>whnf);refine pw_skip ?_;(conv=>whnf);refine pw_so ?_;refine po_all ?_;(conv=>whnf);refine oslL_o (f := e_SIIII) H (fun m48 _ H h49 h50 => ?_);refine pbr_t (ile_t (by rw [List.length_map];exact h49.2)) ?_; rw [h50];(conv=>whnf);obtain ⟨y51, h52, H⟩ := obnd_some H;refine (c173 h52).go ?_;(conv=>whnf);obtain ⟨y53, h54, H⟩ := obnd_some H;refine (c172 h54).go ?_;(conv=>whnf);refine pw_so ?_;refine po_ops 3 ?_;(conv=>whnf);obtain ⟨r55, h56, H⟩ := obnd_some H;refine po_seg (τ := Bool) 6 (fun e => ⟨[(4, (.pointer (some ⟨0, 0, none⟩))), (13, (.pointer (some ⟨4, 0, none⟩))), (132, (.bool e))], ⟨5, [(4, .rw [(.int .i64 y53.1), (.int .i64 y53.2.1)]), (3, .rw [(.string y32.1), (.string y32.2.1)]), (2, .rw [(.int .i64 y30.1), (.int .i64 y30.2.1)]), (1, .rw [(.string y20.1), (.string y20.2.1)]), (0, .rw [(.int .i64 y16.1), (.int .i64 y16.2.1)])], false⟩⟩) r55 ?_ ?_
                    · refine po_all ?_;(conv=>whnf);refine pbr_oite h56 (fun _ h56 => ?_) (fun _ h56 => ?_)
                      · (conv=>whnf);refine pbr_t (by assumption) ?_;(conv=>whnf);refine pbr_t (by assumption) ?_;(conv=>whnf);refine pbr_t (by assumption) ?_;(conv=>whnf);refine pbr_t (by assumption) ?_;(conv=>whnf);refine pbr_t (by assumption) ?_;(conv=>whnf);cases h56;exact ⟨(.cons rfl (.cons rfl (.cons rfl .nil))), rfl⟩
                      · (conv=>whnf);refine pbr_f (by assumption) ?_;(conv=>whnf);refine pbr_f (by assumption) ?_;(conv=>whnf);refine pbr_f (by assumption) ?_;(conv=>whnf);refine pbr_f (by assumption) ?_;(conv=>whnf);refine pbr_f (by assumption) ?_;(conv=>whnf);cases h56;exact ⟨(.cons rfl (.cons rfl (.cons rfl .nil))), rfl⟩
                    · refine po_ops 1 ?_;(conv=>whnf);obtain ⟨r57, h58, H⟩ := obnd_some H;refine po_seg (τ := Bool) 6 (fun e => ⟨[(139, (.bool e))], ⟨5, [(4, .rw [(.int .i64 y53.1), (.int .i64 y53.2.1)]), (3, .rw [(.string y32.1), (.string y32.2.1)]), (2, .rw [(.int .i64 y30.1), (.int .i64 y30.2.1)]), (1, .rw [(.string y20.1), (.string y20.2.1)]), (0, .rw [(.int .i64 y16.1), (.int .i64 y16.2.1)])], false⟩⟩) r57 ?_ ?_
                      · refine po_all ?_;(conv=>whnf);refine pbr_oite h58 (fun _ h58 => ?_) (fun _ h58 => ?_)
                        · (conv=>whnf);refine pbr_t (by assumption) ?_;(conv=>whnf);refine pbr_t (by assumption) ?_;(conv=>whnf);refine pbr_t (by assumption) ?_;(conv=>whnf);refine pbr_t (by assumption) ?_;(conv=>whnf);refine pbr_t (by assumption) ?_;(conv=>whnf);cases h58;exact ⟨(.cons rfl .nil), rfl⟩
                        · (conv=>whnf);refine pbr_f (by assumption) ?_;(conv=>whnf);refine pbr_f (by assumption) ?_;(conv=>whnf);refine pbr_f (by assumption) ?_;(conv=>whnf);refine pbr_f (by assumption) ?_;(conv=>whnf);refine pbr_f (by assumption) ?_;(conv=>whnf);cases h58;exact ⟨(.cons rfl .nil), rfl⟩
                      · refine po_all ?_;(conv=>whnf);refine pw_ret ?_;(conv=>whnf);cases H; rfl

/-- guidevane/guidevanelaw09.few -/
noncomputable def f178  (a0 : List (Int × Int × Int)) : Option Bool :=
  some (ile ((a0.map e_III).length : Int) (14 : Int))
set_option maxHeartbeats 1000000 in
theorem c178  {a0 : List (Int × Int × Int)} {x : Bool} (H : f178 a0 = some x) : ICalls E 178 [(VS 3 (a0.map e_III))] AHeap.none fun v _ => v = (.bool x) := by
  refine icalls_fn (pfnw rfl ?_); unfold f178 at H;(conv=>whnf);refine pw_so ?_;refine po_all ?_;(conv=>whnf);refine pw_so ?_;refine po_all ?_;(conv=>whnf);refine pw_ret ?_;(conv=>whnf);cases H; rfl

/-- guidevane/guidevaneref09.CopyReadings -/
noncomputable def f53  (a0 : List (Int × Int × Int)) : Option ((List (Int × Int × Int))) :=
  ogrd (fits 24 (([] : List (Int × Int × Int)).length + a0.length)) (
  some (([] : List (Int × Int × Int)) ++ a0)
  )
set_option maxHeartbeats 1000000 in
theorem c53  {a0 : List (Int × Int × Int)} {x : (List (Int × Int × Int))} (H : f53 a0 = some x) : ICalls E 53 [(VS 3 (a0.map e_III))] AHeap.none fun v _ => v = (VS 3 (x.map e_III)) := by
  refine ICalls.frz ?_;refine icalls_fn (pfnw rfl ?_); unfold f53 at H;(conv=>whnf);refine pw_so ?_;refine po_all ?_;(conv=>whnf);refine pw_so ?_;refine po_all ?_;(conv=>whnf);refine app_o (l := ([] : List (Int × Int × Int))) (m := a0) (f := e_III) H (by rfl) (by rfl) (by rfl) (fun H => ?_);(conv=>whnf);refine pw_ret ?_;(conv=>whnf);cases H; show ∃ D, Fz _ D 0 (VT 3 _ 0) _;exact ⟨fun _ => false, .vtc⟩

/-- guidevane/dam.CheckReading -/
noncomputable def f33  (a0 : Int) (a1 : Int) (a2 : Int) : Option Int :=
  obnd (f65 a0 (0 : Int) (36000 : Int)) fun (y1 : Bool) =>
  obnd (
   oite y1 (
    obnd (f78 a1 (50 : Int)) fun (y5 : Bool) =>
    some y5
     ) (
    some false
     )
    ) fun (r3 : Bool) =>
  obnd (
   oite r3 (
    obnd (f78 a2 (2000 : Int)) fun (y9 : Bool) =>
    some y9
     ) (
    some false
     )
    ) fun (r7 : Bool) =>
  obnd (f64 r7 (2 : Int)) fun (y11 : Int) =>
  some y11
set_option maxHeartbeats 1000000 in
theorem c33  {a0 : Int} {a1 : Int} {a2 : Int} {x : Int} (H : f33 a0 a1 a2 = some x) : ICalls E 33 [(.agg ⟨[(.int .i64 a0), (.int .i64 a1), (.int .i64 a2)]⟩)] AHeap.none fun v _ => v = (.int .i64 x) := by
  refine icalls_fn (pfnw rfl ?_); unfold f33 at H;(conv=>whnf);refine pw_so ?_;refine po_all ?_;(conv=>whnf);refine pw_so ?_;refine po_ops 4 ?_;(conv=>whnf);obtain ⟨y1, h2, H⟩ := obnd_some H;refine (c65 h2).go ?_;(conv=>whnf);obtain ⟨r3, h4, H⟩ := obnd_some H;refine po_seg (τ := Bool) 4 (fun e => ⟨[(1, (.pointer (some ⟨0, 0, none⟩))), (10, (.bool e))], ⟨1, [(0, .rw [(.int .i64 a0), (.int .i64 a1), (.int .i64 a2)])], false⟩⟩) r3 ?_ ?_
  · refine po_all ?_;(conv=>whnf);refine pbr_oite h4 (fun _ h4 => ?_) (fun _ h4 => ?_)
    · (conv=>whnf);refine pbr_t (by assumption) ?_;(conv=>whnf);refine pbr_t (by assumption) ?_;(conv=>whnf);obtain ⟨y5, h6, h4⟩ := obnd_some h4;refine (c78 h6).go ?_;(conv=>whnf);refine pbr_t (by assumption) ?_;(conv=>whnf);cases h4;exact ⟨(.cons rfl (.cons rfl .nil)), rfl⟩
    · (conv=>whnf);refine pbr_f (by assumption) ?_;(conv=>whnf);refine pbr_f (by assumption) ?_;(conv=>whnf);refine pbr_f (by assumption) ?_;(conv=>whnf);cases h4;exact ⟨(.cons rfl (.cons rfl .nil)), rfl⟩
  · refine po_ops 1 ?_;(conv=>whnf);obtain ⟨r7, h8, H⟩ := obnd_some H;refine po_seg (τ := Bool) 4 (fun e => ⟨[(15, (.bool e))], ⟨1, [(0, .rw [(.int .i64 a0), (.int .i64 a1), (.int .i64 a2)])], false⟩⟩) r7 ?_ ?_
    · refine po_all ?_;(conv=>whnf);refine pbr_oite h8 (fun _ h8 => ?_) (fun _ h8 => ?_)
      · (conv=>whnf);refine pbr_t (by assumption) ?_;(conv=>whnf);refine pbr_t (by assumption) ?_;(conv=>whnf);obtain ⟨y9, h10, h8⟩ := obnd_some h8;refine (c78 h10).go ?_;(conv=>whnf);refine pbr_t (by assumption) ?_;(conv=>whnf);cases h8;exact ⟨(.cons rfl .nil), rfl⟩
      · (conv=>whnf);refine pbr_f (by assumption) ?_;(conv=>whnf);refine pbr_f (by assumption) ?_;(conv=>whnf);refine pbr_f (by assumption) ?_;(conv=>whnf);cases h8;exact ⟨(.cons rfl .nil), rfl⟩
    · refine po_all ?_;(conv=>whnf);obtain ⟨y11, h12, H⟩ := obnd_some H;refine (c64 h12).go ?_;(conv=>whnf);refine pw_ret ?_;(conv=>whnf);cases H; rfl

/-- guidevane/dam.readingsErr -/
noncomputable def f93  (a0 : List (Int × Int × Int)) : Option Int :=
  obnd (f64 ((ilt (0 : Int) ((a0.map e_III).length : Int))) (10 : Int)) fun (y1 : Int) =>
  obnd (f64 ((ile ((a0.map e_III).length : Int) (12 : Int))) (8 : Int)) fun (y3 : Int) =>
  obnd (f63 ([y1, y3] : List Int)) fun (y5 : Int) =>
  obnd (
   oloop (τ := Int × Int) (ρ := Int) (fun e11 =>
    oite ((ilt e11.2 ((a0.map e_III).length : Int))) (
     oite ((ieq e11.1 (0 : Int))) (
      ogrd ((ile 0 e11.2)) (
      obnd (a0[e11.2.toNat]?) fun (x14 : Int × Int × Int) =>
      obnd (f33 x14.1 x14.2.1 x14.2.2) fun (y15 : Int) =>
      some (.inl (y15, (IntKind.i64.wrap (e11.2 + (1 : Int)))))
      )
       ) (
      some (.inr (e11.1))
       )
      ) (
     some (.inr (e11.1))
      )
     ) (y5, (0 : Int))
    ) fun (r7 : Int) =>
  some r7
set_option maxHeartbeats 1000000 in
theorem c93  {a0 : List (Int × Int × Int)} {x : Int} (H : f93 a0 = some x) : ICalls E 93 [(VS 3 (a0.map e_III))] AHeap.none fun v _ => v = (.int .i64 x) := by
  refine icalls_fn (pfnw rfl ?_); unfold f93 at H;(conv=>whnf);refine pw_so ?_;refine po_all ?_;(conv=>whnf);refine pw_so ?_;refine po_all ?_;(conv=>whnf);obtain ⟨y1, h2, H⟩ := obnd_some H;refine (c64 h2).go ?_;(conv=>whnf);obtain ⟨y3, h4, H⟩ := obnd_some H;refine (c64 h4).go ?_;(conv=>whnf);obtain ⟨y5, h6, H⟩ := obnd_some H;refine ICalls.goW (c63 h6) (.cons (.vt _ _ _) .nil) ?_;(conv=>whnf);obtain ⟨r7, h8, H⟩ := obnd_some H;refine pw_join (ρ := Int) (fun e => ⟨[(3, (.int .i64 e))], ⟨1, [(0, .tail 2 1)], false⟩⟩) r7 ?_ ?_
  · refine pw_so ?_;refine po_all ?_;(conv=>whnf);refine pw_block ?_;refine pw_loop (τ := Int × Int) (fun e => ⟨[(0, (VS 3 (a0.map e_III))), (3, (.int .i64 e.1)), (4, (.int .i64 e.2))], ⟨1, [(0, .tail 2 1)], false⟩⟩) h8 ?_ (fun _ => Nat.le_of_ble_eq_true rfl) ?_
    · exact .sub' (Nat.le_of_ble_eq_true rfl) (.cons rfl (.cons rfl (.cons rfl .nil)))
    · intro e11 x12 h13;refine pw_seq ?_;refine pw_so ?_;refine po_all ?_;(conv=>whnf);refine pbr_oite h13 (fun _ h13 => ?_) (fun _ h13 => ?_)
      · (conv=>whnf);refine pbr_t (by assumption) ?_;(conv=>whnf);refine pbr_t (by assumption) ?_;(conv=>whnf);refine pw_cond ?_;(conv=>whnf);refine pbr_oite h13 (fun _ h13 => ?_) (fun _ h13 => ?_)
        · (conv=>whnf);refine pw_skip ?_;(conv=>whnf);refine pw_seq ?_;refine pw_block ?_;refine pw_ops ?_;refine po_all ?_;(conv=>whnf);refine pbr_ogrd h13 (fun _ h13 => ?_);(conv=>whnf);refine nth_o (l := a0) h13 (fun x14 _ h13 => ?_);(conv=>whnf);obtain ⟨y15, h16, h13⟩ := obnd_some h13;refine (c33 h16).go ?_;(conv=>whnf);refine pw_ops ?_;refine po_all ?_;(conv=>whnf);cases h13;refine ⟨_, rfl, ?_⟩;exact .sub' (Nat.le_of_ble_eq_true rfl) (.cons rfl (.cons rfl (.cons rfl .nil)))
        · (conv=>whnf);refine pw_exit ?_;(conv=>whnf);cases h13;refine ⟨_, rfl, ?_⟩; rintro rfl;(conv=>whnf);exact ⟨(.cons rfl .nil), rfl⟩
      · (conv=>whnf);refine pbr_f (by assumption) ?_;(conv=>whnf);refine pbr_f (by assumption) ?_;(conv=>whnf);refine pw_cond ?_;(conv=>whnf);refine pw_exit ?_;(conv=>whnf);cases h13;refine ⟨_, rfl, ?_⟩; rintro rfl;(conv=>whnf);exact ⟨(.cons rfl .nil), rfl⟩
  · refine pw_so ?_;refine po_all ?_;(conv=>whnf);refine pw_ret ?_;(conv=>whnf);cases H; rfl

/-- slices.IndexFunc[[]int,int] -/
noncomputable def f70 (p0 : Int → Option Bool) (a0 : List Int) : Option Int :=
  obndS (
   oloop (τ := Int) (ρ := (Unit) ⊕ Int) (fun e5 =>
    oite ((ilt e5 ((a0.map eI).length : Int))) (
     ogrd ((ile 0 e5)) (
     obnd (a0[e5.toNat]?) fun (x8 : Int) =>
     obnd (p0 x8) fun (y9 : Bool) =>
     oite y9 (
      some (.inr (.inr (e5)))
       ) (
      some (.inl (IntKind.i64.wrap (e5 + (1 : Int))))
       )
     )
      ) (
     some (.inr (.inl ()))
      )
     ) (0 : Int)
    ) fun (_ : Unit) =>
  some (-1 : Int)
set_option maxHeartbeats 1000000 in
theorem c70 {p0 : Int → Option Bool} {a0 : List Int} {g0 : Value} [Cl g0] (hp0 : ∀ y0 y, p0 y0 = some y → ICallV E g0 [(.int .i64 y0)] AHeap.none fun v _ => v = (.bool y)) {x : Int} (H : f70 p0 a0 = some x) : ICalls E 70 [(VS 1 (a0.map eI)), g0] AHeap.none fun v _ => v = (.int .i64 x) := by
  refine icalls_fn (pfnw rfl ?_); unfold f70 at H;(conv=>whnf);refine pw_so ?_;refine po_all ?_;(conv=>whnf);obtain ⟨r1, h2, h3, h4⟩ := obndS_some H;refine pw_joinS (ρ := Unit) (fun e => ⟨[], ⟨0, [], false⟩⟩) r1 ?_ ?_
  · refine pw_so ?_;refine po_all ?_;(conv=>whnf);refine pw_block ?_;refine pw_loop (τ := Int) (fun e => ⟨[(0, (VS 1 (a0.map eI))), (1, g0), (7, (.int .i64 ((a0.map eI).length : Int))), (8, (.int .i64 e))], ⟨0, [], false⟩⟩) h2 ?_ (fun _ => Nat.le_of_ble_eq_true rfl) ?_
    · exact .sub' (Nat.le_of_ble_eq_true rfl) (.cons rfl (.cons rfl (.cons rfl (.cons rfl .nil))))
    · intro e5 x6 h7;refine pw_so ?_;refine po_all ?_;(conv=>whnf);refine pw_seq ?_;refine pw_cond ?_;(conv=>whnf);refine pbr_oite h7 (fun _ h7 => ?_) (fun _ h7 => ?_)
      · (conv=>whnf);refine pw_skip ?_;(conv=>whnf);refine pw_seq ?_;refine pw_block ?_;refine pw_so ?_;refine po_all ?_;(conv=>whnf);refine pw_so ?_;refine po_all ?_;(conv=>whnf);refine pbr_ogrd h7 (fun _ h7 => ?_);(conv=>whnf);refine nth_o (l := a0) h7 (fun x8 _ h7 => ?_);(conv=>whnf);obtain ⟨y9, h10, h7⟩ := obnd_some h7;refine ICallV.go (hp0 _ _ h10) ?_;(conv=>whnf);refine pw_cond ?_;(conv=>whnf);refine pbr_oite h7 (fun _ h7 => ?_) (fun _ h7 => ?_)
        · (conv=>whnf);refine pw_so ?_;refine po_all ?_;(conv=>whnf);refine pw_ret ?_;(conv=>whnf);cases h7;refine ⟨_, rfl, ?_⟩; rintro rfl;(conv=>whnf);obtain rfl := h4 _ rfl; rfl
        · (conv=>whnf);refine pw_skip ?_;(conv=>whnf);refine pw_ops ?_;refine po_all ?_;(conv=>whnf);cases h7;refine ⟨_, rfl, ?_⟩;exact .sub' (Nat.le_of_ble_eq_true rfl) (.cons rfl (.cons rfl (.cons rfl (.cons rfl .nil))))
      · (conv=>whnf);refine pw_exit ?_;(conv=>whnf);cases h7;refine ⟨_, rfl, ?_⟩; rintro rfl;(conv=>whnf);exact ⟨_, rfl, ⟨.nil, rfl⟩⟩
  · intro r13 hr; have H := h3 _ hr;refine pw_so ?_;refine po_all ?_;(conv=>whnf);refine pw_ret ?_;(conv=>whnf);cases H; rfl

/-- slices.ContainsFunc[[]int,int] -/
noncomputable def f80 (p0 : Int → Option Bool) (a0 : List Int) : Option Bool :=
  obnd (f70 p0 a0) fun (y1 : Int) =>
  some (ile (0 : Int) y1)
set_option maxHeartbeats 1000000 in
theorem c80 {p0 : Int → Option Bool} {a0 : List Int} {g0 : Value} [Cl g0] (hp0 : ∀ y0 y, p0 y0 = some y → ICallV E g0 [(.int .i64 y0)] AHeap.none fun v _ => v = (.bool y)) {x : Bool} (H : f80 p0 a0 = some x) : ICalls E 80 [(VS 1 (a0.map eI)), g0] AHeap.none fun v _ => v = (.bool x) := by
  refine icalls_fn (pfnw rfl ?_); unfold f80 at H;(conv=>whnf);refine pw_so ?_;refine po_all ?_;(conv=>whnf);refine pw_so ?_;refine po_all ?_;(conv=>whnf);obtain ⟨y1, h2, H⟩ := obnd_some H;refine (c70 hp0 h2).go ?_;(conv=>whnf);refine pw_ret ?_;(conv=>whnf);cases H; rfl

/-- guidevane/dam.fitErr$1 -/
noncomputable def f116  (a0 : Int) : Option Bool :=
  obnd (f78 a0 (1000000000000 : Int)) fun (y1 : Bool) =>
  some (!y1)
set_option maxHeartbeats 1000000 in
theorem c116  {a0 : Int} {x : Bool} (H : f116 a0 = some x) : ICalls E 116 [(.int .i64 a0)] AHeap.none fun v _ => v = (.bool x) := by
  refine icalls_fn (pfnw rfl ?_); unfold f116 at H;(conv=>whnf);refine pw_so ?_;refine po_all ?_;(conv=>whnf);refine pw_so ?_;refine po_all ?_;(conv=>whnf);obtain ⟨y1, h2, H⟩ := obnd_some H;refine (c78 h2).go ?_;(conv=>whnf);refine pw_ret ?_;(conv=>whnf);cases H; rfl

/-- guidevane/dam.fitErr -/
noncomputable def f98  (a0 : Int) (a1 : Int) (a2 : Int) (a3 : Int) (a4 : Int) (a5 : Int) : Option Int :=
  obnd (f80 (fun (z0 : Int) => f116 z0) ([a1, a2, a3, a4, a5] : List Int)) fun (y1 : Bool) =>
  obnd (f65 a0 (1 : Int) (1000000000000 : Int)) fun (y3 : Bool) =>
  obnd (
   oite y3 (
    some (!y1)
     ) (
    some false
     )
    ) fun (r5 : Bool) =>
  obnd (f64 r5 (2 : Int)) fun (y7 : Int) =>
  some y7
set_option maxHeartbeats 1000000 in
theorem c98  {a0 : Int} {a1 : Int} {a2 : Int} {a3 : Int} {a4 : Int} {a5 : Int} {x : Int} (H : f98 a0 a1 a2 a3 a4 a5 = some x) : ICalls E 98 [(.agg ⟨[(.int .i64 a0), (.int .i64 a1), (.int .i64 a2), (.int .i64 a3), (.int .i64 a4), (.int .i64 a5)]⟩)] AHeap.none fun v _ => v = (.int .i64 x) := by
  refine icalls_fn (pfnw rfl ?_); unfold f98 at H;(conv=>whnf);refine pw_so ?_;refine po_all ?_;(conv=>whnf);refine pw_so ?_;refine po_all ?_;(conv=>whnf);obtain ⟨y1, h2, H⟩ := obnd_some H;refine ICalls.goD (c80 (fun _ _ h => (c116 h).asV) h2) (.cons (.sl1 rfl rfl (Nat.le_of_ble_eq_true rfl) rfl (by intro v hv; replace hv : v ∈ ([(.int .i64 a1), (.int .i64 a2), (.int .i64 a3), (.int .i64 a4), (.int .i64 a5)] : List Value) := hv; simp only [List.mem_cons, List.not_mem_nil, or_false] at hv; rcases hv with rfl | rfl | rfl | rfl | rfl <;> rfl)) (.cons .cl .nil)) rfl ?_;(conv=>whnf);refine pw_so ?_;refine po_ops 4 ?_
  (conv=>whnf);obtain ⟨y3, h4, H⟩ := obnd_some H;refine (c65 h4).go ?_;(conv=>whnf);obtain ⟨r5, h6, H⟩ := obnd_some H;refine po_seg (τ := Bool) 3 (fun e => ⟨[(13, (.bool e))], ⟨1, [(0, .rw [(.int .i64 a0), (.int .i64 a1), (.int .i64 a2), (.int .i64 a3), (.int .i64 a4), (.int .i64 a5)])], false⟩⟩) r5 ?_ ?_
  · refine po_all ?_;(conv=>whnf);refine pbr_oite h6 (fun _ h6 => ?_) (fun _ h6 => ?_)
    · (conv=>whnf);refine pbr_t (by assumption) ?_;(conv=>whnf);refine pbr_t (by assumption) ?_;(conv=>whnf);cases h6;exact ⟨(.cons rfl .nil), rfl⟩
    · (conv=>whnf);refine pbr_f (by assumption) ?_;(conv=>whnf);refine pbr_f (by assumption) ?_;(conv=>whnf);cases h6;exact ⟨(.cons rfl .nil), rfl⟩
  · refine po_all ?_;(conv=>whnf);obtain ⟨y7, h8, H⟩ := obnd_some H;refine (c64 h8).go ?_;(conv=>whnf);refine pw_ret ?_;(conv=>whnf);cases H; rfl

/-- (guidevane/dam.model).has -/
noncomputable def f114  (a0 : Int) (a1 : Int) : Option Bool :=
  ogrd (!((ilt a1 0))) (
  some (ieq (IntKind.i64.wrap (BitVec.ofInt (IntKind.bits .i64) (a0.fdiv (2 ^ (min a1.toNat (IntKind.bits .i64)))) &&& BitVec.ofInt (IntKind.bits .i64) (1 : Int)).toNat) (1 : Int))
  )
set_option maxHeartbeats 1000000 in
theorem c114  {a0 : Int} {a1 : Int} {x : Bool} (H : f114 a0 a1 = some x) : ICalls E 114 [(.int .i64 a0), (.int .i64 a1)] AHeap.none fun v _ => v = (.bool x) := by
  refine icalls_fn (pfnw rfl ?_); unfold f114 at H;(conv=>whnf);refine pw_so ?_;refine po_all ?_;(conv=>whnf);refine pw_so ?_;refine po_all ?_;(conv=>whnf);refine pbr_ogrdn H (fun _ H => ?_);(conv=>whnf);refine pw_ret ?_;(conv=>whnf);cases H; rfl

/-- (guidevane/dam.model).chosen -/
noncomputable def f95  (a0 : Int) : Option ((List Int)) :=
  obnd (
   oloop (τ := (List Int) × Int) (ρ := (List Int)) (fun e5 =>
    oite ((ilt e5.2 (5 : Int))) (
     obnd (f114 a0 e5.2) fun (y8 : Bool) =>
     oite y8 (
      ogrd (fits 8 (e5.1.length + ([e5.2] : List Int).length)) (
      some (.inl (((e5.1 ++ ([e5.2] : List Int)), (IntKind.i64.wrap (e5.2 + (1 : Int))))))
      )
       ) (
      some (.inl (e5.1, (IntKind.i64.wrap (e5.2 + (1 : Int)))))
       )
      ) (
     some (.inr (e5.1))
      )
     ) ((([] : List Int), (0 : Int)))
    ) fun (r1 : (List Int)) =>
  some r1
set_option maxHeartbeats 1000000 in
theorem c95  {a0 : Int} {x : (List Int)} (H : f95 a0 = some x) : ICalls E 95 [(.int .i64 a0)] AHeap.none fun v _ => v = (VS 1 (x.map eI)) := by
  refine ICalls.frz ?_;refine icalls_fn (pfnw rfl ?_); unfold f95 at H;(conv=>whnf);refine pw_so ?_;refine po_all ?_;(conv=>whnf);refine pw_so ?_;refine po_all ?_;(conv=>whnf);obtain ⟨r1, h2, H⟩ := obnd_some H;refine pw_join (ρ := (List Int)) (fun e => ⟨[(3, (VT 1 (e.map eI) 0))], ⟨1, [(0, .tail (e.map eI).length 1)], false⟩⟩) r1 ?_ ?_
  · refine pw_so ?_;refine po_all ?_;(conv=>whnf);refine pw_block ?_;refine pw_loop (τ := (List Int) × Int) (fun e => ⟨[(0, (.int .i64 a0)), (3, (VT 1 (e.1.map eI) 0)), (5, (.int .i64 e.2))], ⟨1, [(0, .tail (e.1.map eI).length 1)], false⟩⟩) h2 ?_ (fun _ => Nat.le_of_ble_eq_true rfl) ?_
    · exact Recast.nilTs 1 (Nat.le_of_ble_eq_true rfl) (.same rfl (.turn rfl (.same rfl .nil)))
    · intro e5 x6 h7;refine pw_so ?_;refine po_all ?_;(conv=>whnf);refine pw_seq ?_;refine pw_cond ?_;(conv=>whnf);refine pbr_oite h7 (fun _ h7 => ?_) (fun _ h7 => ?_)
      · (conv=>whnf);refine pw_skip ?_;(conv=>whnf);refine pw_seq ?_;refine pw_block ?_;refine pw_so ?_;refine po_all ?_;(conv=>whnf);refine pw_so ?_;refine po_all ?_;(conv=>whnf);obtain ⟨y8, h9, h7⟩ := obnd_some h7;refine (c114 h9).go ?_;(conv=>whnf);refine pw_cond ?_;(conv=>whnf);refine pbr_oite h7 (fun _ h7 => ?_) (fun _ h7 => ?_)
        · (conv=>whnf);refine pw_ops ?_;refine po_all ?_;(conv=>whnf);refine app_o (l := e5.1) (m := ([e5.2] : List Int)) (f := eI) h7 (by rfl) (by rfl) (by rfl) (fun h7 => ?_);(conv=>whnf);refine pw_ops ?_;refine po_all ?_;(conv=>whnf);cases h7;refine ⟨_, rfl, ?_⟩;refine Recast.trunc (Nat.le_of_ble_eq_true rfl) ?_ ?_
          · repeat (first | exact .nil | refine .cons rfl (by first | exact OBnd.rwc (Nat.le_of_ble_eq_true rfl) rfl | exact OBnd.tail (Nat.le_of_ble_eq_true rfl) | trivial) ?_)
          · repeat (first | exact .nil | refine .cons rfl (by first | exact Bnd.ptr (Nat.le_of_ble_eq_true rfl) | exact Bnd.vt (Nat.le_of_ble_eq_true rfl) | exact Bnd.cl) ?_)
        · (conv=>whnf);refine pw_skip ?_;(conv=>whnf);refine pw_ops ?_;refine po_all ?_;(conv=>whnf);cases h7;refine ⟨_, rfl, ?_⟩;exact .sub' (Nat.le_of_ble_eq_true rfl) (.cons rfl (.cons rfl (.cons rfl .nil)))
      · (conv=>whnf);refine pw_exit ?_;(conv=>whnf);cases h7;refine ⟨_, rfl, ?_⟩; rintro rfl;(conv=>whnf);exact ⟨(.cons rfl .nil), rfl⟩
  · refine pw_so ?_;refine po_all ?_;(conv=>whnf);refine pw_ret ?_;(conv=>whnf);cases H; show ∃ D, Fz _ D 0 (VT 1 _ 0) _;exact ⟨fun _ => false, .vtc⟩

/-- guidevane/dam.terms -/
noncomputable def f77  (a0 : Int) (a1 : Int) (_ : Int) : Option (Int × Int × Int × Int × Int) :=
  ogrd ((ile 0 (IntKind.i64.wrap ((IntKind.i64.wrap ((a0.tmod (360 : Int)) * (4 : Int))).tdiv (360 : Int))))) (
  ogrd ((ilt (IntKind.i64.wrap ((IntKind.i64.wrap ((a0.tmod (360 : Int)) * (4 : Int))).tdiv (360 : Int))) 4)) (
  obnd (([((1 : Int), (0 : Int)), ((0 : Int), (1 : Int)), ((-1 : Int), (0 : Int)), ((0 : Int), (-1 : Int))] : List (Int × Int))[(IntKind.i64.wrap ((IntKind.i64.wrap ((a0.tmod (360 : Int)) * (4 : Int))).tdiv (360 : Int))).toNat]?) fun (x1 : Int × Int) =>
  some ((1 : Int), a1, x1.1, x1.2, (IntKind.i64.wrap (a0.tdiv (360 : Int))))
  )
  )
set_option maxHeartbeats 1000000 in
theorem c77  {a0 : Int} {a1 : Int} {a2 : Int} {x : Int × Int × Int × Int × Int} (H : f77 a0 a1 a2 = some x) : ICalls E 77 [(.agg ⟨[(.int .i64 a0), (.int .i64 a1), (.int .i64 a2)]⟩)] AHeap.none fun v _ => v = (.agg ⟨[(.int .i64 x.1), (.int .i64 x.2.1), (.int .i64 x.2.2.1), (.int .i64 x.2.2.2.1), (.int .i64 x.2.2.2.2)]⟩) := by
  refine icalls_fn (pfnw rfl ?_); unfold f77 at H;(conv=>whnf);refine pw_so ?_;refine po_all ?_;(conv=>whnf);refine pw_so ?_;refine po_all ?_;(conv=>whnf);refine pbr_ogrd H (fun _ H => ?_);(conv=>whnf);refine pbr_ogrd H (fun _ H => ?_);(conv=>whnf);refine agg_o (l := ([((1 : Int), (0 : Int)), ((0 : Int), (1 : Int)), ((-1 : Int), (0 : Int)), ((0 : Int), (-1 : Int))] : List (Int × Int))) (f := (fun x => [(.int .i64 x.1), (.int .i64 x.2)])) H rfl (fun _ => rfl) (fun x1 _ H => ?_);(conv=>whnf);refine pw_so ?_;refine po_all ?_;(conv=>whnf);refine pw_ret ?_;(conv=>whnf);cases H; rfl

/-- guidevane/dam.given -/
noncomputable def f117  (a0 : Int) (a1 : Int) (a2 : Int) (a3 : Int) (a4 : Int) (a5 : Int) (a6 : Int) (a7 : Int) (a8 : Int) (a9 : List Int) : Option Int :=
  obnd (f77 a6 a7 a8) fun (y1 : Int × Int × Int × Int × Int) =>
  obnd (
   oloop (τ := Int × Int) (ρ := Int) (fun e7 =>
    oite ((ilt e7.2 ((a9.map eI).length : Int))) (
     ogrd ((ile 0 e7.2)) (
     obnd (a9[e7.2.toNat]?) fun (x10 : Int) =>
     ogrd ((ile 0 x10)) (
     ogrd ((ilt x10 5)) (
     obnd (([a0, a1, a2, a3, a4, a5] : List Int)[(1 + x10.toNat * 1)]?) fun (x11 : Int) =>
     obnd (([y1.1, y1.2.1, y1.2.2.1, y1.2.2.2.1, y1.2.2.2.2] : List Int)[(0 + x10.toNat * 1)]?) fun (x12 : Int) =>
     some (.inl (((IntKind.i64.wrap (e7.1 + (IntKind.i64.wrap (x11 * x12)))), (IntKind.i64.wrap (e7.2 + (1 : Int))))))
     )
     )
     )
      ) (
     some (.inr (e7.1))
      )
     ) (((0 : Int), (0 : Int)))
    ) fun (r3 : Int) =>
  some r3
set_option maxHeartbeats 1000000 in
theorem c117  {a0 : Int} {a1 : Int} {a2 : Int} {a3 : Int} {a4 : Int} {a5 : Int} {a6 : Int} {a7 : Int} {a8 : Int} {a9 : List Int} {x : Int} (H : f117 a0 a1 a2 a3 a4 a5 a6 a7 a8 a9 = some x) : ICalls E 117 [(.agg ⟨[(.int .i64 a0), (.int .i64 a1), (.int .i64 a2), (.int .i64 a3), (.int .i64 a4), (.int .i64 a5)]⟩), (.agg ⟨[(.int .i64 a6), (.int .i64 a7), (.int .i64 a8)]⟩), (VS 1 (a9.map eI))] AHeap.none fun v _ => v = (.int .i64 x) := by
  refine icalls_fn (pfnw rfl ?_); unfold f117 at H;(conv=>whnf);refine pw_so ?_;refine po_all ?_;(conv=>whnf);refine pw_so ?_;refine po_all ?_;(conv=>whnf);refine pw_so ?_;refine po_all ?_;(conv=>whnf);obtain ⟨y1, h2, H⟩ := obnd_some H;refine (c77 h2).go ?_;(conv=>whnf);obtain ⟨r3, h4, H⟩ := obnd_some H;refine pw_join (ρ := Int) (fun e => ⟨[(7, (.int .i64 e))], ⟨3, [(2, .rw [(.int .i64 y1.1), (.int .i64 y1.2.1), (.int .i64 y1.2.2.1), (.int .i64 y1.2.2.2.1), (.int .i64 y1.2.2.2.2)]), (1, .rw [(.int .i64 a6), (.int .i64 a7), (.int .i64 a8)]), (0, .rw [(.int .i64 a0), (.int .i64 a1), (.int .i64 a2), (.int .i64 a3), (.int .i64 a4), (.int .i64 a5)])], false⟩⟩) r3 ?_ ?_
  · refine pw_so ?_;refine po_all ?_;(conv=>whnf);refine pw_block ?_;refine pw_loop (τ := Int × Int) (fun e => ⟨[(3, (.pointer (some ⟨0, 0, none⟩))), (7, (.int .i64 e.1)), (8, (.pointer (some ⟨2, 0, none⟩))), (13, (VS 1 (a9.map eI))), (14, (.int .i64 ((a9.map eI).length : Int))), (15, (.int .i64 e.2))], ⟨3, [(2, .rw [(.int .i64 y1.1), (.int .i64 y1.2.1), (.int .i64 y1.2.2.1), (.int .i64 y1.2.2.2.1), (.int .i64 y1.2.2.2.2)]), (1, .rw [(.int .i64 a6), (.int .i64 a7), (.int .i64 a8)]), (0, .rw [(.int .i64 a0), (.int .i64 a1), (.int .i64 a2), (.int .i64 a3), (.int .i64 a4), (.int .i64 a5)])], false⟩⟩) h4 ?_ (fun _ => Nat.le_of_ble_eq_true rfl) ?_
    · exact .sub' (Nat.le_of_ble_eq_true rfl) (.cons rfl (.cons rfl (.cons rfl (.cons rfl (.cons rfl (.cons rfl .nil))))))
    · intro e7 x8 h9;refine pw_so ?_;refine po_all ?_;(conv=>whnf);refine pw_seq ?_;refine pw_cond ?_;(conv=>whnf);refine pbr_oite h9 (fun _ h9 => ?_) (fun _ h9 => ?_)
      · (conv=>whnf);refine pw_skip ?_;(conv=>whnf);refine pw_seq ?_;refine pw_block ?_;refine pw_so ?_;refine po_all ?_;(conv=>whnf);refine pbr_ogrd h9 (fun _ h9 => ?_);(conv=>whnf);refine nth_o (l := a9) h9 (fun x10 _ h9 => ?_);(conv=>whnf);refine pw_draw ?_;(conv=>whnf);refine pbr_ogrd h9 (fun _ h9 => ?_);(conv=>whnf);refine pbr_ogrd h9 (fun _ h9 => ?_);(conv=>whnf);refine nth_o (f := eI) (l := ([a0, a1, a2, a3, a4, a5] : List Int)) h9 (fun x11 _ h9 => ?_);(conv=>whnf);refine pbr_t (by assumption) ?_;(conv=>whnf);refine pbr_t (by assumption) ?_;(conv=>whnf);refine nth_o (f := eI) (l := ([y1.1, y1.2.1, y1.2.2.1, y1.2.2.2.1, y1.2.2.2.2] : List Int)) h9 (fun x12 _ h9 => ?_)
        (conv=>whnf);refine ⟨?_, trivial⟩;(conv=>whnf);refine ⟨by repeat (first | exact trivial | refine And.intro rfl ?_), ?_⟩;(conv=>whnf);refine pw_ops ?_;refine po_all ?_;(conv=>whnf);cases h9;refine ⟨_, rfl, ?_⟩;exact .sub' (Nat.le_of_ble_eq_true rfl) (.cons rfl (.cons rfl (.cons rfl (.cons rfl (.cons rfl (.cons rfl .nil))))))
      · (conv=>whnf);refine pw_exit ?_;(conv=>whnf);cases h9;refine ⟨_, rfl, ?_⟩; rintro rfl;(conv=>whnf);exact ⟨(.cons rfl .nil), rfl⟩
  · refine pw_so ?_;refine po_all ?_;(conv=>whnf);refine pw_ret ?_;(conv=>whnf);cases H; rfl

/-- guidevane/dam.whole -/
noncomputable def f102  (a0 : Int) (a1 : Int) (a2 : Int) (a3 : Int) (a4 : Int) (a5 : Int) (a6 : Int) (a7 : Int) (a8 : Int) : Option Int :=
  obnd (f95 (31 : Int)) fun (y1 : (List Int)) =>
  obnd (f117 a0 a1 a2 a3 a4 a5 a6 a7 a8 y1) fun (y3 : Int) =>
  some y3
set_option maxHeartbeats 1000000 in
theorem c102  {a0 : Int} {a1 : Int} {a2 : Int} {a3 : Int} {a4 : Int} {a5 : Int} {a6 : Int} {a7 : Int} {a8 : Int} {x : Int} (H : f102 a0 a1 a2 a3 a4 a5 a6 a7 a8 = some x) : ICalls E 102 [(.agg ⟨[(.int .i64 a0), (.int .i64 a1), (.int .i64 a2), (.int .i64 a3), (.int .i64 a4), (.int .i64 a5)]⟩), (.agg ⟨[(.int .i64 a6), (.int .i64 a7), (.int .i64 a8)]⟩)] AHeap.none fun v _ => v = (.int .i64 x) := by
  refine icalls_fn (pfnw rfl ?_); unfold f102 at H;(conv=>whnf);refine pw_so ?_;refine po_all ?_;(conv=>whnf);refine pw_sd ?_;(conv=>whnf);refine ⟨?_, trivial⟩;(conv=>whnf);obtain ⟨y1, h2, H⟩ := obnd_some H;refine (c95 h2).go ?_;(conv=>whnf);refine ⟨by repeat (first | exact trivial | refine And.intro rfl ?_), ?_⟩;(conv=>whnf);refine ⟨?_, trivial⟩;(conv=>whnf);obtain ⟨y3, h4, H⟩ := obnd_some H;refine (c117 h4).go ?_;(conv=>whnf);refine ⟨by repeat (first | exact trivial | refine And.intro rfl ?_), ?_⟩;(conv=>whnf);refine pw_ret ?_;(conv=>whnf);cases H; rfl

/-- guidevane/dam.rounded -/
noncomputable def f101  (a0 : Int) (a1 : Int) : Option (Int × Int) :=
  ogrd (!((ieq a1 0))) (
  obnd (
   oite ((ilt (a0.tmod a1) (0 : Int))) (
    some (IntKind.i64.wrap ((IntKind.i64.wrap (a0.tdiv a1)) - (1 : Int)))
     ) (
    some (IntKind.i64.wrap (a0.tdiv a1))
     )
    ) fun (r1 : Int) =>
  obnd (
   oite ((!(ieq (IntKind.i64.wrap (r1 * a1)) a0))) (
    some (IntKind.i64.wrap (r1 + (1 : Int)))
     ) (
    some r1
     )
    ) fun (r5 : Int) =>
  some (r1, r5)
  )
set_option maxHeartbeats 1000000 in
theorem c101  {a0 : Int} {a1 : Int} {x : Int × Int} (H : f101 a0 a1 = some x) : ICalls E 101 [(.int .i64 a0), (.int .i64 a1)] AHeap.none fun v _ => v = (.agg ⟨[(.int .i64 x.1), (.int .i64 x.2)]⟩) := by
  refine icalls_fn (pfnw rfl ?_); unfold f101 at H;(conv=>whnf);refine pw_so ?_;refine po_all ?_;(conv=>whnf);refine pw_so ?_;refine po_all ?_;(conv=>whnf);refine pbr_ogrdn H (fun _ H => ?_);(conv=>whnf);obtain ⟨r1, h2, H⟩ := obnd_some H;refine pw_join (ρ := Int) (fun e => ⟨[(0, (.int .i64 a0)), (1, (.int .i64 a1)), (4, (.pointer (some ⟨0, 0, none⟩))), (5, (.int .i64 e))], ⟨1, [(0, .rw [(.int .i64 0), (.int .i64 0)])], false⟩⟩) r1 ?_ ?_
  · refine pw_so ?_;refine po_all ?_;(conv=>whnf);refine pbr_f (by assumption) ?_;(conv=>whnf);refine pw_cond ?_;(conv=>whnf);refine pbr_oite h2 (fun _ h2 => ?_) (fun _ h2 => ?_)
    · (conv=>whnf);refine pw_ops ?_;refine po_all ?_;(conv=>whnf);cases h2;exact ⟨(.cons rfl (.cons rfl (.cons rfl (.cons rfl .nil)))), rfl⟩
    · (conv=>whnf);refine pw_skip ?_;(conv=>whnf);cases h2;exact ⟨(.cons rfl (.cons rfl (.cons rfl (.cons rfl .nil)))), rfl⟩
  · refine pw_so ?_;refine po_all ?_;(conv=>whnf);obtain ⟨r5, h6, H⟩ := obnd_some H;refine pw_join (ρ := Int) (fun e => ⟨[(4, (.pointer (some ⟨0, 0, none⟩))), (5, (.int .i64 r1)), (6, (.int .i64 e))], ⟨1, [(0, .rw [(.int .i64 0), (.int .i64 0)])], false⟩⟩) r5 ?_ ?_
    · refine pw_so ?_;refine po_all ?_;(conv=>whnf);refine pw_cond ?_;(conv=>whnf);refine pbr_oite h6 (fun _ h6 => ?_) (fun _ h6 => ?_)
      · (conv=>whnf);refine pw_ops ?_;refine po_all ?_;(conv=>whnf);cases h6;exact ⟨(.cons rfl (.cons rfl (.cons rfl .nil))), rfl⟩
      · (conv=>whnf);refine pw_skip ?_;(conv=>whnf);cases h6;exact ⟨(.cons rfl (.cons rfl (.cons rfl .nil))), rfl⟩
    · refine pw_so ?_;refine po_all ?_;(conv=>whnf);refine pw_ret ?_;(conv=>whnf);cases H; rfl

/-- guidevane/dam.residuals -/
noncomputable def f99  (a0 : List (Int × Int × Int)) (a1 : Int) (a2 : Int) (a3 : Int) (a4 : Int) (a5 : Int) (a6 : Int) : Option ((List (Int × Int))) :=
  obnd (
   oloop (τ := (List (Int × Int)) × Int) (ρ := (List (Int × Int))) (fun e5 =>
    oite ((ilt e5.2 ((a0.map e_III).length : Int))) (
     ogrd ((ile 0 e5.2)) (
     obnd (a0[e5.2.toNat]?) fun (x8 : Int × Int × Int) =>
     obnd (f102 a1 a2 a3 a4 a5 a6 x8.1 x8.2.1 x8.2.2) fun (y9 : Int) =>
     obnd (f101 (IntKind.i64.wrap ((IntKind.i64.wrap (a1 * x8.2.2)) - y9)) a1) fun (y11 : Int × Int) =>
     ogrd (fits 16 (e5.1.length + ([(y11.1, y11.2)] : List (Int × Int)).length)) (
     some (.inl (((e5.1 ++ ([(y11.1, y11.2)] : List (Int × Int))), (IntKind.i64.wrap (e5.2 + (1 : Int))))))
     )
     )
      ) (
     some (.inr (e5.1))
      )
     ) ((([] : List (Int × Int)), (0 : Int)))
    ) fun (r1 : (List (Int × Int))) =>
  some r1
set_option maxHeartbeats 1000000 in
theorem c99  {a0 : List (Int × Int × Int)} {a1 : Int} {a2 : Int} {a3 : Int} {a4 : Int} {a5 : Int} {a6 : Int} {x : (List (Int × Int))} (H : f99 a0 a1 a2 a3 a4 a5 a6 = some x) : ICalls E 99 [(VS 3 (a0.map e_III)), (.agg ⟨[(.int .i64 a1), (.int .i64 a2), (.int .i64 a3), (.int .i64 a4), (.int .i64 a5), (.int .i64 a6)]⟩)] AHeap.none fun v _ => v = (VS 2 (x.map e_II)) := by
  refine ICalls.frz ?_;refine icalls_fn (pfnw rfl ?_); unfold f99 at H;(conv=>whnf);refine pw_so ?_;refine po_all ?_;(conv=>whnf);refine pw_so ?_;refine po_all ?_;(conv=>whnf);obtain ⟨r1, h2, H⟩ := obnd_some H;refine pw_join (ρ := (List (Int × Int))) (fun e => ⟨[(5, (VT 2 (e.map e_II) 1))], ⟨2, [(1, .tail (e.map e_II).length 2), (0, .rw [(.int .i64 a1), (.int .i64 a2), (.int .i64 a3), (.int .i64 a4), (.int .i64 a5), (.int .i64 a6)])], false⟩⟩) r1 ?_ ?_
  · refine pw_so ?_;refine po_all ?_;(conv=>whnf);refine pw_block ?_;refine pw_loop (τ := (List (Int × Int)) × Int) (fun e => ⟨[(3, (.pointer (some ⟨0, 0, none⟩))), (5, (VT 2 (e.1.map e_II) 1)), (8, (VS 3 (a0.map e_III))), (9, (.int .i64 ((a0.map e_III).length : Int))), (10, (.int .i64 e.2))], ⟨2, [(1, .tail (e.1.map e_II).length 2), (0, .rw [(.int .i64 a1), (.int .i64 a2), (.int .i64 a3), (.int .i64 a4), (.int .i64 a5), (.int .i64 a6)])], false⟩⟩) h2 ?_ (fun _ => Nat.le_of_ble_eq_true rfl) ?_
    · exact Recast.nilTs 2 (Nat.le_of_ble_eq_true rfl) (.same rfl (.turn rfl (.same rfl (.same rfl (.same rfl .nil)))))
    · intro e5 x6 h7;refine pw_so ?_;refine po_all ?_;(conv=>whnf);refine pw_seq ?_;refine pw_cond ?_;(conv=>whnf);refine pbr_oite h7 (fun _ h7 => ?_) (fun _ h7 => ?_)
      · (conv=>whnf);refine pw_skip ?_;(conv=>whnf);refine pw_seq ?_;refine pw_block ?_;refine pw_so ?_;refine po_all ?_;(conv=>whnf);refine pbr_ogrd h7 (fun _ h7 => ?_);(conv=>whnf);refine nth_o (l := a0) h7 (fun x8 _ h7 => ?_);(conv=>whnf);refine pw_draw ?_;(conv=>whnf);refine ⟨?_, trivial⟩;(conv=>whnf);obtain ⟨y9, h10, h7⟩ := obnd_some h7;refine (c102 h10).go ?_;(conv=>whnf);refine ⟨by repeat (first | exact trivial | refine And.intro rfl ?_), ?_⟩;(conv=>whnf);refine ⟨?_, trivial⟩;(conv=>whnf);obtain ⟨y11, h12, h7⟩ := obnd_some h7;refine (c101 h12).go ?_;(conv=>whnf);refine ⟨by repeat (first | exact trivial | refine And.intro rfl ?_), ?_⟩
        (conv=>whnf);refine ⟨?_, trivial⟩;(conv=>whnf);refine ⟨by repeat (first | exact trivial | refine And.intro rfl ?_), ?_⟩;(conv=>whnf);refine ⟨?_, trivial⟩;(conv=>whnf);refine app_o (l := e5.1) (m := ([(y11.1, y11.2)] : List (Int × Int))) (f := e_II) h7 (by rfl) (by rfl) (by rfl) (fun h7 => ?_);(conv=>whnf);refine ⟨by repeat (first | exact trivial | refine And.intro rfl ?_), ?_⟩;(conv=>whnf);refine ⟨?_, trivial⟩;(conv=>whnf);refine ⟨by repeat (first | exact trivial | refine And.intro rfl ?_), ?_⟩;(conv=>whnf);refine pw_ops ?_;refine po_all ?_;(conv=>whnf);cases h7;refine ⟨_, rfl, ?_⟩;refine Recast.trunc (Nat.le_of_ble_eq_true rfl) ?_ ?_
        · repeat (first | exact .nil | refine .cons rfl (by first | exact OBnd.rwc (Nat.le_of_ble_eq_true rfl) rfl | exact OBnd.tail (Nat.le_of_ble_eq_true rfl) | trivial) ?_)
        · repeat (first | exact .nil | refine .cons rfl (by first | exact Bnd.ptr (Nat.le_of_ble_eq_true rfl) | exact Bnd.vt (Nat.le_of_ble_eq_true rfl) | exact Bnd.cl) ?_)
      · (conv=>whnf);refine pw_exit ?_;(conv=>whnf);cases h7;refine ⟨_, rfl, ?_⟩; rintro rfl;(conv=>whnf);exact ⟨(.cons rfl .nil), rfl⟩
  · refine pw_so ?_;refine po_all ?_;(conv=>whnf);refine pw_ret ?_;(conv=>whnf);cases H; show ∃ D, Fz _ D 0 (VT 2 _ 1) _;exact ⟨fun _ => false, .vtc⟩

end Go.Proofs.YtfdapegcngmknaaGreat.AM
