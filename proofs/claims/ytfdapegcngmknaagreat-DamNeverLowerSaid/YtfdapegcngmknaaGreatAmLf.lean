/- Computations of functions, and that the functions do them (printed by tools/lift.py). Conditions: none. -/
import Derived.Test.YtfdapegcngmknaaGreatAmMan
namespace Go.Proofs.YtfdapegcngmknaaGreat.AM
set_option linter.unusedSimpArgs false
set_option linter.unusedVariables false
open Go Go.RowKit
attribute [local irreducible] ICallV ICalls Recast
abbrev e_SI (x : ByteArray × Int) : Value := .agg ⟨[(.string x.1), (.int .i64 x.2)]⟩
instance {x : ByteArray × Int} : Cl (e_SI x) := inferInstanceAs (Cl (.agg ⟨[(.string x.1), (.int .i64 x.2)]⟩))

/-- guidevane/guidevanelaw09.fewRules -/
noncomputable def f35  (a0 : List Int) (a1 : List Int) (_ : Int) (a3 : List (ByteArray × Int)) : Option Bool :=
  obnd (
   obnd (
    oite ((ilt (7 : Int) ((a0.map eI).length : Int))) (
     some true
      ) (
     some (ilt (7 : Int) ((a1.map eI).length : Int))
      )
     ) fun (r5 : Bool) =>
   oite r5 (
    some true
     ) (
    some (ilt (12 : Int) ((a3.map e_SI).length : Int))
     )
    ) fun (r1 : Bool) =>
  oite r1 (
   some false
    ) (
   obndS (
    oloop (τ := Int) (ρ := (Unit) ⊕ Bool) (fun e11 =>
     oite ((ilt e11 ((a3.map e_SI).length : Int))) (
      ogrd ((ile 0 e11)) (
      obnd (a3[e11.toNat]?) fun (x14 : ByteArray × Int) =>
      oite ((ilt (30 : Int) (x14.1.size : Int))) (
       some (.inr (.inr (false)))
        ) (
       some (.inl (IntKind.i64.wrap (e11 + (1 : Int))))
        )
      )
       ) (
      some (.inr (.inl ()))
       )
      ) (0 : Int)
     ) fun (_ : Unit) =>
   some true
    )
set_option maxHeartbeats 1000000 in
theorem c35  {a0 : List Int} {a1 : List Int} {a2 : Int} {a3 : List (ByteArray × Int)} {x : Bool} (H : f35 a0 a1 a2 a3 = some x) : ICalls E 35 [(.agg ⟨[(VS 1 (a0.map eI)), (VS 1 (a1.map eI)), (.int .i64 a2), (VS 2 (a3.map e_SI))]⟩)] AHeap.none fun v _ => v = (.bool x) := by
  refine icalls_fn (pfnw rfl ?_); unfold f35 at H;(conv=>whnf);refine pw_so ?_;refine po_all ?_;(conv=>whnf);refine pw_seq ?_;obtain ⟨r1, h2, H⟩ := obnd_some H;refine pw_join (ρ := Bool) (fun e => ⟨[(1, (.pointer (some ⟨0, 0, none⟩))), (19, (.bool e))], ⟨1, [(0, .rw [(VS 1 (a0.map eI)), (VS 1 (a1.map eI)), (.int .i64 a2), (VS 2 (a3.map e_SI))])], false⟩⟩) r1 ?_ ?_
  · refine pw_ops ?_;refine po_ops 5 ?_;(conv=>whnf);obtain ⟨r5, h6, h2⟩ := obnd_some h2;refine po_seg (τ := Bool) 5 (fun e => ⟨[(1, (.pointer (some ⟨0, 0, none⟩))), (13, (.bool e))], ⟨1, [(0, .rw [(VS 1 (a0.map eI)), (VS 1 (a1.map eI)), (.int .i64 a2), (VS 2 (a3.map e_SI))])], false⟩⟩) r5 ?_ ?_
    · refine po_all ?_;(conv=>whnf);refine pbr_oite h6 (fun _ h6 => ?_) (fun _ h6 => ?_)
      · (conv=>whnf);refine pbr_t (by assumption) ?_;(conv=>whnf);refine pbr_t (by assumption) ?_;(conv=>whnf);refine pbr_t (by assumption) ?_;(conv=>whnf);refine pbr_t (by assumption) ?_;(conv=>whnf);cases h6;exact ⟨(.cons rfl (.cons rfl .nil)), rfl⟩
      · (conv=>whnf);refine pbr_f (by assumption) ?_;(conv=>whnf);refine pbr_f (by assumption) ?_;(conv=>whnf);refine pbr_f (by assumption) ?_;(conv=>whnf);refine pbr_f (by assumption) ?_;(conv=>whnf);cases h6;exact ⟨(.cons rfl (.cons rfl .nil)), rfl⟩
    · refine po_all ?_;(conv=>whnf);refine pbr_oite h2 (fun _ h2 => ?_) (fun _ h2 => ?_)
      · (conv=>whnf);refine pbr_t (by assumption) ?_;(conv=>whnf);refine pbr_t (by assumption) ?_;(conv=>whnf);refine pbr_t (by assumption) ?_;(conv=>whnf);refine pbr_t (by assumption) ?_;(conv=>whnf);cases h2;exact ⟨(.cons rfl (.cons rfl .nil)), rfl⟩
      · (conv=>whnf);refine pbr_f (by assumption) ?_;(conv=>whnf);refine pbr_f (by assumption) ?_;(conv=>whnf);refine pbr_f (by assumption) ?_;(conv=>whnf);refine pbr_f (by assumption) ?_;(conv=>whnf);cases h2;exact ⟨(.cons rfl (.cons rfl .nil)), rfl⟩
  · refine pw_cond ?_;(conv=>whnf);refine pbr_oite H (fun _ H => ?_) (fun _ H => ?_)
    · (conv=>whnf);refine pw_so ?_;refine po_all ?_;(conv=>whnf);refine pw_ret ?_;(conv=>whnf);cases H; rfl
    · (conv=>whnf);refine pw_skip ?_;(conv=>whnf);obtain ⟨r7, h8, h9, h10⟩ := obndS_some H;refine pw_joinS (ρ := Unit) (fun e => ⟨[], ⟨1, [(0, .rw [(VS 1 (a0.map eI)), (VS 1 (a1.map eI)), (.int .i64 a2), (VS 2 (a3.map e_SI))])], false⟩⟩) r7 ?_ ?_
      · refine pw_so ?_;refine po_all ?_;(conv=>whnf);refine pw_block ?_;refine pw_loop (τ := Int) (fun e => ⟨[(1, (.pointer (some ⟨0, 0, none⟩))), (3, (.int .i64 e))], ⟨1, [(0, .rw [(VS 1 (a0.map eI)), (VS 1 (a1.map eI)), (.int .i64 a2), (VS 2 (a3.map e_SI))])], false⟩⟩) h8 ?_ (fun _ => Nat.le_of_ble_eq_true rfl) ?_
        · exact .sub' (Nat.le_of_ble_eq_true rfl) (.cons rfl (.cons rfl .nil))
        · intro e11 x12 h13;refine pw_seq ?_;refine pw_so ?_;refine po_all ?_;(conv=>whnf);refine pw_cond ?_;(conv=>whnf);refine pbr_oite h13 (fun _ h13 => ?_) (fun _ h13 => ?_)
          · (conv=>whnf);refine pw_skip ?_;(conv=>whnf);refine pw_seq ?_;refine pw_block ?_;refine pw_so ?_;refine po_all ?_;(conv=>whnf);refine pbr_ogrd h13 (fun _ h13 => ?_);(conv=>whnf);refine nth_o (l := a3) h13 (fun x14 _ h13 => ?_);(conv=>whnf);refine pw_cond ?_;(conv=>whnf);refine pbr_oite h13 (fun _ h13 => ?_) (fun _ h13 => ?_)
            · (conv=>whnf);refine pw_so ?_;refine po_all ?_;(conv=>whnf);refine pw_ret ?_;(conv=>whnf);cases h13;refine ⟨_, rfl, ?_⟩; rintro rfl;(conv=>whnf);obtain rfl := h10 _ rfl; rfl
            · (conv=>whnf);refine pw_skip ?_;(conv=>whnf);refine pw_ops ?_;refine po_all ?_;(conv=>whnf);cases h13;refine ⟨_, rfl, ?_⟩;exact .sub' (Nat.le_of_ble_eq_true rfl) (.cons rfl (.cons rfl .nil))
          · (conv=>whnf);refine pw_exit ?_;(conv=>whnf);cases h13;refine ⟨_, rfl, ?_⟩; rintro rfl;(conv=>whnf);exact ⟨_, rfl, ⟨.nil, rfl⟩⟩
      · intro r17 hr; have H := h9 _ hr;refine pw_so ?_;refine po_all ?_;(conv=>whnf);refine pw_ret ?_;(conv=>whnf);cases H; rfl

/-- guidevane/guidevanebase.CopyInts -/
noncomputable def f38  (a0 : List Int) : Option ((List Int)) :=
  ogrd (fits 8 (([] : List Int).length + a0.length)) (
  some (([] : List Int) ++ a0)
  )
set_option maxHeartbeats 1000000 in
theorem c38  {a0 : List Int} {x : (List Int)} (H : f38 a0 = some x) : ICalls E 38 [(VS 1 (a0.map eI))] AHeap.none fun v _ => v = (VS 1 (x.map eI)) := by
  refine ICalls.frz ?_;refine icalls_fn (pfnw rfl ?_); unfold f38 at H;(conv=>whnf);refine pw_so ?_;refine po_all ?_;(conv=>whnf);refine pw_so ?_;refine po_all ?_;(conv=>whnf);refine app_o (l := ([] : List Int)) (m := a0) (f := eI) H (by rfl) (by rfl) (by rfl) (fun H => ?_);(conv=>whnf);refine pw_ret ?_;(conv=>whnf);cases H; show ∃ D, Fz _ D 0 (VT 1 _ 0) _;exact ⟨fun _ => false, .vtc⟩

/-- guidevane/guidevaneref09.CopyRules -/
noncomputable def f37  (a0 : List Int) (a1 : List Int) (a2 : Int) (a3 : List (ByteArray × Int)) : Option ((List Int) × (List Int) × Int × (List (ByteArray × Int))) :=
  obnd (f38 a0) fun (y1 : (List Int)) =>
  obnd (f38 a1) fun (y3 : (List Int)) =>
  ogrd (fits 24 (([] : List (ByteArray × Int)).length + a3.length)) (
  some (y1, y3, a2, (([] : List (ByteArray × Int)) ++ a3))
  )
set_option maxHeartbeats 1000000 in
theorem c37  {a0 : List Int} {a1 : List Int} {a2 : Int} {a3 : List (ByteArray × Int)} {x : (List Int) × (List Int) × Int × (List (ByteArray × Int))} (H : f37 a0 a1 a2 a3 = some x) : ICalls E 37 [(.agg ⟨[(VS 1 (a0.map eI)), (VS 1 (a1.map eI)), (.int .i64 a2), (VS 2 (a3.map e_SI))]⟩)] AHeap.none fun v _ => v = (.agg ⟨[(VS 1 (x.1.map eI)), (VS 1 (x.2.1.map eI)), (.int .i64 x.2.2.1), (VS 2 (x.2.2.2.map e_SI))]⟩) := by
  refine ICalls.frz ?_;refine icalls_fn (pfnw rfl ?_); unfold f37 at H;(conv=>whnf);refine pw_so ?_;refine po_all ?_;(conv=>whnf);refine pw_sd ?_;(conv=>whnf);refine ⟨?_, ?_⟩
  · (conv=>whnf);obtain ⟨y1, h2, H⟩ := obnd_some H;refine (c38 h2).go ?_;(conv=>whnf);refine ⟨by repeat (first | exact trivial | refine And.intro rfl ?_), ?_⟩;(conv=>whnf);refine ⟨?_, ?_⟩
    · (conv=>whnf);obtain ⟨y3, h4, H⟩ := obnd_some H;refine (c38 h4).go ?_;(conv=>whnf);refine ⟨by repeat (first | exact trivial | refine And.intro rfl ?_), ?_⟩;(conv=>whnf);refine ⟨?_, trivial⟩;(conv=>whnf);refine ⟨by repeat (first | exact trivial | refine And.intro rfl ?_), ?_⟩;(conv=>whnf);refine ⟨?_, trivial⟩;(conv=>whnf);refine app_o (l := ([] : List (ByteArray × Int))) (m := a3) (f := e_SI) H (by rfl) (by rfl) (by rfl) (fun H => ?_);(conv=>whnf);refine ⟨by repeat (first | exact trivial | refine And.intro rfl ?_), ?_⟩;(conv=>whnf);refine ⟨?_, trivial⟩;(conv=>whnf);refine ⟨by repeat (first | exact trivial | refine And.intro rfl ?_), ?_⟩
      (conv=>whnf);refine pw_ret ?_;(conv=>whnf);cases H; show ∃ D, Fz _ D 0 (.agg ⟨[(VS 1 _), (VS 1 _), (.int .i64 a2), (VT 2 _ 2)]⟩) _;exact ⟨fun _ => false, .aggl (.cons .cl (.cons .cl (.cons .cl (.cons .vtc (.nil)))))⟩
    · obtain ⟨y3, h4, H⟩ := obnd_some H;(conv=>whnf);refine ⟨?_, trivial⟩;(conv=>whnf);refine ⟨by repeat (first | exact trivial | refine And.intro rfl ?_), ?_⟩;(conv=>whnf);refine ⟨?_, trivial⟩;(conv=>whnf);refine (c38 h4).go ?_;(conv=>whnf);refine ⟨by repeat (first | exact trivial | refine And.intro rfl ?_), ?_⟩;(conv=>whnf);refine ⟨?_, trivial⟩;(conv=>whnf);refine app_o (l := ([] : List (ByteArray × Int))) (m := a3) (f := e_SI) H (by rfl) (by rfl) (by rfl) (fun H => ?_);(conv=>whnf);refine ⟨by repeat (first | exact trivial | refine And.intro rfl ?_), ?_⟩;(conv=>whnf);refine ⟨?_, trivial⟩;(conv=>whnf)
      refine ⟨by repeat (first | exact trivial | refine And.intro rfl ?_), ?_⟩;(conv=>whnf);refine pw_ret ?_;(conv=>whnf);cases H; show ∃ D, Fz _ D 0 (.agg ⟨[(VS 1 _), (VS 1 _), (.int .i64 a2), (VT 2 _ 2)]⟩) _;exact ⟨fun _ => false, .aggl (.cons .cl (.cons .cl (.cons .cl (.cons .vtc (.nil)))))⟩
  · obtain ⟨y1, h2, H⟩ := obnd_some H;obtain ⟨y3, h4, H⟩ := obnd_some H;(conv=>whnf);refine ⟨?_, trivial⟩;(conv=>whnf);refine ⟨by repeat (first | exact trivial | refine And.intro rfl ?_), ?_⟩;(conv=>whnf);refine ⟨?_, trivial⟩;(conv=>whnf);refine (c38 h2).go ?_;(conv=>whnf);refine ⟨by repeat (first | exact trivial | refine And.intro rfl ?_), ?_⟩;(conv=>whnf);refine ⟨?_, trivial⟩;(conv=>whnf);refine (c38 h4).go ?_;(conv=>whnf);refine ⟨by repeat (first | exact trivial | refine And.intro rfl ?_), ?_⟩;(conv=>whnf);refine ⟨?_, trivial⟩;(conv=>whnf);refine app_o (l := ([] : List (ByteArray × Int))) (m := a3) (f := e_SI) H (by rfl) (by rfl) (by rfl) (fun H => ?_)
    (conv=>whnf);refine ⟨by repeat (first | exact trivial | refine And.intro rfl ?_), ?_⟩;(conv=>whnf);refine ⟨?_, trivial⟩;(conv=>whnf);refine ⟨by repeat (first | exact trivial | refine And.intro rfl ?_), ?_⟩;(conv=>whnf);refine pw_ret ?_;(conv=>whnf);cases H; show ∃ D, Fz _ D 0 (.agg ⟨[(VS 1 _), (VS 1 _), (.int .i64 a2), (VT 2 _ 2)]⟩) _;exact ⟨fun _ => false, .aggl (.cons .cl (.cons .cl (.cons .cl (.cons .vtc (.nil)))))⟩

/-- guidevane/dam.unless -/
noncomputable def f64  (a0 : Bool) (a1 : Int) : Option Int :=
  oite a0 (
   some (0 : Int)
    ) (
   some a1
    )
set_option maxHeartbeats 1000000 in
theorem c64  {a0 : Bool} {a1 : Int} {x : Int} (H : f64 a0 a1 = some x) : ICalls E 64 [(.bool a0), (.int .i64 a1)] AHeap.none fun v _ => v = (.int .i64 x) := by
  refine icalls_fn (pfnw rfl ?_); unfold f64 at H;(conv=>whnf);refine pw_so ?_;refine po_all ?_;(conv=>whnf);refine pw_seq ?_;refine pw_so ?_;refine po_all ?_;(conv=>whnf);refine pw_cond ?_;(conv=>whnf);refine pbr_oite H (fun _ H => ?_) (fun _ H => ?_)
  · (conv=>whnf);refine pw_so ?_;refine po_all ?_;(conv=>whnf);refine pw_ret ?_;(conv=>whnf);cases H; rfl
  · (conv=>whnf);refine pw_skip ?_;(conv=>whnf);refine pw_so ?_;refine po_all ?_;(conv=>whnf);refine pw_ret ?_;(conv=>whnf);cases H; rfl

/-- guidevane/dam.first -/
noncomputable def f63  (a0 : List Int) : Option Int :=
  obndS (
   oloop (τ := Int) (ρ := (Unit) ⊕ Int) (fun e5 =>
    oite ((ilt e5 ((a0.map eI).length : Int))) (
     ogrd ((ile 0 e5)) (
     obnd (a0[e5.toNat]?) fun (x8 : Int) =>
     oite ((!(ieq x8 (0 : Int)))) (
      some (.inr (.inr (x8)))
       ) (
      some (.inl (IntKind.i64.wrap (e5 + (1 : Int))))
       )
     )
      ) (
     some (.inr (.inl ()))
      )
     ) (0 : Int)
    ) fun (_ : Unit) =>
  some (0 : Int)
set_option maxHeartbeats 1000000 in
theorem c63  {a0 : List Int} {x : Int} (H : f63 a0 = some x) : ICalls E 63 [(VS 1 (a0.map eI))] AHeap.none fun v _ => v = (.int .i64 x) := by
  refine icalls_fn (pfnw rfl ?_); unfold f63 at H;(conv=>whnf);refine pw_so ?_;refine po_all ?_;(conv=>whnf);obtain ⟨r1, h2, h3, h4⟩ := obndS_some H;refine pw_joinS (ρ := Unit) (fun e => ⟨[], ⟨0, [], false⟩⟩) r1 ?_ ?_
  · refine pw_so ?_;refine po_all ?_;(conv=>whnf);refine pw_block ?_;refine pw_loop (τ := Int) (fun e => ⟨[(5, (VS 1 (a0.map eI))), (6, (.int .i64 ((a0.map eI).length : Int))), (7, (.int .i64 e))], ⟨0, [], false⟩⟩) h2 ?_ (fun _ => Nat.le_of_ble_eq_true rfl) ?_
    · exact .sub' (Nat.le_of_ble_eq_true rfl) (.cons rfl (.cons rfl (.cons rfl .nil)))
    · intro e5 x6 h7;refine pw_so ?_;refine po_all ?_;(conv=>whnf);refine pw_seq ?_;refine pw_cond ?_;(conv=>whnf);refine pbr_oite h7 (fun _ h7 => ?_) (fun _ h7 => ?_)
      · (conv=>whnf);refine pw_skip ?_;(conv=>whnf);refine pw_seq ?_;refine pw_block ?_;refine pw_so ?_;refine po_all ?_;(conv=>whnf);refine pbr_ogrd h7 (fun _ h7 => ?_);(conv=>whnf);refine nth_o (l := a0) h7 (fun x8 _ h7 => ?_);(conv=>whnf);refine pw_so ?_;refine po_all ?_;(conv=>whnf);refine pw_cond ?_;(conv=>whnf);refine pbr_oite h7 (fun _ h7 => ?_) (fun _ h7 => ?_)
        · (conv=>whnf);refine pw_so ?_;refine po_all ?_;(conv=>whnf);refine pw_ret ?_;(conv=>whnf);cases h7;refine ⟨_, rfl, ?_⟩; rintro rfl;(conv=>whnf);obtain rfl := h4 _ rfl; rfl
        · (conv=>whnf);refine pw_skip ?_;(conv=>whnf);refine pw_ops ?_;refine po_all ?_;(conv=>whnf);cases h7;refine ⟨_, rfl, ?_⟩;exact .sub' (Nat.le_of_ble_eq_true rfl) (.cons rfl (.cons rfl (.cons rfl .nil)))
      · (conv=>whnf);refine pw_exit ?_;(conv=>whnf);cases h7;refine ⟨_, rfl, ?_⟩; rintro rfl;(conv=>whnf);exact ⟨_, rfl, ⟨.nil, rfl⟩⟩
  · intro r11 hr; have H := h3 _ hr;refine pw_so ?_;refine po_all ?_;(conv=>whnf);refine pw_ret ?_;(conv=>whnf);cases H; rfl

/-- guidevane/dam.within -/
noncomputable def f65  (a0 : Int) (a1 : Int) (a2 : Int) : Option Bool :=
  obnd (
   oite ((ile a1 a0)) (
    some (ile a0 a2)
     ) (
    some false
     )
    ) fun (r1 : Bool) =>
  some r1
set_option maxHeartbeats 1000000 in
theorem c65  {a0 : Int} {a1 : Int} {a2 : Int} {x : Bool} (H : f65 a0 a1 a2 = some x) : ICalls E 65 [(.int .i64 a0), (.int .i64 a1), (.int .i64 a2)] AHeap.none fun v _ => v = (.bool x) := by
  refine icalls_fn (pfnw rfl ?_); unfold f65 at H;(conv=>whnf);refine pw_so ?_;refine po_all ?_;(conv=>whnf);refine pw_so ?_;refine po_ops 4 ?_;(conv=>whnf);obtain ⟨r1, h2, H⟩ := obnd_some H;refine po_seg (τ := Bool) 4 (fun e => ⟨[(14, (.bool e))], ⟨0, [], false⟩⟩) r1 ?_ ?_
  · refine po_all ?_;(conv=>whnf);refine pbr_oite h2 (fun _ h2 => ?_) (fun _ h2 => ?_)
    · (conv=>whnf);refine pbr_t (by assumption) ?_;(conv=>whnf);refine pbr_t (by assumption) ?_;(conv=>whnf);refine pbr_t (by assumption) ?_;(conv=>whnf);cases h2;exact ⟨(.cons rfl .nil), rfl⟩
    · (conv=>whnf);refine pbr_f (by assumption) ?_;(conv=>whnf);refine pbr_f (by assumption) ?_;(conv=>whnf);refine pbr_f (by assumption) ?_;(conv=>whnf);cases h2;exact ⟨(.cons rfl .nil), rfl⟩
  · refine po_all ?_;(conv=>whnf);refine pw_ret ?_;(conv=>whnf);cases H; rfl

/-- guidevane/dam.CheckRules$1 -/
noncomputable def f85  (a0 : Int) : Option Bool :=
  obnd (f65 a0 (1 : Int) (1000000 : Int)) fun (y1 : Bool) =>
  some y1
set_option maxHeartbeats 1000000 in
theorem c85  {a0 : Int} {x : Bool} (H : f85 a0 = some x) : ICalls E 85 [(.int .i64 a0)] AHeap.none fun v _ => v = (.bool x) := by
  refine icalls_fn (pfnw rfl ?_); unfold f85 at H;(conv=>whnf);refine pw_so ?_;refine po_all ?_;(conv=>whnf);refine pw_so ?_;refine po_all ?_;(conv=>whnf);obtain ⟨y1, h2, H⟩ := obnd_some H;refine (c65 h2).go ?_;(conv=>whnf);refine pw_ret ?_;(conv=>whnf);cases H; rfl

/-- slices.IndexFunc[[]guidevane/api.DamPerson,guidevane/api.DamPerson] -/
noncomputable def f110 (p0 : ByteArray → Int → Option Bool) (a0 : List (ByteArray × Int)) : Option Int :=
  obndS (
   oloop (τ := Int) (ρ := (Unit) ⊕ Int) (fun e5 =>
    oite ((ilt e5 ((a0.map e_SI).length : Int))) (
     ogrd ((ile 0 e5)) (
     obnd (a0[e5.toNat]?) fun (x8 : ByteArray × Int) =>
     obnd (p0 x8.1 x8.2) fun (y9 : Bool) =>
     oite y9 (
      some (.inr (.inr (e5)))
       ) (
      some (.inl (IntKind.i64.wrap (e5 + (1 : Int))))
       )
     )
      ) (
     some (.inr (.inl ()))
      )
     ) (0 : Int)
    ) fun (_ : Unit) =>
  some (-1 : Int)
set_option maxHeartbeats 1000000 in
theorem c110 {p0 : ByteArray → Int → Option Bool} {a0 : List (ByteArray × Int)} {g0 : Value} [Cl g0] (hp0 : ∀ y0 y1 y, p0 y0 y1 = some y → ICallV E g0 [(.agg ⟨[(.string y0), (.int .i64 y1)]⟩)] AHeap.none fun v _ => v = (.bool y)) {x : Int} (H : f110 p0 a0 = some x) : ICalls E 110 [(VS 2 (a0.map e_SI)), g0] AHeap.none fun v _ => v = (.int .i64 x) := by
  refine icalls_fn (pfnw rfl ?_); unfold f110 at H;(conv=>whnf);refine pw_so ?_;refine po_all ?_;(conv=>whnf);obtain ⟨r1, h2, h3, h4⟩ := obndS_some H;refine pw_joinS (ρ := Unit) (fun e => ⟨[], ⟨0, [], false⟩⟩) r1 ?_ ?_
  · refine pw_so ?_;refine po_all ?_;(conv=>whnf);refine pw_block ?_;refine pw_loop (τ := Int) (fun e => ⟨[(0, (VS 2 (a0.map e_SI))), (1, g0), (7, (.int .i64 ((a0.map e_SI).length : Int))), (8, (.int .i64 e))], ⟨0, [], false⟩⟩) h2 ?_ (fun _ => Nat.le_of_ble_eq_true rfl) ?_
    · exact .sub' (Nat.le_of_ble_eq_true rfl) (.cons rfl (.cons rfl (.cons rfl (.cons rfl .nil))))
    · intro e5 x6 h7;refine pw_so ?_;refine po_all ?_;(conv=>whnf);refine pw_seq ?_;refine pw_cond ?_;(conv=>whnf);refine pbr_oite h7 (fun _ h7 => ?_) (fun _ h7 => ?_)
      · (conv=>whnf);refine pw_skip ?_;(conv=>whnf);refine pw_seq ?_;refine pw_block ?_;refine pw_so ?_;refine po_all ?_;(conv=>whnf);refine pw_so ?_;refine po_all ?_;(conv=>whnf);refine pbr_ogrd h7 (fun _ h7 => ?_);(conv=>whnf);refine nth_o (l := a0) h7 (fun x8 _ h7 => ?_);(conv=>whnf);obtain ⟨y9, h10, h7⟩ := obnd_some h7;refine ICallV.go (hp0 _ _ _ h10) ?_;(conv=>whnf);refine pw_cond ?_;(conv=>whnf);refine pbr_oite h7 (fun _ h7 => ?_) (fun _ h7 => ?_)
        · (conv=>whnf);refine pw_so ?_;refine po_all ?_;(conv=>whnf);refine pw_ret ?_;(conv=>whnf);cases h7;refine ⟨_, rfl, ?_⟩; rintro rfl;(conv=>whnf);obtain rfl := h4 _ rfl; rfl
        · (conv=>whnf);refine pw_skip ?_;(conv=>whnf);refine pw_ops ?_;refine po_all ?_;(conv=>whnf);cases h7;refine ⟨_, rfl, ?_⟩;exact .sub' (Nat.le_of_ble_eq_true rfl) (.cons rfl (.cons rfl (.cons rfl (.cons rfl .nil))))
      · (conv=>whnf);refine pw_exit ?_;(conv=>whnf);cases h7;refine ⟨_, rfl, ?_⟩; rintro rfl;(conv=>whnf);exact ⟨_, rfl, ⟨.nil, rfl⟩⟩
  · intro r13 hr; have H := h3 _ hr;refine pw_so ?_;refine po_all ?_;(conv=>whnf);refine pw_ret ?_;(conv=>whnf);cases H; rfl

/-- slices.ContainsFunc[[]guidevane/api.DamPerson,guidevane/api.DamPerson] -/
noncomputable def f86 (p0 : ByteArray → Int → Option Bool) (a0 : List (ByteArray × Int)) : Option Bool :=
  obnd (f110 p0 a0) fun (y1 : Int) =>
  some (ile (0 : Int) y1)
set_option maxHeartbeats 1000000 in
theorem c86 {p0 : ByteArray → Int → Option Bool} {a0 : List (ByteArray × Int)} {g0 : Value} [Cl g0] (hp0 : ∀ y0 y1 y, p0 y0 y1 = some y → ICallV E g0 [(.agg ⟨[(.string y0), (.int .i64 y1)]⟩)] AHeap.none fun v _ => v = (.bool y)) {x : Bool} (H : f86 p0 a0 = some x) : ICalls E 86 [(VS 2 (a0.map e_SI)), g0] AHeap.none fun v _ => v = (.bool x) := by
  refine icalls_fn (pfnw rfl ?_); unfold f86 at H;(conv=>whnf);refine pw_so ?_;refine po_all ?_;(conv=>whnf);refine pw_so ?_;refine po_all ?_;(conv=>whnf);obtain ⟨y1, h2, H⟩ := obnd_some H;refine (c110 hp0 h2).go ?_;(conv=>whnf);refine pw_ret ?_;(conv=>whnf);cases H; rfl

/-- guidevane/dam.CheckRules$2 -/
noncomputable def f87  (a0 : ByteArray) (_ : Int) (a2 : ByteArray) (_ : Int) : Option Bool :=
  some (a0.toList == a2.toList)
set_option maxHeartbeats 1000000 in
theorem c87  {a0 : ByteArray} {a1 : Int} {a2 : ByteArray} {a3 : Int} {x : Bool} (H : f87 a0 a1 a2 a3 = some x) : ICallV E (.func (.func (E.id 87)) ⟨[]⟩ ⟨[(VP (.agg ⟨[(.string a2), (.int .i64 a3)]⟩) 0)]⟩) [(.agg ⟨[(.string a0), (.int .i64 a1)]⟩)] AHeap.none fun v _ => v = (.bool x) := by
  refine icallv_fn (pfnw rfl ?_); unfold f87 at H;(conv=>whnf);refine pw_so ?_;refine po_all ?_;(conv=>whnf);refine pw_so ?_;refine po_all ?_;(conv=>whnf);refine pw_ret ?_;(conv=>whnf);cases H; rfl

/-- guidevane/dam.isLetter -/
noncomputable def f111  (a0 : Int) : Option Bool :=
  obnd (f65 (IntKind.i64.wrap a0) (97 : Int) (122 : Int)) fun (y1 : Bool) =>
  obnd (
   oite y1 (
    some true
     ) (
    obnd (f65 (IntKind.i64.wrap a0) (65 : Int) (90 : Int)) fun (y5 : Bool) =>
    some y5
     )
    ) fun (r3 : Bool) =>
  some r3
set_option maxHeartbeats 1000000 in
theorem c111  {a0 : Int} {x : Bool} (H : f111 a0 = some x) : ICalls E 111 [(.int .u8 a0)] AHeap.none fun v _ => v = (.bool x) := by
  refine icalls_fn (pfnw rfl ?_); unfold f111 at H;(conv=>whnf);refine pw_so ?_;refine po_all ?_;(conv=>whnf);refine pw_so ?_;refine po_ops 4 ?_;(conv=>whnf);obtain ⟨y1, h2, H⟩ := obnd_some H;refine (c65 h2).go ?_;(conv=>whnf);obtain ⟨r3, h4, H⟩ := obnd_some H;refine po_seg (τ := Bool) 4 (fun e => ⟨[(10, (.bool e))], ⟨0, [], false⟩⟩) r3 ?_ ?_
  · refine po_all ?_;(conv=>whnf);refine pbr_oite h4 (fun _ h4 => ?_) (fun _ h4 => ?_)
    · (conv=>whnf);refine pbr_t (by assumption) ?_;(conv=>whnf);refine pbr_t (by assumption) ?_;(conv=>whnf);refine pbr_t (by assumption) ?_;(conv=>whnf);cases h4;exact ⟨(.cons rfl .nil), rfl⟩
    · (conv=>whnf);refine pbr_f (by assumption) ?_;(conv=>whnf);refine pbr_f (by assumption) ?_;(conv=>whnf);obtain ⟨y5, h6, h4⟩ := obnd_some h4;refine (c65 h6).go ?_;(conv=>whnf);refine pbr_f (by assumption) ?_;(conv=>whnf);cases h4;exact ⟨(.cons rfl .nil), rfl⟩
  · refine po_all ?_;(conv=>whnf);refine pw_ret ?_;(conv=>whnf);cases H; rfl

/-- guidevane/dam.isName -/
noncomputable def f88  (a0 : ByteArray) : Option Bool :=
  obndS (
   oloop (τ := Int) (ρ := (Unit) ⊕ Bool) (fun e5 =>
    oite ((ilt e5 ((a0.data.toList.map eY).length : Int))) (
     ogrd ((ile 0 e5)) (
     obnd (a0.data.toList[e5.toNat]?) fun (x8 : UInt8) =>
     obnd (
      obnd (f111 (x8.toNat : Int)) fun (y13 : Bool) =>
      oite (!y13) (
       obnd (
        oite ((ieq e5 (0 : Int))) (
         some true
          ) (
         oite ((!(ieq (x8.toNat : Int) (45 : Int)))) (
          obnd (f65 (IntKind.i64.wrap (x8.toNat : Int)) (48 : Int) (57 : Int)) fun (y17 : Bool) =>
          some (!y17)
           ) (
          some false
           )
          )
         ) fun (r15 : Bool) =>
       some r15
        ) (
       some false
        )
       ) fun (r9 : Bool) =>
     oite r9 (
      some (.inr (.inr (false)))
       ) (
      some (.inl (IntKind.i64.wrap (e5 + (1 : Int))))
       )
     )
      ) (
     some (.inr (.inl ()))
      )
     ) (0 : Int)
    ) fun (_ : Unit) =>
  obnd (f65 (a0.size : Int) (1 : Int) (12 : Int)) fun (y22 : Bool) =>
  some y22
set_option maxHeartbeats 1000000 in
theorem c88  {a0 : ByteArray} {x : Bool} (H : f88 a0 = some x) : ICalls E 88 [(.string a0)] AHeap.none fun v _ => v = (.bool x) := by
  refine icalls_fn (pfnw rfl ?_); unfold f88 at H;(conv=>whnf);refine pw_so ?_;refine po_all ?_;(conv=>whnf);obtain ⟨r1, h2, h3, h4⟩ := obndS_some H;refine pw_joinS (ρ := Unit) (fun e => ⟨[(0, (.string a0))], ⟨0, [], false⟩⟩) r1 ?_ ?_
  · refine pw_so ?_;refine po_all ?_;(conv=>whnf);refine pw_block ?_;refine pw_loop (τ := Int) (fun e => ⟨[(0, (.string a0)), (6, (VS 1 (a0.data.toList.map eY))), (7, (.int .i64 ((a0.data.toList.map eY).length : Int))), (8, (.int .i64 e))], ⟨0, [], false⟩⟩) h2 ?_ (fun _ => Nat.le_of_ble_eq_true rfl) ?_
    · exact .sub' (Nat.le_of_ble_eq_true rfl) (.cons rfl (.cons rfl (.cons rfl (.cons rfl .nil))))
    · intro e5 x6 h7;refine pw_so ?_;refine po_all ?_;(conv=>whnf);refine pw_seq ?_;refine pw_cond ?_;(conv=>whnf);refine pbr_oite h7 (fun _ h7 => ?_) (fun _ h7 => ?_)
      · (conv=>whnf);refine pw_skip ?_;(conv=>whnf);refine pw_seq ?_;refine pw_block ?_;refine pw_so ?_;refine po_all ?_;(conv=>whnf);refine pbr_ogrd h7 (fun _ h7 => ?_);(conv=>whnf);refine nth_o (l := a0.data.toList) h7 (fun x8 _ h7 => ?_);(conv=>whnf);obtain ⟨r9, h10, h7⟩ := obnd_some h7;refine pw_join (ρ := Bool) (fun e => ⟨[(0, (.string a0)), (6, (VS 1 (a0.data.toList.map eY))), (7, (.int .i64 ((a0.data.toList.map eY).length : Int))), (8, (.int .i64 e5)), (29, (.bool e))], ⟨0, [], false⟩⟩) r9 ?_ ?_
        · refine pw_ops ?_;refine po_ops 7 ?_;(conv=>whnf);obtain ⟨y13, h14, h10⟩ := obnd_some h10;refine (c111 h14).go ?_;(conv=>whnf);refine pbr_oite h10 (fun _ h10 => ?_) (fun _ h10 => ?_)
          · (conv=>whnf);refine pbr_t (by assumption) ?_;(conv=>whnf);refine pbr_t (by assumption) ?_;(conv=>whnf);obtain ⟨r15, h16, h10⟩ := obnd_some h10;refine po_seg (τ := Bool) 9 (fun e => ⟨[(0, (.string a0)), (6, (VS 1 (a0.data.toList.map eY))), (7, (.int .i64 ((a0.data.toList.map eY).length : Int))), (8, (.int .i64 e5)), (16, (.bool (!y13))), (17, (.int .i64 e5)), (18, (.bool (ieq e5 (0 : Int)))), (19, (.bool (ieq e5 (0 : Int)))), (28, (.bool e))], ⟨0, [], false⟩⟩) r15 ?_ ?_
            · refine po_all ?_;(conv=>whnf);refine pbr_oite h16 (fun _ h16 => ?_) (fun _ h16 => ?_)
              · (conv=>whnf);refine pbr_t (by assumption) ?_;(conv=>whnf);refine pbr_t (by assumption) ?_;(conv=>whnf);refine pbr_t (by assumption) ?_;(conv=>whnf);refine pbr_t (by assumption) ?_;(conv=>whnf);refine pbr_t (by assumption) ?_;(conv=>whnf);cases h16;exact ⟨(.cons rfl (.cons rfl (.cons rfl (.cons rfl (.cons rfl (.cons rfl (.cons rfl (.cons rfl (.cons rfl .nil))))))))), rfl⟩
              · (conv=>whnf);refine pbr_f (by assumption) ?_;(conv=>whnf);refine pbr_f (by assumption) ?_;(conv=>whnf);refine pbr_oite h16 (fun _ h16 => ?_) (fun _ h16 => ?_)
                · (conv=>whnf);refine pbr_t (by assumption) ?_;(conv=>whnf);refine pbr_t (by assumption) ?_;(conv=>whnf);obtain ⟨y17, h18, h16⟩ := obnd_some h16;refine (c65 h18).go ?_;(conv=>whnf);refine pbr_t (by assumption) ?_;(conv=>whnf);refine pbr_f (by assumption) ?_;(conv=>whnf);refine pbr_t (by assumption) ?_;(conv=>whnf);refine pbr_t (by assumption) ?_;(conv=>whnf);refine pbr_f (by assumption) ?_;(conv=>whnf);cases h16;exact ⟨(.cons rfl (.cons rfl (.cons rfl (.cons rfl (.cons rfl (.cons rfl (.cons rfl (.cons rfl (.cons rfl .nil))))))))), rfl⟩
                · (conv=>whnf);refine pbr_f (by assumption) ?_;(conv=>whnf);refine pbr_f (by assumption) ?_;(conv=>whnf);refine pbr_f (by assumption) ?_;(conv=>whnf);refine pbr_f (by assumption) ?_;(conv=>whnf);refine pbr_f (by assumption) ?_;(conv=>whnf);refine pbr_t (by assumption) ?_;(conv=>whnf);refine pbr_f (by assumption) ?_;(conv=>whnf);cases h16;exact ⟨(.cons rfl (.cons rfl (.cons rfl (.cons rfl (.cons rfl (.cons rfl (.cons rfl (.cons rfl (.cons rfl .nil))))))))), rfl⟩
            · refine po_all ?_;(conv=>whnf);refine pbr_t (by assumption) ?_;(conv=>whnf);cases h10;exact ⟨(.cons rfl (.cons rfl (.cons rfl (.cons rfl (.cons rfl .nil))))), rfl⟩
          · (conv=>whnf);refine pbr_f (by assumption) ?_;(conv=>whnf);refine pbr_f (by assumption) ?_;(conv=>whnf);refine po_ops 9 ?_;(conv=>whnf);refine pbr_f (by assumption) ?_;(conv=>whnf);refine po_all ?_;(conv=>whnf);refine pbr_f (by assumption) ?_;(conv=>whnf);cases h10;exact ⟨(.cons rfl (.cons rfl (.cons rfl (.cons rfl (.cons rfl .nil))))), rfl⟩
        · refine pw_cond ?_;(conv=>whnf);refine pbr_oite h7 (fun _ h7 => ?_) (fun _ h7 => ?_)
          · (conv=>whnf);refine pw_so ?_;refine po_all ?_;(conv=>whnf);refine pw_ret ?_;(conv=>whnf);cases h7;refine ⟨_, rfl, ?_⟩; rintro rfl;(conv=>whnf);obtain rfl := h4 _ rfl; rfl
          · (conv=>whnf);refine pw_skip ?_;(conv=>whnf);refine pw_ops ?_;refine po_all ?_;(conv=>whnf);cases h7;refine ⟨_, rfl, ?_⟩;exact .sub' (Nat.le_of_ble_eq_true rfl) (.cons rfl (.cons rfl (.cons rfl (.cons rfl .nil))))
      · (conv=>whnf);refine pw_exit ?_;(conv=>whnf);cases h7;refine ⟨_, rfl, ?_⟩; rintro rfl;(conv=>whnf);exact ⟨_, rfl, ⟨(.cons rfl .nil), rfl⟩⟩
  · intro r21 hr; have H := h3 _ hr;refine pw_so ?_;refine po_all ?_;(conv=>whnf);obtain ⟨y22, h23, H⟩ := obnd_some H;refine (c65 h23).go ?_;(conv=>whnf);refine pw_ret ?_;(conv=>whnf);cases H; rfl

/-- guidevane/dam.CheckRules -/
noncomputable def f43  (a0 : List Int) (a1 : List Int) (a2 : Int) (a3 : List (ByteArray × Int)) : Option (Int × Int) :=
  obnd (
   oite ((ilt (0 : Int) ((a0.map eI).length : Int))) (
    some (ieq ((a1.map eI).length : Int) ((a0.map eI).length : Int))
     ) (
    some false
     )
    ) fun (r1 : Bool) =>
  obnd (f64 r1 (10 : Int)) fun (y3 : Int) =>
  obnd (f64 ((ile ((a0.map eI).length : Int) (5 : Int))) (8 : Int)) fun (y5 : Int) =>
  obnd (f63 ([y3, y5] : List Int)) fun (y7 : Int) =>
  oite ((!(ieq y7 (0 : Int)))) (
   some ((0 : Int), y7)
    ) (
   obndS (
    oloop (τ := Int) (ρ := (Unit) ⊕ (Int × Int)) (fun e13 =>
     oite ((ilt e13 ((a0.map eI).length : Int))) (
      ogrd ((ile 0 e13)) (
      obnd (a0[e13.toNat]?) fun (x16 : Int) =>
      obnd (a1[e13.toNat]?) fun (x17 : Int) =>
      obnd (f85 x16) fun (y18 : Bool) =>
      obnd (
       oite y18 (
        obnd (f85 x17) fun (y22 : Bool) =>
        some y22
         ) (
        some false
         )
        ) fun (r20 : Bool) =>
      obnd (f64 r20 (2 : Int)) fun (y24 : Int) =>
      obnd (f64 (ile x17 x16) (3 : Int)) fun (y26 : Int) =>
      obnd (
       oite ((ieq e13 (0 : Int))) (
        some true
         ) (
        ogrd ((ile 0 (imax (0 : Int) (IntKind.i64.wrap (e13 - (1 : Int)))))) (
        obnd (a0[(imax (0 : Int) (IntKind.i64.wrap (e13 - (1 : Int)))).toNat]?) fun (x30 : Int) =>
        oite ((ilt x30 x16)) (
         obnd (a1[(imax (0 : Int) (IntKind.i64.wrap (e13 - (1 : Int)))).toNat]?) fun (x31 : Int) =>
         some (ile x31 x17)
          ) (
         some false
          )
        )
         )
        ) fun (r28 : Bool) =>
      obnd (f64 r28 (9 : Int)) fun (y32 : Int) =>
      obnd (f63 ([y24, y26, y32] : List Int)) fun (y34 : Int) =>
      oite ((!(ieq y34 (0 : Int)))) (
       some (.inr (.inr ((e13, y34))))
        ) (
       some (.inl (IntKind.i64.wrap (e13 + (1 : Int))))
        )
      )
       ) (
      some (.inr (.inl ()))
       )
      ) (0 : Int)
     ) fun (_ : Unit) =>
   obnd (f65 a2 (0 : Int) (1000000 : Int)) fun (y39 : Bool) =>
   obnd (f64 y39 (2 : Int)) fun (y41 : Int) =>
   obnd (f64 ((ile ((a3.map e_SI).length : Int) (10 : Int))) (8 : Int)) fun (y43 : Int) =>
   obnd (f63 ([y41, y43] : List Int)) fun (y45 : Int) =>
   oite ((!(ieq y45 (0 : Int)))) (
    some ((0 : Int), y45)
     ) (
    obndS (
     oloop (τ := Int) (ρ := (Unit) ⊕ (Int × Int)) (fun e51 =>
      oite ((ilt e51 ((a3.map e_SI).length : Int))) (
       ogrd ((ile 0 e51)) (
       obnd (a3[e51.toNat]?) fun (x54 : ByteArray × Int) =>
       obnd (oslH a3 e51) fun (m55 : List (ByteArray × Int)) =>
       obnd (f86 (fun (z0 : ByteArray) (z1 : Int) => f87 z0 z1 x54.1 x54.2) m55) fun (y58 : Bool) =>
       obnd (f88 x54.1) fun (y60 : Bool) =>
       obnd (f64 y60 (4 : Int)) fun (y62 : Int) =>
       obnd (f64 (!y58) (5 : Int)) fun (y64 : Int) =>
       obnd (f65 x54.2 (1 : Int) ((a0.map eI).length : Int)) fun (y66 : Bool) =>
       obnd (f64 y66 (2 : Int)) fun (y68 : Int) =>
       obnd (f63 ([y62, y64, y68] : List Int)) fun (y70 : Int) =>
       oite ((!(ieq y70 (0 : Int)))) (
        some (.inr (.inr ((e51, y70))))
         ) (
        some (.inl (IntKind.i64.wrap (e51 + (1 : Int))))
         )
       )
        ) (
       some (.inr (.inl ()))
        )
       ) (0 : Int)
      ) fun (_ : Unit) =>
    some ((0 : Int), (0 : Int))
     )
    )
set_option maxHeartbeats 1000000 in
theorem c43  {a0 : List Int} {a1 : List Int} {a2 : Int} {a3 : List (ByteArray × Int)} {x : Int × Int} (H : f43 a0 a1 a2 a3 = some x) : ICalls E 43 [(.agg ⟨[(VS 1 (a0.map eI)), (VS 1 (a1.map eI)), (.int .i64 a2), (VS 2 (a3.map e_SI))]⟩)] AHeap.none fun v _ => v = (.tuple ⟨[(.int .i64 x.1), (.int .i64 x.2)]⟩) := by
  refine icalls_fn (pfnw rfl ?_); unfold f43 at H;(conv=>whnf);refine pw_so ?_;refine po_all ?_;(conv=>whnf);refine pw_so ?_;refine po_all ?_;(conv=>whnf);refine pw_seq ?_;refine pw_so ?_;refine po_ops 3 ?_;(conv=>whnf);obtain ⟨r1, h2, H⟩ := obnd_some H;refine po_seg (τ := Bool) 6 (fun e => ⟨[(1, (.pointer (some ⟨0, 0, none⟩))), (4, (.int .i64 ((a0.map eI).length : Int))), (28, (.bool e))], ⟨1, [(0, .rw [(VS 1 (a0.map eI)), (VS 1 (a1.map eI)), (.int .i64 a2), (VS 2 (a3.map e_SI))])], false⟩⟩) r1 ?_ ?_
  · refine po_all ?_;(conv=>whnf);refine pbr_oite h2 (fun _ h2 => ?_) (fun _ h2 => ?_)
    · (conv=>whnf);refine pbr_t (by assumption) ?_;(conv=>whnf);refine pbr_t (by assumption) ?_;(conv=>whnf);refine pbr_t (by assumption) ?_;(conv=>whnf);refine pbr_t (by assumption) ?_;(conv=>whnf);refine pbr_t (by assumption) ?_;(conv=>whnf);cases h2;exact ⟨(.cons rfl (.cons rfl (.cons rfl .nil))), rfl⟩
    · (conv=>whnf);refine pbr_f (by assumption) ?_;(conv=>whnf);refine pbr_f (by assumption) ?_;(conv=>whnf);refine pbr_f (by assumption) ?_;(conv=>whnf);refine pbr_f (by assumption) ?_;(conv=>whnf);refine pbr_f (by assumption) ?_;(conv=>whnf);cases h2;exact ⟨(.cons rfl (.cons rfl (.cons rfl .nil))), rfl⟩
  · refine po_all ?_;(conv=>whnf);obtain ⟨y3, h4, H⟩ := obnd_some H;refine (c64 h4).go ?_;(conv=>whnf);obtain ⟨y5, h6, H⟩ := obnd_some H;refine (c64 h6).go ?_;(conv=>whnf);obtain ⟨y7, h8, H⟩ := obnd_some H;refine ICalls.goW (c63 h8) (.cons (.vt _ _ _) .nil) ?_;(conv=>whnf);refine pw_so ?_;refine po_all ?_;(conv=>whnf);refine pw_cond ?_;(conv=>whnf);refine pbr_oite H (fun _ H => ?_) (fun _ H => ?_)
    · (conv=>whnf);refine pw_so ?_;refine po_all ?_;(conv=>whnf);refine pw_ret ?_;(conv=>whnf);cases H; rfl
    · (conv=>whnf);refine pw_skip ?_;(conv=>whnf);refine pw_so ?_;refine po_all ?_;(conv=>whnf);obtain ⟨r9, h10, h11, h12⟩ := obndS_some H;refine pw_joinS (ρ := Unit) (fun e => ⟨[(1, (.pointer (some ⟨0, 0, none⟩))), (4, (.int .i64 ((a0.map eI).length : Int)))], ⟨2, [(1, .tail 2 1), (0, .rw [(VS 1 (a0.map eI)), (VS 1 (a1.map eI)), (.int .i64 a2), (VS 2 (a3.map e_SI))])], false⟩⟩) r9 ?_ ?_
      · refine pw_so ?_;refine po_all ?_;(conv=>whnf);refine pw_block ?_;refine pw_loop (τ := Int) (fun e => ⟨[(1, (.pointer (some ⟨0, 0, none⟩))), (4, (.int .i64 ((a0.map eI).length : Int))), (6, (.func (.func (E.id 85)) ⟨[]⟩ ⟨[]⟩)), (39, (VS 1 (a0.map eI))), (40, (.int .i64 ((a0.map eI).length : Int))), (41, (.int .i64 e))], ⟨2, [(1, .tail 2 1), (0, .rw [(VS 1 (a0.map eI)), (VS 1 (a1.map eI)), (.int .i64 a2), (VS 2 (a3.map e_SI))])], false⟩⟩) h10 ?_ (fun _ => Nat.le_of_ble_eq_true rfl) ?_
        · exact .sub' (Nat.le_of_ble_eq_true rfl) (.cons rfl (.cons rfl (.cons rfl (.cons rfl (.cons rfl (.cons rfl .nil))))))
        · intro e13 x14 h15;refine pw_so ?_;refine po_all ?_;(conv=>whnf);refine pw_seq ?_;refine pw_cond ?_;(conv=>whnf);refine pbr_oite h15 (fun _ h15 => ?_) (fun _ h15 => ?_)
          · (conv=>whnf);refine pw_skip ?_;(conv=>whnf);refine pw_seq ?_;refine pw_block ?_;refine pw_so ?_;refine po_all ?_;(conv=>whnf);refine pbr_ogrd h15 (fun _ h15 => ?_);(conv=>whnf);refine nth_o (l := a0) h15 (fun x16 _ h15 => ?_);(conv=>whnf);refine pw_so ?_;refine po_all ?_;(conv=>whnf);refine pbr_t (by assumption) ?_;(conv=>whnf);refine nth_o (l := a1) h15 (fun x17 _ h15 => ?_);(conv=>whnf);refine pw_so ?_;refine po_ops 4 ?_;(conv=>whnf);obtain ⟨y18, h19, h15⟩ := obnd_some h15;refine ICallV.go (c85 h19).asV ?_;(conv=>whnf);obtain ⟨r20, h21, h15⟩ := obnd_some h15;refine po_seg (τ := Bool) 4 (fun e => ⟨[(1, (.pointer (some ⟨0, 0, none⟩))), (4, (.int .i64 ((a0.map eI).length : Int))), (6, (.func (.func (E.id 85)) ⟨[]⟩ ⟨[]⟩)), (7, (.int .i64 e13)), (8, (.int .i64 x16)), (9, (.int .i64 x17)), (10, (.int .i64 (imax (0 : Int) (IntKind.i64.wrap (e13 - (1 : Int)))))), (39, (VS 1 (a0.map eI))), (40, (.int .i64 ((a0.map eI).length : Int))), (41, (.int .i64 e13)), (61, (.bool e))], ⟨2, [(1, .tail 2 1), (0, .rw [(VS 1 (a0.map eI)), (VS 1 (a1.map eI)), (.int .i64 a2), (VS 2 (a3.map e_SI))])], false⟩⟩) r20 ?_ ?_
            · refine po_all ?_;(conv=>whnf);refine pbr_oite h21 (fun _ h21 => ?_) (fun _ h21 => ?_)
              · (conv=>whnf);refine pbr_t (by assumption) ?_;(conv=>whnf);refine pbr_t (by assumption) ?_;(conv=>whnf);obtain ⟨y22, h23, h21⟩ := obnd_some h21;refine ICallV.go (c85 h23).asV ?_;(conv=>whnf);refine pbr_t (by assumption) ?_;(conv=>whnf);cases h21;exact ⟨(.cons rfl (.cons rfl (.cons rfl (.cons rfl (.cons rfl (.cons rfl (.cons rfl (.cons rfl (.cons rfl (.cons rfl (.cons rfl .nil))))))))))), rfl⟩
              · (conv=>whnf);refine pbr_f (by assumption) ?_;(conv=>whnf);refine pbr_f (by assumption) ?_;(conv=>whnf);refine pbr_f (by assumption) ?_;(conv=>whnf);cases h21;exact ⟨(.cons rfl (.cons rfl (.cons rfl (.cons rfl (.cons rfl (.cons rfl (.cons rfl (.cons rfl (.cons rfl (.cons rfl (.cons rfl .nil))))))))))), rfl⟩
            · refine po_ops 8 ?_;(conv=>whnf);obtain ⟨y24, h25, h15⟩ := obnd_some h15;refine (c64 h25).go ?_;(conv=>whnf);obtain ⟨y26, h27, h15⟩ := obnd_some h15;refine (c64 h27).go ?_;(conv=>whnf);obtain ⟨r28, h29, h15⟩ := obnd_some h15;refine po_seg (τ := Bool) 17 (fun e => ⟨[(1, (.pointer (some ⟨0, 0, none⟩))), (4, (.int .i64 ((a0.map eI).length : Int))), (6, (.func (.func (E.id 85)) ⟨[]⟩ ⟨[]⟩)), (7, (.int .i64 e13)), (39, (VS 1 (a0.map eI))), (40, (.int .i64 ((a0.map eI).length : Int))), (41, (.int .i64 e13)), (62, (.int .i64 y24)), (66, (.int .i64 y26)), (86, (.bool e))], ⟨2, [(1, .tail 2 1), (0, .rw [(VS 1 (a0.map eI)), (VS 1 (a1.map eI)), (.int .i64 a2), (VS 2 (a3.map e_SI))])], false⟩⟩) r28 ?_ ?_
              · refine po_all ?_;(conv=>whnf);refine pbr_oite h29 (fun _ h29 => ?_) (fun _ h29 => ?_)
                · (conv=>whnf);refine pbr_t (by assumption) ?_;(conv=>whnf);refine pbr_t (by assumption) ?_;(conv=>whnf);refine pbr_t (by assumption) ?_;(conv=>whnf);refine pbr_t (by assumption) ?_;(conv=>whnf);refine pbr_t (by assumption) ?_;(conv=>whnf);refine pbr_t (by assumption) ?_;(conv=>whnf);refine pbr_t (by assumption) ?_;(conv=>whnf);refine pbr_t (by assumption) ?_;(conv=>whnf);refine pbr_t (by assumption) ?_;(conv=>whnf);cases h29;exact ⟨(.cons rfl (.cons rfl (.cons rfl (.cons rfl (.cons rfl (.cons rfl (.cons rfl (.cons rfl (.cons rfl (.cons rfl .nil)))))))))), rfl⟩
                · (conv=>whnf);refine pbr_f (by assumption) ?_;(conv=>whnf);refine pbr_f (by assumption) ?_;(conv=>whnf);refine pbr_f (by assumption) ?_;(conv=>whnf);refine pbr_f (by assumption) ?_;(conv=>whnf);refine pbr_ogrd h29 (fun _ h29 => ?_);(conv=>whnf);refine nth_o (l := a0) h29 (fun x30 _ h29 => ?_);(conv=>whnf);refine pbr_f (by assumption) ?_;(conv=>whnf);refine pbr_f (by assumption) ?_;(conv=>whnf);refine pbr_f (by assumption) ?_;(conv=>whnf);refine pbr_oite h29 (fun _ h29 => ?_) (fun _ h29 => ?_)
                  · (conv=>whnf);refine pbr_t (by assumption) ?_;(conv=>whnf);refine pbr_t (by assumption) ?_;(conv=>whnf);refine pbr_t (by assumption) ?_;(conv=>whnf);refine pbr_t (by assumption) ?_;(conv=>whnf);refine pbr_t (by assumption) ?_;(conv=>whnf);refine nth_o (l := a1) h29 (fun x31 _ h29 => ?_);(conv=>whnf);refine pbr_t (by assumption) ?_;(conv=>whnf);refine pbr_t (by assumption) ?_;(conv=>whnf);refine pbr_f (by assumption) ?_;(conv=>whnf);refine pbr_t (by assumption) ?_;(conv=>whnf);refine pbr_f (by assumption) ?_;(conv=>whnf);cases h29;exact ⟨(.cons rfl (.cons rfl (.cons rfl (.cons rfl (.cons rfl (.cons rfl (.cons rfl (.cons rfl (.cons rfl (.cons rfl .nil)))))))))), rfl⟩
                  · (conv=>whnf);refine pbr_f (by assumption) ?_;(conv=>whnf);refine pbr_f (by assumption) ?_;(conv=>whnf);refine pbr_f (by assumption) ?_;(conv=>whnf);refine pbr_f (by assumption) ?_;(conv=>whnf);refine pbr_f (by assumption) ?_;(conv=>whnf);refine pbr_f (by assumption) ?_;(conv=>whnf);refine pbr_f (by assumption) ?_;(conv=>whnf);refine pbr_f (by assumption) ?_;(conv=>whnf);refine pbr_f (by assumption) ?_;(conv=>whnf);cases h29;exact ⟨(.cons rfl (.cons rfl (.cons rfl (.cons rfl (.cons rfl (.cons rfl (.cons rfl (.cons rfl (.cons rfl (.cons rfl .nil)))))))))), rfl⟩
              · refine po_all ?_;(conv=>whnf);obtain ⟨y32, h33, h15⟩ := obnd_some h15;refine (c64 h33).go ?_;(conv=>whnf);obtain ⟨y34, h35, h15⟩ := obnd_some h15;refine ICalls.goW (c63 h35) (.cons (.vt _ _ _) .nil) ?_;(conv=>whnf);refine pw_so ?_;refine po_all ?_;(conv=>whnf);refine pw_cond ?_;(conv=>whnf);refine pbr_oite h15 (fun _ h15 => ?_) (fun _ h15 => ?_)
                · (conv=>whnf);refine pw_so ?_;refine po_all ?_;(conv=>whnf);refine pw_ret ?_;(conv=>whnf);cases h15;refine ⟨_, rfl, ?_⟩; rintro rfl;(conv=>whnf);obtain rfl := h12 _ rfl; rfl
                · (conv=>whnf);refine pw_skip ?_;(conv=>whnf);refine pw_ops ?_;refine po_all ?_;(conv=>whnf);cases h15;refine ⟨_, rfl, ?_⟩;refine Recast.trunc (Nat.le_of_ble_eq_true rfl) ?_ ?_
                  · repeat (first | exact .nil | refine .cons rfl (by first | exact OBnd.rwc (Nat.le_of_ble_eq_true rfl) rfl | exact OBnd.tail (Nat.le_of_ble_eq_true rfl) | trivial) ?_)
                  · repeat (first | exact .nil | refine .cons rfl (by first | exact Bnd.ptr (Nat.le_of_ble_eq_true rfl) | exact Bnd.vt (Nat.le_of_ble_eq_true rfl) | exact Bnd.cl) ?_)
          · (conv=>whnf);refine pw_exit ?_;(conv=>whnf);cases h15;refine ⟨_, rfl, ?_⟩; rintro rfl;(conv=>whnf);exact ⟨_, rfl, ⟨(.cons rfl (.cons rfl .nil)), rfl⟩⟩
      · intro r38 hr; have H := h11 _ hr;refine pw_seq ?_;refine pw_sd ?_;(conv=>whnf);refine ⟨?_, trivial⟩;(conv=>whnf);obtain ⟨y39, h40, H⟩ := obnd_some H;refine (c65 h40).go ?_;(conv=>whnf);refine ⟨by repeat (first | exact trivial | refine And.intro rfl ?_), ?_⟩;(conv=>whnf);refine ⟨?_, trivial⟩;(conv=>whnf);obtain ⟨y41, h42, H⟩ := obnd_some H;refine (c64 h42).go ?_;(conv=>whnf);refine ⟨by repeat (first | exact trivial | refine And.intro rfl ?_), ?_⟩;(conv=>whnf);refine ⟨?_, trivial⟩;(conv=>whnf);obtain ⟨y43, h44, H⟩ := obnd_some H;refine (c64 h44).go ?_;(conv=>whnf);refine ⟨by repeat (first | exact trivial | refine And.intro rfl ?_), ?_⟩
        (conv=>whnf);refine ⟨?_, trivial⟩;(conv=>whnf);refine ⟨by repeat (first | exact trivial | refine And.intro rfl ?_), ?_⟩;(conv=>whnf);refine ⟨?_, trivial⟩;(conv=>whnf);obtain ⟨y45, h46, H⟩ := obnd_some H;refine ICalls.goW (c63 h46) (.cons (.vt _ _ _) .nil) ?_;(conv=>whnf);refine ⟨by repeat (first | exact trivial | refine And.intro rfl ?_), ?_⟩;(conv=>whnf);refine pw_so ?_;refine po_all ?_;(conv=>whnf);refine pw_cond ?_;(conv=>whnf);refine pbr_oite H (fun _ H => ?_) (fun _ H => ?_)
        · (conv=>whnf);refine pw_so ?_;refine po_all ?_;(conv=>whnf);refine pw_ret ?_;(conv=>whnf);cases H; rfl
        · (conv=>whnf);refine pw_skip ?_;(conv=>whnf);obtain ⟨r47, h48, h49, h50⟩ := obndS_some H;refine pw_joinS (ρ := Unit) (fun e => ⟨[], ⟨3, [(2, .tail 2 1), (1, .tail 2 1), (0, .rw [(VS 1 (a0.map eI)), (VS 1 (a1.map eI)), (.int .i64 a2), (VS 2 (a3.map e_SI))])], false⟩⟩) r47 ?_ ?_
          · refine pw_so ?_;refine po_all ?_;(conv=>whnf);refine pw_block ?_;refine pw_loop (τ := Int) (fun e => ⟨[(1, (.pointer (some ⟨0, 0, none⟩))), (4, (.int .i64 ((a0.map eI).length : Int))), (110, (VS 2 (a3.map e_SI))), (111, (.int .i64 ((a3.map e_SI).length : Int))), (112, (.int .i64 e))], ⟨3, [(2, .tail 2 1), (1, .tail 2 1), (0, .rw [(VS 1 (a0.map eI)), (VS 1 (a1.map eI)), (.int .i64 a2), (VS 2 (a3.map e_SI))])], false⟩⟩) h48 ?_ (fun _ => Nat.le_of_ble_eq_true rfl) ?_
            · exact .sub' (Nat.le_of_ble_eq_true rfl) (.cons rfl (.cons rfl (.cons rfl (.cons rfl (.cons rfl .nil)))))
            · intro e51 x52 h53;refine pw_so ?_;refine po_all ?_;(conv=>whnf);refine pw_seq ?_;refine pw_cond ?_;(conv=>whnf);refine pbr_oite h53 (fun _ h53 => ?_) (fun _ h53 => ?_)
              · (conv=>whnf);refine pw_skip ?_;(conv=>whnf);refine pw_seq ?_;refine pw_block ?_;refine pw_so ?_;refine po_all ?_;(conv=>whnf);refine pbr_ogrd h53 (fun _ h53 => ?_);(conv=>whnf);refine nth_o (l := a3) h53 (fun x54 _ h53 => ?_);(conv=>whnf);refine pw_so ?_;refine po_all ?_;(conv=>whnf);refine oslH_o (f := e_SI) h53 (fun m55 _ h53 h56 h57 => ?_);refine pbr_t (ile_t h56.1) ?_;(conv=>whnf);refine pbr_t (ile_t (by rw [List.length_map];exact h56.2)) ?_; rw [h57];(conv=>whnf);obtain ⟨y58, h59, h53⟩ := obnd_some h53;refine ICalls.goD (c86 (fun _ _ _ h => (c87 h)) h59) (.cons .cl (.cons (.func .nil (.cons (.ptr rfl (by intro v hv; simp only [List.mem_cons, List.not_mem_nil, or_false] at hv; rcases hv with rfl | rfl <;> rfl)) .nil)) .nil)) rfl ?_
                (conv=>whnf);refine pw_sd ?_;(conv=>whnf);refine ⟨?_, trivial⟩;(conv=>whnf);obtain ⟨y60, h61, h53⟩ := obnd_some h53;refine (c88 h61).go ?_;(conv=>whnf);refine ⟨by repeat (first | exact trivial | refine And.intro rfl ?_), ?_⟩;(conv=>whnf);refine ⟨?_, trivial⟩;(conv=>whnf);obtain ⟨y62, h63, h53⟩ := obnd_some h53;refine (c64 h63).go ?_;(conv=>whnf);refine ⟨by repeat (first | exact trivial | refine And.intro rfl ?_), ?_⟩;(conv=>whnf);refine ⟨?_, trivial⟩;(conv=>whnf);obtain ⟨y64, h65, h53⟩ := obnd_some h53;refine (c64 h65).go ?_;(conv=>whnf);refine ⟨by repeat (first | exact trivial | refine And.intro rfl ?_), ?_⟩
                (conv=>whnf);refine ⟨?_, trivial⟩;(conv=>whnf);obtain ⟨y66, h67, h53⟩ := obnd_some h53;refine (c65 h67).go ?_;(conv=>whnf);refine ⟨by repeat (first | exact trivial | refine And.intro rfl ?_), ?_⟩;(conv=>whnf);refine ⟨?_, trivial⟩;(conv=>whnf);obtain ⟨y68, h69, h53⟩ := obnd_some h53;refine (c64 h69).go ?_;(conv=>whnf);refine ⟨by repeat (first | exact trivial | refine And.intro rfl ?_), ?_⟩;(conv=>whnf);refine ⟨?_, trivial⟩;(conv=>whnf);refine ⟨by repeat (first | exact trivial | refine And.intro rfl ?_), ?_⟩;(conv=>whnf);refine ⟨?_, trivial⟩;(conv=>whnf);obtain ⟨y70, h71, h53⟩ := obnd_some h53;refine ICalls.goW (c63 h71) (.cons (.vt _ _ _) .nil) ?_
                (conv=>whnf);refine ⟨by repeat (first | exact trivial | refine And.intro rfl ?_), ?_⟩;(conv=>whnf);refine pw_so ?_;refine po_all ?_;(conv=>whnf);refine pw_cond ?_;(conv=>whnf);refine pbr_oite h53 (fun _ h53 => ?_) (fun _ h53 => ?_)
                · (conv=>whnf);refine pw_so ?_;refine po_all ?_;(conv=>whnf);refine pw_ret ?_;(conv=>whnf);cases h53;refine ⟨_, rfl, ?_⟩; rintro rfl;(conv=>whnf);obtain rfl := h50 _ rfl; rfl
                · (conv=>whnf);refine pw_skip ?_;(conv=>whnf);refine pw_ops ?_;refine po_all ?_;(conv=>whnf);cases h53;refine ⟨_, rfl, ?_⟩;refine Recast.trunc (Nat.le_of_ble_eq_true rfl) ?_ ?_
                  · repeat (first | exact .nil | refine .cons rfl (by first | exact OBnd.rwc (Nat.le_of_ble_eq_true rfl) rfl | exact OBnd.tail (Nat.le_of_ble_eq_true rfl) | trivial) ?_)
                  · repeat (first | exact .nil | refine .cons rfl (by first | exact Bnd.ptr (Nat.le_of_ble_eq_true rfl) | exact Bnd.vt (Nat.le_of_ble_eq_true rfl) | exact Bnd.cl) ?_)
              · (conv=>whnf);refine pw_exit ?_;(conv=>whnf);cases h53;refine ⟨_, rfl, ?_⟩; rintro rfl;(conv=>whnf);exact ⟨_, rfl, ⟨.nil, rfl⟩⟩
          · intro r74 hr; have H := h49 _ hr;refine pw_so ?_;refine po_all ?_;(conv=>whnf);refine pw_ret ?_;(conv=>whnf);cases H; rfl

/-- guidevane/dam.open -/
noncomputable def f79  (a0 : List Int) (a1 : List Int) (a2 : Int) (a3 : List (ByteArray × Int)) : Option ((List Int) × (List Int) × Int × (List (ByteArray × Int)) × Int) :=
  obnd (f43 a0 a1 a2 a3) fun (y1 : Int × Int) =>
  some (a0, a1, a2, a3, y1.2)
set_option maxHeartbeats 1000000 in
theorem c79  {a0 : List Int} {a1 : List Int} {a2 : Int} {a3 : List (ByteArray × Int)} {x : (List Int) × (List Int) × Int × (List (ByteArray × Int)) × Int} (H : f79 a0 a1 a2 a3 = some x) : ICalls E 79 [(.agg ⟨[(VS 1 (a0.map eI)), (VS 1 (a1.map eI)), (.int .i64 a2), (VS 2 (a3.map e_SI))]⟩)] AHeap.none fun v _ => v = (.tuple ⟨[(.agg ⟨[(VS 1 (x.1.map eI)), (VS 1 (x.2.1.map eI)), (.int .i64 x.2.2.1), (VS 2 (x.2.2.2.1.map e_SI))]⟩), (.int .i64 x.2.2.2.2)]⟩) := by
  refine ICalls.frz ?_;refine icalls_fn (pfnw rfl ?_); unfold f79 at H;(conv=>whnf);refine pw_so ?_;refine po_all ?_;(conv=>whnf);refine pw_so ?_;refine po_all ?_;(conv=>whnf);obtain ⟨y1, h2, H⟩ := obnd_some H;refine (c43 h2).go ?_;(conv=>whnf);refine pw_so ?_;refine po_all ?_;(conv=>whnf);refine pw_ret ?_;(conv=>whnf);cases H; show ∃ D, Fz _ D 0 (.tuple ⟨[(.agg ⟨[(VS 1 _), (VS 1 _), (.int .i64 a2), (VS 2 _)]⟩), (.int .i64 y1.2)]⟩) _;exact ⟨fun _ => false, .tuplel (.cons .cl (.cons .cl (.nil)))⟩

/-- guidevane/dam.isDeviation -/
noncomputable def f82  (a0 : Int) : Option Bool :=
  obnd (f65 a0 (0 : Int) (1000000 : Int)) fun (y1 : Bool) =>
  some y1
set_option maxHeartbeats 1000000 in
theorem c82  {a0 : Int} {x : Bool} (H : f82 a0 = some x) : ICalls E 82 [(.int .i64 a0)] AHeap.none fun v _ => v = (.bool x) := by
  refine icalls_fn (pfnw rfl ?_); unfold f82 at H;(conv=>whnf);refine pw_so ?_;refine po_all ?_;(conv=>whnf);refine pw_so ?_;refine po_all ?_;(conv=>whnf);obtain ⟨y1, h2, H⟩ := obnd_some H;refine (c65 h2).go ?_;(conv=>whnf);refine pw_ret ?_;(conv=>whnf);cases H; rfl

/-- (guidevane/dam.rules).stateErr -/
noncomputable def f113  (a0 : List Int) (_ : List Int) (_ : Int) (_ : List (ByteArray × Int)) (a4 : Int) (a5 : Int) (a6 : Int) : Option Int :=
  obnd (f65 a4 (0 : Int) ((a0.map eI).length : Int)) fun (y1 : Bool) =>
  obnd (
   oite y1 (
    obnd (f65 a5 (0 : Int) (1000000 : Int)) fun (y5 : Bool) =>
    some y5
     ) (
    some false
     )
    ) fun (r3 : Bool) =>
  obnd (
   oite r3 (
    obnd (f82 a6) fun (y9 : Bool) =>
    some y9
     ) (
    some false
     )
    ) fun (r7 : Bool) =>
  obnd (f64 r7 (2 : Int)) fun (y11 : Int) =>
  oite ((ilt (0 : Int) a4)) (
   obnd (f64 true (13 : Int)) fun (y13 : Int) =>
   obnd (f63 ([y11, y13] : List Int)) fun (y15 : Int) =>
   some y15
    ) (
   obnd (f64 (ieq a5 (0 : Int)) (13 : Int)) fun (y17 : Int) =>
   obnd (f63 ([y11, y17] : List Int)) fun (y19 : Int) =>
   some y19
    )
set_option maxHeartbeats 1000000 in
theorem c113  {a0 : List Int} {a1 : List Int} {a2 : Int} {a3 : List (ByteArray × Int)} {a4 : Int} {a5 : Int} {a6 : Int} {x : Int} (H : f113 a0 a1 a2 a3 a4 a5 a6 = some x) : ICalls E 113 [(.agg ⟨[(VS 1 (a0.map eI)), (VS 1 (a1.map eI)), (.int .i64 a2), (VS 2 (a3.map e_SI))]⟩), (.agg ⟨[(.int .i64 a4), (.int .i64 a5), (.int .i64 a6)]⟩)] AHeap.none fun v _ => v = (.int .i64 x) := by
  refine icalls_fn (pfnw rfl ?_); unfold f113 at H;(conv=>whnf);refine pw_so ?_;refine po_all ?_;(conv=>whnf);refine pw_so ?_;refine po_ops 8 ?_;(conv=>whnf);obtain ⟨y1, h2, H⟩ := obnd_some H;refine (c65 h2).go ?_;(conv=>whnf);obtain ⟨r3, h4, H⟩ := obnd_some H;refine po_seg (τ := Bool) 4 (fun e => ⟨[(3, (.pointer (some ⟨1, 0, none⟩))), (17, (.bool e))], ⟨2, [(1, .rw [(.int .i64 a4), (.int .i64 a5), (.int .i64 a6)]), (0, .rw [(VS 1 (a0.map eI)), (VS 1 (a1.map eI)), (.int .i64 a2), (VS 2 (a3.map e_SI))])], false⟩⟩) r3 ?_ ?_
  · refine po_all ?_;(conv=>whnf);refine pbr_oite h4 (fun _ h4 => ?_) (fun _ h4 => ?_)
    · (conv=>whnf);refine pbr_t (by assumption) ?_;(conv=>whnf);refine pbr_t (by assumption) ?_;(conv=>whnf);obtain ⟨y5, h6, h4⟩ := obnd_some h4;refine (c65 h6).go ?_;(conv=>whnf);refine pbr_t (by assumption) ?_;(conv=>whnf);cases h4;exact ⟨(.cons rfl (.cons rfl .nil)), rfl⟩
    · (conv=>whnf);refine pbr_f (by assumption) ?_;(conv=>whnf);refine pbr_f (by assumption) ?_;(conv=>whnf);refine pbr_f (by assumption) ?_;(conv=>whnf);cases h4;exact ⟨(.cons rfl (.cons rfl .nil)), rfl⟩
  · refine po_ops 1 ?_;(conv=>whnf);obtain ⟨r7, h8, H⟩ := obnd_some H;refine po_seg (τ := Bool) 4 (fun e => ⟨[(3, (.pointer (some ⟨1, 0, none⟩))), (22, (.bool e))], ⟨2, [(1, .rw [(.int .i64 a4), (.int .i64 a5), (.int .i64 a6)]), (0, .rw [(VS 1 (a0.map eI)), (VS 1 (a1.map eI)), (.int .i64 a2), (VS 2 (a3.map e_SI))])], false⟩⟩) r7 ?_ ?_
    · refine po_all ?_;(conv=>whnf);refine pbr_oite h8 (fun _ h8 => ?_) (fun _ h8 => ?_)
      · (conv=>whnf);refine pbr_t (by assumption) ?_;(conv=>whnf);refine pbr_t (by assumption) ?_;(conv=>whnf);obtain ⟨y9, h10, h8⟩ := obnd_some h8;refine (c82 h10).go ?_;(conv=>whnf);refine pbr_t (by assumption) ?_;(conv=>whnf);cases h8;exact ⟨(.cons rfl (.cons rfl .nil)), rfl⟩
      · (conv=>whnf);refine pbr_f (by assumption) ?_;(conv=>whnf);refine pbr_f (by assumption) ?_;(conv=>whnf);refine pbr_f (by assumption) ?_;(conv=>whnf);cases h8;exact ⟨(.cons rfl (.cons rfl .nil)), rfl⟩
    · refine po_all ?_;(conv=>whnf);refine pw_sd ?_;(conv=>whnf);refine ⟨?_, trivial⟩;(conv=>whnf);obtain ⟨y11, h12, H⟩ := obnd_some H;refine (c64 h12).go ?_;(conv=>whnf);refine ⟨by repeat (first | exact trivial | refine And.intro rfl ?_), ?_⟩;(conv=>whnf);refine pbr_oite H (fun _ H => ?_) (fun _ H => ?_)
      · (conv=>whnf);refine pbr_t (by assumption) ?_;(conv=>whnf);refine pbr_t (by assumption) ?_;(conv=>whnf);refine pbr_t (by assumption) ?_;(conv=>whnf);refine ⟨?_, trivial⟩;(conv=>whnf);obtain ⟨y13, h14, H⟩ := obnd_some H;refine (c64 h14).go ?_;(conv=>whnf);refine ⟨by repeat (first | exact trivial | refine And.intro rfl ?_), ?_⟩;(conv=>whnf);refine ⟨?_, trivial⟩;(conv=>whnf);refine ⟨by repeat (first | exact trivial | refine And.intro rfl ?_), ?_⟩;(conv=>whnf);refine ⟨?_, trivial⟩;(conv=>whnf);obtain ⟨y15, h16, H⟩ := obnd_some H;refine ICalls.goW (c63 h16) (.cons (.vt _ _ _) .nil) ?_;(conv=>whnf);refine ⟨by repeat (first | exact trivial | refine And.intro rfl ?_), ?_⟩
        (conv=>whnf);refine pw_ret ?_;(conv=>whnf);cases H; rfl
      · (conv=>whnf);refine pbr_f (by assumption) ?_;(conv=>whnf);refine pbr_f (by assumption) ?_;(conv=>whnf);refine pbr_f (by assumption) ?_;(conv=>whnf);refine ⟨?_, trivial⟩;(conv=>whnf);obtain ⟨y17, h18, H⟩ := obnd_some H;refine (c64 h18).go ?_;(conv=>whnf);refine ⟨by repeat (first | exact trivial | refine And.intro rfl ?_), ?_⟩;(conv=>whnf);refine ⟨?_, trivial⟩;(conv=>whnf);refine ⟨by repeat (first | exact trivial | refine And.intro rfl ?_), ?_⟩;(conv=>whnf);refine ⟨?_, trivial⟩;(conv=>whnf);obtain ⟨y19, h20, H⟩ := obnd_some H;refine ICalls.goW (c63 h20) (.cons (.vt _ _ _) .nil) ?_;(conv=>whnf);refine ⟨by repeat (first | exact trivial | refine And.intro rfl ?_), ?_⟩
        (conv=>whnf);refine pw_ret ?_;(conv=>whnf);cases H; rfl

/-- guidevane/dam.openState -/
noncomputable def f90  (a0 : List Int) (a1 : List Int) (a2 : Int) (a3 : List (ByteArray × Int)) (a4 : Int) (a5 : Int) (a6 : Int) : Option ((List Int) × (List Int) × Int × (List (ByteArray × Int)) × Int) :=
  obnd (f79 a0 a1 a2 a3) fun (y1 : (List Int) × (List Int) × Int × (List (ByteArray × Int)) × Int) =>
  obnd (
   oite ((ieq y1.2.2.2.2 (0 : Int))) (
    obnd (f113 y1.1 y1.2.1 y1.2.2.1 y1.2.2.2.1 a4 a5 a6) fun (y7 : Int) =>
    some y7
     ) (
    some y1.2.2.2.2
     )
    ) fun (r3 : Int) =>
  some (y1.1, y1.2.1, y1.2.2.1, y1.2.2.2.1, r3)
set_option maxHeartbeats 1000000 in
theorem c90  {a0 : List Int} {a1 : List Int} {a2 : Int} {a3 : List (ByteArray × Int)} {a4 : Int} {a5 : Int} {a6 : Int} {x : (List Int) × (List Int) × Int × (List (ByteArray × Int)) × Int} (H : f90 a0 a1 a2 a3 a4 a5 a6 = some x) : ICalls E 90 [(.agg ⟨[(VS 1 (a0.map eI)), (VS 1 (a1.map eI)), (.int .i64 a2), (VS 2 (a3.map e_SI))]⟩), (.agg ⟨[(.int .i64 a4), (.int .i64 a5), (.int .i64 a6)]⟩)] AHeap.none fun v _ => v = (.tuple ⟨[(.agg ⟨[(VS 1 (x.1.map eI)), (VS 1 (x.2.1.map eI)), (.int .i64 x.2.2.1), (VS 2 (x.2.2.2.1.map e_SI))]⟩), (.int .i64 x.2.2.2.2)]⟩) := by
  refine ICalls.frz ?_;refine icalls_fn (pfnw rfl ?_); unfold f90 at H;(conv=>whnf);refine pw_so ?_;refine po_all ?_;(conv=>whnf);refine pw_so ?_;refine po_all ?_;(conv=>whnf);obtain ⟨y1, h2, H⟩ := obnd_some H;refine (c79 h2).go ?_;(conv=>whnf);obtain ⟨r3, h4, H⟩ := obnd_some H;refine pw_join (ρ := Int) (fun e => ⟨[(4, (.pointer (some ⟨2, 0, none⟩))), (6, (.pointer (some ⟨3, 0, none⟩))), (7, (.int .i64 e))], ⟨4, [(3, .rw [(VS 1 (y1.1.map eI)), (VS 1 (y1.2.1.map eI)), (.int .i64 y1.2.2.1), (VS 2 (y1.2.2.2.1.map e_SI))]), (2, .rw [(.slice none 0 0), (.slice none 0 0), (.int .i64 0), (.slice none 0 0)]), (1, .rw [(.int .i64 a4), (.int .i64 a5), (.int .i64 a6)]), (0, .rw [(VS 1 (a0.map eI)), (VS 1 (a1.map eI)), (.int .i64 a2), (VS 2 (a3.map e_SI))])], false⟩⟩) r3 ?_ ?_
  · refine pw_so ?_;refine po_all ?_;(conv=>whnf);refine pw_cond ?_;(conv=>whnf);refine pbr_oite h4 (fun _ h4 => ?_) (fun _ h4 => ?_)
    · (conv=>whnf);refine pw_ops ?_;refine po_all ?_;(conv=>whnf);obtain ⟨y7, h8, h4⟩ := obnd_some h4;refine (c113 h8).go ?_;(conv=>whnf);cases h4;exact ⟨(.cons rfl (.cons rfl (.cons rfl .nil))), rfl⟩
    · (conv=>whnf);refine pw_skip ?_;(conv=>whnf);cases h4;exact ⟨(.cons rfl (.cons rfl (.cons rfl .nil))), rfl⟩
  · refine pw_so ?_;refine po_all ?_;(conv=>whnf);refine pw_ret ?_;(conv=>whnf);cases H; show ∃ D, Fz _ D 0 (.tuple ⟨[(.agg ⟨[(VS 1 _), (VS 1 _), (.int .i64 y1.2.2.1), (VS 2 _)]⟩), (.int .i64 r3)]⟩) _;exact ⟨fun _ => false, .tuplel (.cons .cl (.cons .cl (.nil)))⟩

/-- guidevane/dam.Lowered$1 -/
noncomputable def f185  (a0 : ByteArray) (_ : Int) (a2 : ByteArray) (_ : Int) : Option Bool :=
  some (a0.toList == a2.toList)
set_option maxHeartbeats 1000000 in
theorem c185  {a0 : ByteArray} {a1 : Int} {a2 : ByteArray} {a3 : Int} {x : Bool} (H : f185 a0 a1 a2 a3 = some x) : ICallV E (.func (.func (E.id 185)) ⟨[]⟩ ⟨[(VP (.agg ⟨[(.string a2), (.int .i64 a3)]⟩) 0)]⟩) [(.agg ⟨[(.string a0), (.int .i64 a1)]⟩)] AHeap.none fun v _ => v = (.bool x) := by
  refine icallv_fn (pfnw rfl ?_); unfold f185 at H;(conv=>whnf);refine pw_so ?_;refine po_all ?_;(conv=>whnf);refine pw_so ?_;refine po_all ?_;(conv=>whnf);refine pw_ret ?_;(conv=>whnf);cases H; rfl

/-- guidevane/dam.Lowered -/
noncomputable def f169  (a0 : List Int) (a1 : List Int) (a2 : Int) (a3 : List (ByteArray × Int)) (a4 : Int) (a5 : Int) (a6 : Int) (a7 : ByteArray) (a8 : Int) : Option (Int × Int × Int × Int) :=
  obnd (f90 a0 a1 a2 a3 a4 a5 a6) fun (y1 : (List Int) × (List Int) × Int × (List (ByteArray × Int)) × Int) =>
  obnd (f88 a7) fun (y3 : Bool) =>
  obnd (f64 y3 (4 : Int)) fun (y5 : Int) =>
  obnd (f63 ([y1.2.2.2.2, y5] : List Int)) fun (y7 : Int) =>
  oite ((!(ieq y7 (0 : Int)))) (
   some ((0 : Int), (0 : Int), (0 : Int), y7)
    ) (
   obnd (f110 (fun (z0 : ByteArray) (z1 : Int) => f185 z0 z1 a7 a8) y1.2.2.2.1) fun (y9 : Int) =>
   oite ((ilt y9 (0 : Int))) (
    some ((0 : Int), (0 : Int), (0 : Int), (6 : Int))
     ) (
    obnd (f65 a8 (0 : Int) (IntKind.i64.wrap (a4 - (1 : Int)))) fun (y11 : Bool) =>
    oite (!y11) (
     some ((0 : Int), (0 : Int), (0 : Int), (2 : Int))
      ) (
     obnd (
      oite ((ile y1.2.2.1 a5)) (
       ogrd ((ile 0 a8)) (
       obnd (y1.2.1[a8.toNat]?) fun (x17 : Int) =>
       some (ilt a6 x17)
       )
        ) (
       some false
        )
       ) fun (r13 : Bool) =>
     ogrd ((ile 0 y9)) (
     obnd (y1.2.2.2.1[y9.toNat]?) fun (x18 : ByteArray × Int) =>
     obnd (f64 (ile a4 x18.2) (18 : Int)) fun (y19 : Int) =>
     obnd (f64 r13 (24 : Int)) fun (y21 : Int) =>
     obnd (f63 ([y19, y21] : List Int)) fun (y23 : Int) =>
     oite ((!(ieq y23 (0 : Int)))) (
      some ((0 : Int), (0 : Int), (0 : Int), y23)
       ) (
      some (a8, (0 : Int), a6, (0 : Int))
       )
     )
      )
     )
    )
set_option maxHeartbeats 1000000 in
theorem c169  {a0 : List Int} {a1 : List Int} {a2 : Int} {a3 : List (ByteArray × Int)} {a4 : Int} {a5 : Int} {a6 : Int} {a7 : ByteArray} {a8 : Int} {x : Int × Int × Int × Int} (H : f169 a0 a1 a2 a3 a4 a5 a6 a7 a8 = some x) : ICalls E 169 [(.agg ⟨[(VS 1 (a0.map eI)), (VS 1 (a1.map eI)), (.int .i64 a2), (VS 2 (a3.map e_SI))]⟩), (.agg ⟨[(.int .i64 a4), (.int .i64 a5), (.int .i64 a6)]⟩), (.agg ⟨[(.string a7), (.int .i64 a8)]⟩)] AHeap.none fun v _ => v = (.tuple ⟨[(.agg ⟨[(.int .i64 x.1), (.int .i64 x.2.1), (.int .i64 x.2.2.1)]⟩), (.int .i64 x.2.2.2)]⟩) := by
  refine icalls_fn (pfnw rfl ?_); unfold f169 at H;(conv=>whnf);refine pw_so ?_;refine po_all ?_;(conv=>whnf);refine pw_so ?_;refine po_all ?_;(conv=>whnf);obtain ⟨y1, h2, H⟩ := obnd_some H;refine (c90 h2).go ?_;(conv=>whnf);refine pw_seq ?_;refine pw_so ?_;refine po_all ?_;(conv=>whnf);obtain ⟨y3, h4, H⟩ := obnd_some H;refine (c88 h4).go ?_;(conv=>whnf);obtain ⟨y5, h6, H⟩ := obnd_some H;refine (c64 h6).go ?_;(conv=>whnf);obtain ⟨y7, h8, H⟩ := obnd_some H;refine ICalls.goW (c63 h8) (.cons (.vt _ _ _) .nil) ?_;(conv=>whnf);refine pw_so ?_;refine po_all ?_;(conv=>whnf);refine pw_cond ?_;(conv=>whnf);refine pbr_oite H (fun _ H => ?_) (fun _ H => ?_)
  · (conv=>whnf);refine pw_so ?_;refine po_all ?_;(conv=>whnf);refine pw_ret ?_;(conv=>whnf);cases H; rfl
  · (conv=>whnf);refine pw_skip ?_;(conv=>whnf);refine pw_so ?_;refine po_all ?_;(conv=>whnf);obtain ⟨y9, h10, H⟩ := obnd_some H;refine ICalls.goD (c110 (fun _ _ _ h => (c185 h)) h10) (.cons .cl (.cons (.func .nil (.cons (.ptr rfl (by intro v hv; simp only [List.mem_cons, List.not_mem_nil, or_false] at hv; rcases hv with rfl | rfl <;> rfl)) .nil)) .nil)) rfl ?_;(conv=>whnf);refine pw_seq ?_;refine pw_so ?_;refine po_all ?_;(conv=>whnf);refine pw_cond ?_;(conv=>whnf);refine pbr_oite H (fun _ H => ?_) (fun _ H => ?_)
    · (conv=>whnf);refine pw_so ?_;refine po_all ?_;(conv=>whnf);refine pw_ret ?_;(conv=>whnf);cases H; rfl
    · (conv=>whnf);refine pw_skip ?_;(conv=>whnf);refine pw_seq ?_;refine pw_so ?_;refine po_all ?_;(conv=>whnf);obtain ⟨y11, h12, H⟩ := obnd_some H;refine (c65 h12).go ?_;(conv=>whnf);refine pw_cond ?_;(conv=>whnf);refine pbr_oite H (fun _ H => ?_) (fun _ H => ?_)
      · (conv=>whnf);refine pw_so ?_;refine po_all ?_;(conv=>whnf);refine pw_ret ?_;(conv=>whnf);cases H; rfl
      · (conv=>whnf);refine pw_skip ?_;(conv=>whnf);obtain ⟨r13, h14, H⟩ := obnd_some H;refine pw_join (ρ := Bool) (fun e => ⟨[(4, (.pointer (some ⟨1, 0, none⟩))), (5, (.pointer (some ⟨2, 0, none⟩))), (6, (.pointer (some ⟨3, 0, none⟩))), (8, (.pointer (some ⟨4, 0, none⟩))), (10, (.int .i64 y9)), (11, (.bool e))], ⟨6, [(5, .tail 2 1), (4, .rw [(VS 1 (y1.1.map eI)), (VS 1 (y1.2.1.map eI)), (.int .i64 y1.2.2.1), (VS 2 (y1.2.2.2.1.map e_SI))]), (3, .rw [(.int .i64 0), (.int .i64 0), (.int .i64 0)]), (2, .rw [(.string a7), (.int .i64 a8)]), (1, .rw [(.int .i64 a4), (.int .i64 a5), (.int .i64 a6)]), (0, .rw [(VS 1 (a0.map eI)), (VS 1 (a1.map eI)), (.int .i64 a2), (VS 2 (a3.map e_SI))])], false⟩⟩) r13 ?_ ?_
        · refine pw_draw ?_;(conv=>whnf);refine pbr_oite h14 (fun _ h14 => ?_) (fun _ h14 => ?_)
          · (conv=>whnf);refine pbr_t (by assumption) ?_;(conv=>whnf);refine pbr_t (by assumption) ?_;(conv=>whnf);refine pbr_t (by assumption) ?_;(conv=>whnf);refine pbr_t (by assumption) ?_;(conv=>whnf);refine pbr_t (by assumption) ?_;(conv=>whnf);refine pbr_t (by assumption) ?_;(conv=>whnf);refine pbr_t (by assumption) ?_;(conv=>whnf);refine pbr_ogrd h14 (fun _ h14 => ?_);(conv=>whnf);refine nth_o (l := y1.2.1) h14 (fun x17 _ h14 => ?_);(conv=>whnf);refine pbr_t (by assumption) ?_;(conv=>whnf);refine pbr_t (by assumption) ?_;(conv=>whnf);refine pbr_t (by assumption) ?_;(conv=>whnf);cases h14;exact ⟨(.cons rfl (.cons rfl (.cons rfl (.cons rfl (.cons rfl (.cons rfl .nil)))))), rfl⟩
          · (conv=>whnf);refine pbr_f (by assumption) ?_;(conv=>whnf);refine pbr_f (by assumption) ?_;(conv=>whnf);refine pbr_f (by assumption) ?_;(conv=>whnf);refine pbr_f (by assumption) ?_;(conv=>whnf);refine pbr_f (by assumption) ?_;(conv=>whnf);refine pbr_f (by assumption) ?_;(conv=>whnf);refine pbr_f (by assumption) ?_;(conv=>whnf);refine pbr_f (by assumption) ?_;(conv=>whnf);refine pbr_f (by assumption) ?_;(conv=>whnf);refine pbr_f (by assumption) ?_;(conv=>whnf);cases h14;exact ⟨(.cons rfl (.cons rfl (.cons rfl (.cons rfl (.cons rfl (.cons rfl .nil)))))), rfl⟩
        · refine pw_seq ?_;refine pw_sd ?_;(conv=>whnf);refine pbr_ogrd H (fun _ H => ?_);(conv=>whnf);refine nth_o (l := y1.2.2.2.1) H (fun x18 _ H => ?_);(conv=>whnf);refine ⟨?_, trivial⟩;(conv=>whnf);obtain ⟨y19, h20, H⟩ := obnd_some H;refine (c64 h20).go ?_;(conv=>whnf);refine ⟨by repeat (first | exact trivial | refine And.intro rfl ?_), ?_⟩;(conv=>whnf);refine ⟨?_, trivial⟩;(conv=>whnf);obtain ⟨y21, h22, H⟩ := obnd_some H;refine (c64 h22).go ?_;(conv=>whnf);refine ⟨by repeat (first | exact trivial | refine And.intro rfl ?_), ?_⟩;(conv=>whnf);refine ⟨?_, trivial⟩;(conv=>whnf);refine ⟨by repeat (first | exact trivial | refine And.intro rfl ?_), ?_⟩
          (conv=>whnf);refine ⟨?_, trivial⟩;(conv=>whnf);obtain ⟨y23, h24, H⟩ := obnd_some H;refine ICalls.goW (c63 h24) (.cons (.vt _ _ _) .nil) ?_;(conv=>whnf);refine ⟨by repeat (first | exact trivial | refine And.intro rfl ?_), ?_⟩;(conv=>whnf);refine pw_so ?_;refine po_all ?_;(conv=>whnf);refine pw_cond ?_;(conv=>whnf);refine pbr_oite H (fun _ H => ?_) (fun _ H => ?_)
          · (conv=>whnf);refine pw_so ?_;refine po_all ?_;(conv=>whnf);refine pw_ret ?_;(conv=>whnf);cases H; rfl
          · (conv=>whnf);refine pw_skip ?_;(conv=>whnf);refine pw_so ?_;refine po_all ?_;(conv=>whnf);refine pw_ret ?_;(conv=>whnf);cases H; rfl

/-- guidevane/guidevanebase.Within -/
noncomputable def f15  (a0 : Int) (a1 : Int) (a2 : Int) : Option Bool :=
  obnd (
   oite ((ile a1 a0)) (
    some (ile a0 a2)
     ) (
    some false
     )
    ) fun (r1 : Bool) =>
  some r1
set_option maxHeartbeats 1000000 in
theorem c15  {a0 : Int} {a1 : Int} {a2 : Int} {x : Bool} (H : f15 a0 a1 a2 = some x) : ICalls E 15 [(.int .i64 a0), (.int .i64 a1), (.int .i64 a2)] AHeap.none fun v _ => v = (.bool x) := by
  refine icalls_fn (pfnw rfl ?_); unfold f15 at H;(conv=>whnf);refine pw_so ?_;refine po_all ?_;(conv=>whnf);refine pw_so ?_;refine po_ops 4 ?_;(conv=>whnf);obtain ⟨r1, h2, H⟩ := obnd_some H;refine po_seg (τ := Bool) 4 (fun e => ⟨[(14, (.bool e))], ⟨0, [], false⟩⟩) r1 ?_ ?_
  · refine po_all ?_;(conv=>whnf);refine pbr_oite h2 (fun _ h2 => ?_) (fun _ h2 => ?_)
    · (conv=>whnf);refine pbr_t (by assumption) ?_;(conv=>whnf);refine pbr_t (by assumption) ?_;(conv=>whnf);refine pbr_t (by assumption) ?_;(conv=>whnf);cases h2;exact ⟨(.cons rfl .nil), rfl⟩
    · (conv=>whnf);refine pbr_f (by assumption) ?_;(conv=>whnf);refine pbr_f (by assumption) ?_;(conv=>whnf);refine pbr_f (by assumption) ?_;(conv=>whnf);cases h2;exact ⟨(.cons rfl .nil), rfl⟩
  · refine po_all ?_;(conv=>whnf);refine pw_ret ?_;(conv=>whnf);cases H; rfl

/-- guidevane/guidevanebase.IsName -/
noncomputable def f91  (a0 : ByteArray) : Option Bool :=
  obnd (
   oite ((ilt (a0.size : Int) (1 : Int))) (
    some true
     ) (
    some (ilt (12 : Int) (a0.size : Int))
     )
    ) fun (r1 : Bool) =>
  oite r1 (
   some false
    ) (
   obndS (
    oloop (τ := Int) (ρ := (Unit) ⊕ Bool) (fun e9 =>
     oite ((ilt e9 (a0.size : Int))) (
      ogrd ((ile 0 e9)) (
      obnd (a0.data.toList[e9.toNat]?) fun (x12 : UInt8) =>
      obnd (
       oite ((ile (97 : Int) (x12.toNat : Int))) (
        some (ile (x12.toNat : Int) (122 : Int))
         ) (
        some false
         )
        ) fun (r13 : Bool) =>
      obnd (
       oite r13 (
        some true
         ) (
        oite ((ile (65 : Int) (x12.toNat : Int))) (
         some (ile (x12.toNat : Int) (90 : Int))
          ) (
         some false
          )
         )
        ) fun (r15 : Bool) =>
      obnd (
       oite (!r15) (
        obnd (
         oite ((ieq e9 (0 : Int))) (
          some true
           ) (
          oite ((!(ieq (x12.toNat : Int) (45 : Int)))) (
           oite ((ilt (x12.toNat : Int) (48 : Int))) (
            some true
             ) (
            some (ilt (57 : Int) (x12.toNat : Int))
             )
            ) (
           some false
            )
           )
          ) fun (r21 : Bool) =>
        some r21
         ) (
        some false
         )
        ) fun (r17 : Bool) =>
      oite r17 (
       some (.inr (.inr (false)))
        ) (
       some (.inl (IntKind.i64.wrap (e9 + (1 : Int))))
        )
      )
       ) (
      some (.inr (.inl ()))
       )
      ) (0 : Int)
     ) fun (_ : Unit) =>
   some true
    )
set_option maxHeartbeats 1000000 in
theorem c91  {a0 : ByteArray} {x : Bool} (H : f91 a0 = some x) : ICalls E 91 [(.string a0)] AHeap.none fun v _ => v = (.bool x) := by
  refine icalls_fn (pfnw rfl ?_); unfold f91 at H;(conv=>whnf);refine pw_so ?_;refine po_all ?_;(conv=>whnf);refine pw_seq ?_;obtain ⟨r1, h2, H⟩ := obnd_some H;refine pw_join (ρ := Bool) (fun e => ⟨[(0, (.string a0)), (13, (.bool e))], ⟨0, [], false⟩⟩) r1 ?_ ?_
  · refine pw_ops ?_;refine po_all ?_;(conv=>whnf);refine pbr_oite h2 (fun _ h2 => ?_) (fun _ h2 => ?_)
    · (conv=>whnf);refine pbr_t (by assumption) ?_;(conv=>whnf);refine pbr_t (by assumption) ?_;(conv=>whnf);refine pbr_t (by assumption) ?_;(conv=>whnf);cases h2;exact ⟨(.cons rfl (.cons rfl .nil)), rfl⟩
    · (conv=>whnf);refine pbr_f (by assumption) ?_;(conv=>whnf);refine pbr_f (by assumption) ?_;(conv=>whnf);refine pbr_f (by assumption) ?_;(conv=>whnf);cases h2;exact ⟨(.cons rfl (.cons rfl .nil)), rfl⟩
  · refine pw_cond ?_;(conv=>whnf);refine pbr_oite H (fun _ H => ?_) (fun _ H => ?_)
    · (conv=>whnf);refine pw_so ?_;refine po_all ?_;(conv=>whnf);refine pw_ret ?_;(conv=>whnf);cases H; rfl
    · (conv=>whnf);refine pw_skip ?_;(conv=>whnf);obtain ⟨r5, h6, h7, h8⟩ := obndS_some H;refine pw_joinS (ρ := Unit) (fun e => ⟨[], ⟨0, [], false⟩⟩) r5 ?_ ?_
      · refine pw_so ?_;refine po_all ?_;(conv=>whnf);refine pw_block ?_;refine pw_loop (τ := Int) (fun e => ⟨[(0, (.string a0)), (3, (.int .i64 e))], ⟨0, [], false⟩⟩) h6 ?_ (fun _ => Nat.le_of_ble_eq_true rfl) ?_
        · exact .sub' (Nat.le_of_ble_eq_true rfl) (.cons rfl (.cons rfl .nil))
        · intro e9 x10 h11;refine pw_seq ?_;refine pw_so ?_;refine po_all ?_;(conv=>whnf);refine pw_cond ?_;(conv=>whnf);refine pbr_oite h11 (fun _ h11 => ?_) (fun _ h11 => ?_)
          · (conv=>whnf);refine pw_skip ?_;(conv=>whnf);refine pw_seq ?_;refine pw_block ?_;refine pw_so ?_;refine po_all ?_;(conv=>whnf);refine pbr_ogrd h11 (fun _ h11 => ?_);(conv=>whnf);refine get_o h11 (fun x12 _ h11 => ?_);(conv=>whnf);refine pw_so ?_;refine po_ops 3 ?_;(conv=>whnf);obtain ⟨r13, h14, h11⟩ := obnd_some h11;refine po_seg (τ := Bool) 3 (fun e => ⟨[(0, (.string a0)), (3, (.int .i64 e9)), (4, (.int .u8 (x12.toNat : Int))), (28, (.bool e))], ⟨0, [], false⟩⟩) r13 ?_ ?_
            · refine po_all ?_;(conv=>whnf);refine pbr_oite h14 (fun _ h14 => ?_) (fun _ h14 => ?_)
              · (conv=>whnf);refine pbr_t (by assumption) ?_;(conv=>whnf);refine pbr_t (by assumption) ?_;(conv=>whnf);cases h14;exact ⟨(.cons rfl (.cons rfl (.cons rfl (.cons rfl .nil)))), rfl⟩
              · (conv=>whnf);refine pbr_f (by assumption) ?_;(conv=>whnf);refine pbr_f (by assumption) ?_;(conv=>whnf);cases h14;exact ⟨(.cons rfl (.cons rfl (.cons rfl (.cons rfl .nil)))), rfl⟩
            · refine po_ops 1 ?_;(conv=>whnf);obtain ⟨r15, h16, h11⟩ := obnd_some h11;refine po_seg (τ := Bool) 7 (fun e => ⟨[(0, (.string a0)), (3, (.int .i64 e9)), (4, (.int .u8 (x12.toNat : Int))), (36, (.bool e))], ⟨0, [], false⟩⟩) r15 ?_ ?_
              · refine po_all ?_;(conv=>whnf);refine pbr_oite h16 (fun _ h16 => ?_) (fun _ h16 => ?_)
                · (conv=>whnf);refine pbr_t (by assumption) ?_;(conv=>whnf);refine pbr_t (by assumption) ?_;(conv=>whnf);refine pbr_t (by assumption) ?_;(conv=>whnf);refine pbr_t (by assumption) ?_;(conv=>whnf);cases h16;exact ⟨(.cons rfl (.cons rfl (.cons rfl (.cons rfl .nil)))), rfl⟩
                · (conv=>whnf);refine pbr_f (by assumption) ?_;(conv=>whnf);refine pbr_f (by assumption) ?_;(conv=>whnf);refine pbr_oite h16 (fun _ h16 => ?_) (fun _ h16 => ?_)
                  · (conv=>whnf);refine pbr_t (by assumption) ?_;(conv=>whnf);refine pbr_f (by assumption) ?_;(conv=>whnf);refine pbr_t (by assumption) ?_;(conv=>whnf);refine pbr_f (by assumption) ?_;(conv=>whnf);cases h16;exact ⟨(.cons rfl (.cons rfl (.cons rfl (.cons rfl .nil)))), rfl⟩
                  · (conv=>whnf);refine pbr_f (by assumption) ?_;(conv=>whnf);refine pbr_f (by assumption) ?_;(conv=>whnf);refine pbr_f (by assumption) ?_;(conv=>whnf);refine pbr_f (by assumption) ?_;(conv=>whnf);cases h16;exact ⟨(.cons rfl (.cons rfl (.cons rfl (.cons rfl .nil)))), rfl⟩
              · refine po_all ?_;(conv=>whnf);obtain ⟨r17, h18, h11⟩ := obnd_some h11;refine pw_join (ρ := Bool) (fun e => ⟨[(0, (.string a0)), (3, (.int .i64 e9)), (54, (.bool e))], ⟨0, [], false⟩⟩) r17 ?_ ?_
                · refine pw_ops ?_;refine po_ops 6 ?_;(conv=>whnf);refine pbr_oite h18 (fun _ h18 => ?_) (fun _ h18 => ?_)
                  · (conv=>whnf);refine pbr_t (by assumption) ?_;(conv=>whnf);refine pbr_t (by assumption) ?_;(conv=>whnf);obtain ⟨r21, h22, h18⟩ := obnd_some h18;refine po_seg (τ := Bool) 11 (fun e => ⟨[(0, (.string a0)), (3, (.int .i64 e9)), (39, (.bool (!r15))), (40, (.int .i64 e9)), (41, (.bool (ieq e9 (0 : Int)))), (42, (.bool (ieq e9 (0 : Int)))), (53, (.bool e))], ⟨0, [], false⟩⟩) r21 ?_ ?_
                    · refine po_all ?_;(conv=>whnf);refine pbr_oite h22 (fun _ h22 => ?_) (fun _ h22 => ?_)
                      · (conv=>whnf);refine pbr_t (by assumption) ?_;(conv=>whnf);refine pbr_t (by assumption) ?_;(conv=>whnf);refine pbr_t (by assumption) ?_;(conv=>whnf);refine pbr_t (by assumption) ?_;(conv=>whnf);refine pbr_t (by assumption) ?_;(conv=>whnf);cases h22;exact ⟨(.cons rfl (.cons rfl (.cons rfl (.cons rfl (.cons rfl (.cons rfl (.cons rfl .nil))))))), rfl⟩
                      · (conv=>whnf);refine pbr_f (by assumption) ?_;(conv=>whnf);refine pbr_f (by assumption) ?_;(conv=>whnf);refine pbr_oite h22 (fun _ h22 => ?_) (fun _ h22 => ?_)
                        · (conv=>whnf);refine pbr_t (by assumption) ?_;(conv=>whnf);refine pbr_t (by assumption) ?_;(conv=>whnf);refine pbr_oite h22 (fun _ h22 => ?_) (fun _ h22 => ?_)
                          · (conv=>whnf);refine pbr_t (by assumption) ?_;(conv=>whnf);refine pbr_t (by assumption) ?_;(conv=>whnf);refine pbr_t (by assumption) ?_;(conv=>whnf);refine pbr_f (by assumption) ?_;(conv=>whnf);refine pbr_t (by assumption) ?_;(conv=>whnf);refine pbr_t (by assumption) ?_;(conv=>whnf);refine pbr_f (by assumption) ?_;(conv=>whnf);cases h22;exact ⟨(.cons rfl (.cons rfl (.cons rfl (.cons rfl (.cons rfl (.cons rfl (.cons rfl .nil))))))), rfl⟩
                          · (conv=>whnf);refine pbr_f (by assumption) ?_;(conv=>whnf);refine pbr_t (by assumption) ?_;(conv=>whnf);refine pbr_f (by assumption) ?_;(conv=>whnf);refine pbr_f (by assumption) ?_;(conv=>whnf);refine pbr_t (by assumption) ?_;(conv=>whnf);refine pbr_t (by assumption) ?_;(conv=>whnf);refine pbr_f (by assumption) ?_;(conv=>whnf);cases h22;exact ⟨(.cons rfl (.cons rfl (.cons rfl (.cons rfl (.cons rfl (.cons rfl (.cons rfl .nil))))))), rfl⟩
                        · (conv=>whnf);refine pbr_f (by assumption) ?_;(conv=>whnf);refine pbr_f (by assumption) ?_;(conv=>whnf);refine pbr_f (by assumption) ?_;(conv=>whnf);refine pbr_f (by assumption) ?_;(conv=>whnf);refine pbr_f (by assumption) ?_;(conv=>whnf);refine pbr_t (by assumption) ?_;(conv=>whnf);refine pbr_f (by assumption) ?_;(conv=>whnf);cases h22;exact ⟨(.cons rfl (.cons rfl (.cons rfl (.cons rfl (.cons rfl (.cons rfl (.cons rfl .nil))))))), rfl⟩
                    · refine po_all ?_;(conv=>whnf);refine pbr_t (by assumption) ?_;(conv=>whnf);cases h18;exact ⟨(.cons rfl (.cons rfl (.cons rfl .nil))), rfl⟩
                  · (conv=>whnf);refine pbr_f (by assumption) ?_;(conv=>whnf);refine pbr_f (by assumption) ?_;(conv=>whnf);refine po_ops 11 ?_;(conv=>whnf);refine pbr_f (by assumption) ?_;(conv=>whnf);refine po_all ?_;(conv=>whnf);refine pbr_f (by assumption) ?_;(conv=>whnf);cases h18;exact ⟨(.cons rfl (.cons rfl (.cons rfl .nil))), rfl⟩
                · refine pw_cond ?_;(conv=>whnf);refine pbr_oite h11 (fun _ h11 => ?_) (fun _ h11 => ?_)
                  · (conv=>whnf);refine pw_so ?_;refine po_all ?_;(conv=>whnf);refine pw_ret ?_;(conv=>whnf);cases h11;refine ⟨_, rfl, ?_⟩; rintro rfl;(conv=>whnf);obtain rfl := h8 _ rfl; rfl
                  · (conv=>whnf);refine pw_skip ?_;(conv=>whnf);refine pw_ops ?_;refine po_all ?_;(conv=>whnf);cases h11;refine ⟨_, rfl, ?_⟩;exact .sub' (Nat.le_of_ble_eq_true rfl) (.cons rfl (.cons rfl .nil))
          · (conv=>whnf);refine pw_exit ?_;(conv=>whnf);cases h11;refine ⟨_, rfl, ?_⟩; rintro rfl;(conv=>whnf);exact ⟨_, rfl, ⟨.nil, rfl⟩⟩
      · intro r25 hr; have H := h7 _ hr;refine pw_so ?_;refine po_all ?_;(conv=>whnf);refine pw_ret ?_;(conv=>whnf);cases H; rfl

/-- guidevane/guidevaneref09.find -/
noncomputable def f92  (a0 : List (ByteArray × Int)) (a1 : ByteArray) : Option Int :=
  obndS (
   oloop (τ := Int) (ρ := (Unit) ⊕ Int) (fun e5 =>
    oite ((ilt e5 ((a0.map e_SI).length : Int))) (
     ogrd ((ile 0 e5)) (
     obnd (a0[e5.toNat]?) fun (x8 : ByteArray × Int) =>
     oite ((x8.1.toList == a1.toList)) (
      some (.inr (.inr (e5)))
       ) (
      some (.inl (IntKind.i64.wrap (e5 + (1 : Int))))
       )
     )
      ) (
     some (.inr (.inl ()))
      )
     ) (0 : Int)
    ) fun (_ : Unit) =>
  some (-1 : Int)
set_option maxHeartbeats 1000000 in
theorem c92  {a0 : List (ByteArray × Int)} {a1 : ByteArray} {x : Int} (H : f92 a0 a1 = some x) : ICalls E 92 [(VS 2 (a0.map e_SI)), (.string a1)] AHeap.none fun v _ => v = (.int .i64 x) := by
  refine icalls_fn (pfnw rfl ?_); unfold f92 at H;(conv=>whnf);refine pw_so ?_;refine po_all ?_;(conv=>whnf);obtain ⟨r1, h2, h3, h4⟩ := obndS_some H;refine pw_joinS (ρ := Unit) (fun e => ⟨[], ⟨0, [], false⟩⟩) r1 ?_ ?_
  · refine pw_so ?_;refine po_all ?_;(conv=>whnf);refine pw_block ?_;refine pw_loop (τ := Int) (fun e => ⟨[(0, (VS 2 (a0.map e_SI))), (1, (.string a1)), (5, (.int .i64 e))], ⟨0, [], false⟩⟩) h2 ?_ (fun _ => Nat.le_of_ble_eq_true rfl) ?_
    · exact .sub' (Nat.le_of_ble_eq_true rfl) (.cons rfl (.cons rfl (.cons rfl .nil)))
    · intro e5 x6 h7;refine pw_seq ?_;refine pw_so ?_;refine po_all ?_;(conv=>whnf);refine pw_cond ?_;(conv=>whnf);refine pbr_oite h7 (fun _ h7 => ?_) (fun _ h7 => ?_)
      · (conv=>whnf);refine pw_skip ?_;(conv=>whnf);refine pw_seq ?_;refine pw_block ?_;refine pw_so ?_;refine po_all ?_;(conv=>whnf);refine pbr_ogrd h7 (fun _ h7 => ?_);(conv=>whnf);refine nth_o (l := a0) h7 (fun x8 _ h7 => ?_);(conv=>whnf);refine pw_cond ?_;(conv=>whnf);refine pbr_oite h7 (fun _ h7 => ?_) (fun _ h7 => ?_)
        · (conv=>whnf);refine pw_so ?_;refine po_all ?_;(conv=>whnf);refine pw_ret ?_;(conv=>whnf);cases h7;refine ⟨_, rfl, ?_⟩; rintro rfl;(conv=>whnf);obtain rfl := h4 _ rfl; rfl
        · (conv=>whnf);refine pw_skip ?_;(conv=>whnf);refine pw_ops ?_;refine po_all ?_;(conv=>whnf);cases h7;refine ⟨_, rfl, ?_⟩;exact .sub' (Nat.le_of_ble_eq_true rfl) (.cons rfl (.cons rfl (.cons rfl .nil)))
      · (conv=>whnf);refine pw_exit ?_;(conv=>whnf);cases h7;refine ⟨_, rfl, ?_⟩; rintro rfl;(conv=>whnf);exact ⟨_, rfl, ⟨.nil, rfl⟩⟩
  · intro r11 hr; have H := h3 _ hr;refine pw_so ?_;refine po_all ?_;(conv=>whnf);refine pw_ret ?_;(conv=>whnf);cases H; rfl

/-- guidevane/guidevaneref09.CheckRules -/
noncomputable def f46  (a0 : List Int) (a1 : List Int) (a2 : Int) (a3 : List (ByteArray × Int)) : Option (Int × Int) :=
  obnd (
   oite ((ieq ((a0.map eI).length : Int) (0 : Int))) (
    some true
     ) (
    some (!(ieq ((a1.map eI).length : Int) ((a0.map eI).length : Int)))
     )
    ) fun (r1 : Bool) =>
  oite r1 (
   some ((0 : Int), (10 : Int))
    ) (
   oite ((ilt (5 : Int) ((a0.map eI).length : Int))) (
    some ((0 : Int), (8 : Int))
     ) (
    obndS (
     oloop (τ := Int) (ρ := (Unit) ⊕ (Int × Int)) (fun e9 =>
      oite ((ilt e9 ((a0.map eI).length : Int))) (
       obnd (
        ogrd ((ile 0 e9)) (
        obnd (a0[e9.toNat]?) fun (x16 : Int) =>
        obnd (f15 x16 (1 : Int) (1000000 : Int)) fun (y17 : Bool) =>
        oite (!y17) (
         some true
          ) (
         obnd (a1[e9.toNat]?) fun (x19 : Int) =>
         obnd (f15 x19 (1 : Int) (1000000 : Int)) fun (y20 : Bool) =>
         some (!y20)
          )
        )
         ) fun (r12 : Bool) =>
       oite r12 (
        some (.inr (.inr ((e9, (2 : Int)))))
         ) (
        ogrd ((ile 0 e9)) (
        obnd (a1[e9.toNat]?) fun (x23 : Int) =>
        obnd (a0[e9.toNat]?) fun (x24 : Int) =>
        oite ((ilt x24 x23)) (
         some (.inr (.inr ((e9, (3 : Int)))))
          ) (
         obnd (
          oite ((ilt (0 : Int) e9)) (
           obnd (a0[e9.toNat]?) fun (x30 : Int) =>
           ogrd ((ile 0 (IntKind.i64.wrap (e9 - (1 : Int))))) (
           obnd (a0[(IntKind.i64.wrap (e9 - (1 : Int))).toNat]?) fun (x31 : Int) =>
           oite ((ile x30 x31)) (
            some true
             ) (
            obnd (a1[e9.toNat]?) fun (x32 : Int) =>
            obnd (a1[(IntKind.i64.wrap (e9 - (1 : Int))).toNat]?) fun (x33 : Int) =>
            some (ilt x32 x33)
             )
           )
            ) (
           some false
            )
           ) fun (r26 : Bool) =>
         oite r26 (
          some (.inr (.inr ((e9, (9 : Int)))))
           ) (
          some (.inl (IntKind.i64.wrap (e9 + (1 : Int))))
           )
          )
        )
         )
        ) (
       some (.inr (.inl ()))
        )
       ) (0 : Int)
      ) fun (_ : Unit) =>
    obnd (f15 a2 (0 : Int) (1000000 : Int)) fun (y37 : Bool) =>
    oite (!y37) (
     some ((0 : Int), (2 : Int))
      ) (
     oite ((ilt (10 : Int) ((a3.map e_SI).length : Int))) (
      some ((0 : Int), (8 : Int))
       ) (
      obndS (
       oloop (τ := Int) (ρ := (Unit) ⊕ (Int × Int)) (fun e43 =>
        oite ((ilt e43 ((a3.map e_SI).length : Int))) (
         ogrd ((ile 0 e43)) (
         obnd (a3[e43.toNat]?) fun (x46 : ByteArray × Int) =>
         obnd (f91 x46.1) fun (y47 : Bool) =>
         oite (!y47) (
          some (.inr (.inr ((e43, (4 : Int)))))
           ) (
          obnd (oslH a3 e43) fun (m50 : List (ByteArray × Int)) =>
          obnd (a3[e43.toNat]?) fun (x53 : ByteArray × Int) =>
          obnd (f92 m50 x53.1) fun (y54 : Int) =>
          oite ((ile (0 : Int) y54)) (
           some (.inr (.inr ((e43, (5 : Int)))))
            ) (
           obnd (a3[e43.toNat]?) fun (x57 : ByteArray × Int) =>
           obnd (f15 x57.2 (1 : Int) ((a0.map eI).length : Int)) fun (y58 : Bool) =>
           oite (!y58) (
            some (.inr (.inr ((e43, (2 : Int)))))
             ) (
            some (.inl (IntKind.i64.wrap (e43 + (1 : Int))))
             )
            )
           )
         )
          ) (
         some (.inr (.inl ()))
          )
         ) (0 : Int)
        ) fun (_ : Unit) =>
      some ((0 : Int), (0 : Int))
       )
      )
     )
    )
set_option maxHeartbeats 1000000 in
theorem c46  {a0 : List Int} {a1 : List Int} {a2 : Int} {a3 : List (ByteArray × Int)} {x : Int × Int} (H : f46 a0 a1 a2 a3 = some x) : ICalls E 46 [(.agg ⟨[(VS 1 (a0.map eI)), (VS 1 (a1.map eI)), (.int .i64 a2), (VS 2 (a3.map e_SI))]⟩)] AHeap.none fun v _ => v = (.tuple ⟨[(.int .i64 x.1), (.int .i64 x.2)]⟩) := by
  refine icalls_fn (pfnw rfl ?_); unfold f46 at H;(conv=>whnf);refine pw_so ?_;refine po_all ?_;(conv=>whnf);refine pw_seq ?_;obtain ⟨r1, h2, H⟩ := obnd_some H;refine pw_join (ρ := Bool) (fun e => ⟨[(1, (.pointer (some ⟨0, 0, none⟩))), (18, (.bool e))], ⟨1, [(0, .rw [(VS 1 (a0.map eI)), (VS 1 (a1.map eI)), (.int .i64 a2), (VS 2 (a3.map e_SI))])], false⟩⟩) r1 ?_ ?_
  · refine pw_ops ?_;refine po_all ?_;(conv=>whnf);refine pbr_oite h2 (fun _ h2 => ?_) (fun _ h2 => ?_)
    · (conv=>whnf);refine pbr_t (by assumption) ?_;(conv=>whnf);refine pbr_t (by assumption) ?_;(conv=>whnf);refine pbr_t (by assumption) ?_;(conv=>whnf);refine pbr_t (by assumption) ?_;(conv=>whnf);refine pbr_t (by assumption) ?_;(conv=>whnf);refine pbr_t (by assumption) ?_;(conv=>whnf);refine pbr_t (by assumption) ?_;(conv=>whnf);cases h2;exact ⟨(.cons rfl (.cons rfl .nil)), rfl⟩
    · (conv=>whnf);refine pbr_f (by assumption) ?_;(conv=>whnf);refine pbr_f (by assumption) ?_;(conv=>whnf);refine pbr_f (by assumption) ?_;(conv=>whnf);refine pbr_f (by assumption) ?_;(conv=>whnf);refine pbr_f (by assumption) ?_;(conv=>whnf);refine pbr_f (by assumption) ?_;(conv=>whnf);refine pbr_f (by assumption) ?_;(conv=>whnf);cases h2;exact ⟨(.cons rfl (.cons rfl .nil)), rfl⟩
  · refine pw_cond ?_;(conv=>whnf);refine pbr_oite H (fun _ H => ?_) (fun _ H => ?_)
    · (conv=>whnf);refine pw_so ?_;refine po_all ?_;(conv=>whnf);refine pw_ret ?_;(conv=>whnf);cases H; rfl
    · (conv=>whnf);refine pw_skip ?_;(conv=>whnf);refine pw_seq ?_;refine pw_so ?_;refine po_all ?_;(conv=>whnf);refine pw_cond ?_;(conv=>whnf);refine pbr_oite H (fun _ H => ?_) (fun _ H => ?_)
      · (conv=>whnf);refine pw_so ?_;refine po_all ?_;(conv=>whnf);refine pw_ret ?_;(conv=>whnf);cases H; rfl
      · (conv=>whnf);refine pw_skip ?_;(conv=>whnf);obtain ⟨r5, h6, h7, h8⟩ := obndS_some H;refine pw_joinS (ρ := Unit) (fun e => ⟨[(1, (.pointer (some ⟨0, 0, none⟩)))], ⟨1, [(0, .rw [(VS 1 (a0.map eI)), (VS 1 (a1.map eI)), (.int .i64 a2), (VS 2 (a3.map e_SI))])], false⟩⟩) r5 ?_ ?_
        · refine pw_so ?_;refine po_all ?_;(conv=>whnf);refine pw_block ?_;refine pw_loop (τ := Int) (fun e => ⟨[(1, (.pointer (some ⟨0, 0, none⟩))), (4, (.int .i64 e))], ⟨1, [(0, .rw [(VS 1 (a0.map eI)), (VS 1 (a1.map eI)), (.int .i64 a2), (VS 2 (a3.map e_SI))])], false⟩⟩) h6 ?_ (fun _ => Nat.le_of_ble_eq_true rfl) ?_
          · exact .sub' (Nat.le_of_ble_eq_true rfl) (.cons rfl (.cons rfl .nil))
          · intro e9 x10 h11;refine pw_seq ?_;refine pw_so ?_;refine po_all ?_;(conv=>whnf);refine pw_cond ?_;(conv=>whnf);refine pbr_oite h11 (fun _ h11 => ?_) (fun _ h11 => ?_)
            · (conv=>whnf);refine pw_skip ?_;(conv=>whnf);refine pw_seq ?_;refine pw_block ?_;refine pw_seq ?_;obtain ⟨r12, h13, h11⟩ := obnd_some h11;refine pw_join (ρ := Bool) (fun e => ⟨[(1, (.pointer (some ⟨0, 0, none⟩))), (4, (.int .i64 e9)), (45, (.bool e))], ⟨1, [(0, .rw [(VS 1 (a0.map eI)), (VS 1 (a1.map eI)), (.int .i64 a2), (VS 2 (a3.map e_SI))])], false⟩⟩) r12 ?_ ?_
              · refine pw_ops ?_;refine po_all ?_;(conv=>whnf);refine pbr_ogrd h13 (fun _ h13 => ?_);(conv=>whnf);refine nth_o (l := a0) h13 (fun x16 _ h13 => ?_);(conv=>whnf);obtain ⟨y17, h18, h13⟩ := obnd_some h13;refine (c15 h18).go ?_;(conv=>whnf);refine pbr_oite h13 (fun _ h13 => ?_) (fun _ h13 => ?_)
                · (conv=>whnf);refine pbr_t (by assumption) ?_;(conv=>whnf);refine pbr_t (by assumption) ?_;(conv=>whnf);refine pbr_t (by assumption) ?_;(conv=>whnf);refine pbr_t (by assumption) ?_;(conv=>whnf);refine pbr_t (by assumption) ?_;(conv=>whnf);refine pbr_t (by assumption) ?_;(conv=>whnf);refine pbr_t (by assumption) ?_;(conv=>whnf);cases h13;exact ⟨(.cons rfl (.cons rfl (.cons rfl .nil))), rfl⟩
                · (conv=>whnf);refine pbr_f (by assumption) ?_;(conv=>whnf);refine pbr_f (by assumption) ?_;(conv=>whnf);refine pbr_f (by assumption) ?_;(conv=>whnf);refine pbr_t (by assumption) ?_;(conv=>whnf);refine nth_o (l := a1) h13 (fun x19 _ h13 => ?_);(conv=>whnf);refine pbr_f (by assumption) ?_;(conv=>whnf);refine pbr_f (by assumption) ?_;(conv=>whnf);obtain ⟨y20, h21, h13⟩ := obnd_some h13;refine (c15 h21).go ?_;(conv=>whnf);refine pbr_f (by assumption) ?_;(conv=>whnf);refine pbr_f (by assumption) ?_;(conv=>whnf);cases h13;exact ⟨(.cons rfl (.cons rfl (.cons rfl .nil))), rfl⟩
              · refine pw_cond ?_;(conv=>whnf);refine pbr_oite h11 (fun _ h11 => ?_) (fun _ h11 => ?_)
                · (conv=>whnf);refine pw_so ?_;refine po_all ?_;(conv=>whnf);refine pw_ret ?_;(conv=>whnf);cases h11;refine ⟨_, rfl, ?_⟩; rintro rfl;(conv=>whnf);obtain rfl := h8 _ rfl; rfl
                · (conv=>whnf);refine pw_skip ?_;(conv=>whnf);refine pw_seq ?_;refine pw_sd ?_;(conv=>whnf);refine pbr_ogrd h11 (fun _ h11 => ?_);(conv=>whnf);refine nth_o (l := a1) h11 (fun x23 _ h11 => ?_);(conv=>whnf);refine pbr_t (by assumption) ?_;(conv=>whnf);refine nth_o (l := a0) h11 (fun x24 _ h11 => ?_);(conv=>whnf);refine pw_cond ?_;(conv=>whnf);refine pbr_oite h11 (fun _ h11 => ?_) (fun _ h11 => ?_)
                  · (conv=>whnf);refine pw_so ?_;refine po_all ?_;(conv=>whnf);refine pw_ret ?_;(conv=>whnf);cases h11;refine ⟨_, rfl, ?_⟩; rintro rfl;(conv=>whnf);obtain rfl := h8 _ rfl; rfl
                  · (conv=>whnf);refine pw_skip ?_;(conv=>whnf);obtain ⟨r26, h27, h11⟩ := obnd_some h11;refine pw_join (ρ := Bool) (fun e => ⟨[(1, (.pointer (some ⟨0, 0, none⟩))), (4, (.int .i64 e9)), (88, (.bool e))], ⟨1, [(0, .rw [(VS 1 (a0.map eI)), (VS 1 (a1.map eI)), (.int .i64 a2), (VS 2 (a3.map e_SI))])], false⟩⟩) r26 ?_ ?_
                    · refine pw_draw ?_;(conv=>whnf);refine pbr_oite h27 (fun _ h27 => ?_) (fun _ h27 => ?_)
                      · (conv=>whnf);refine pbr_t (by assumption) ?_;(conv=>whnf);refine pbr_t (by assumption) ?_;(conv=>whnf);refine pbr_t (by assumption) ?_;(conv=>whnf);refine pbr_t (by assumption) ?_;(conv=>whnf);refine nth_o (l := a0) h27 (fun x30 _ h27 => ?_);(conv=>whnf);refine pbr_t (by assumption) ?_;(conv=>whnf);refine pbr_t (by assumption) ?_;(conv=>whnf);refine pbr_t (by assumption) ?_;(conv=>whnf);refine pbr_t (by assumption) ?_;(conv=>whnf);refine pbr_t (by assumption) ?_;(conv=>whnf);refine pbr_t (by assumption) ?_;(conv=>whnf);refine pbr_ogrd h27 (fun _ h27 => ?_);(conv=>whnf);refine nth_o (l := a0) h27 (fun x31 _ h27 => ?_)
                        (conv=>whnf);refine pbr_t (by assumption) ?_;(conv=>whnf);refine pbr_t (by assumption) ?_;(conv=>whnf);refine pbr_t (by assumption) ?_;(conv=>whnf);refine pbr_oite h27 (fun _ h27 => ?_) (fun _ h27 => ?_)
                        · (conv=>whnf);refine pbr_t (by assumption) ?_;(conv=>whnf);refine pbr_t (by assumption) ?_;(conv=>whnf);refine pbr_t (by assumption) ?_;(conv=>whnf);refine pbr_t (by assumption) ?_;(conv=>whnf);refine pbr_t (by assumption) ?_;(conv=>whnf);refine pbr_t (by assumption) ?_;(conv=>whnf);refine pbr_t (by assumption) ?_;(conv=>whnf);refine pbr_t (by assumption) ?_;(conv=>whnf);refine pbr_t (by assumption) ?_;(conv=>whnf);refine pbr_t (by assumption) ?_;(conv=>whnf);refine pbr_t (by assumption) ?_;(conv=>whnf);refine pbr_t (by assumption) ?_;(conv=>whnf);refine pbr_t (by assumption) ?_;(conv=>whnf);refine pbr_t (by assumption) ?_
                          (conv=>whnf);cases h27;exact ⟨(.cons rfl (.cons rfl (.cons rfl .nil))), rfl⟩
                        · (conv=>whnf);refine pbr_f (by assumption) ?_;(conv=>whnf);refine pbr_f (by assumption) ?_;(conv=>whnf);refine pbr_f (by assumption) ?_;(conv=>whnf);refine pbr_t (by assumption) ?_;(conv=>whnf);refine nth_o (l := a1) h27 (fun x32 _ h27 => ?_);(conv=>whnf);refine pbr_f (by assumption) ?_;(conv=>whnf);refine pbr_f (by assumption) ?_;(conv=>whnf);refine pbr_f (by assumption) ?_;(conv=>whnf);refine pbr_f (by assumption) ?_;(conv=>whnf);refine pbr_f (by assumption) ?_;(conv=>whnf);refine pbr_f (by assumption) ?_;(conv=>whnf);refine pbr_t (by assumption) ?_;(conv=>whnf);refine nth_o (l := a1) h27 (fun x33 _ h27 => ?_)
                          (conv=>whnf);refine pbr_f (by assumption) ?_;(conv=>whnf);refine pbr_f (by assumption) ?_;(conv=>whnf);refine pbr_t (by assumption) ?_;(conv=>whnf);refine pbr_f (by assumption) ?_;(conv=>whnf);refine pbr_t (by assumption) ?_;(conv=>whnf);cases h27;exact ⟨(.cons rfl (.cons rfl (.cons rfl .nil))), rfl⟩
                      · (conv=>whnf);refine pbr_f (by assumption) ?_;(conv=>whnf);refine pbr_f (by assumption) ?_;(conv=>whnf);refine pbr_f (by assumption) ?_;(conv=>whnf);refine pbr_f (by assumption) ?_;(conv=>whnf);refine pbr_f (by assumption) ?_;(conv=>whnf);refine pbr_f (by assumption) ?_;(conv=>whnf);refine pbr_f (by assumption) ?_;(conv=>whnf);refine pbr_f (by assumption) ?_;(conv=>whnf);refine pbr_f (by assumption) ?_;(conv=>whnf);refine pbr_f (by assumption) ?_;(conv=>whnf);refine pbr_f (by assumption) ?_;(conv=>whnf);refine pbr_f (by assumption) ?_;(conv=>whnf);refine pbr_f (by assumption) ?_;(conv=>whnf);refine pbr_f (by assumption) ?_
                        (conv=>whnf);cases h27;exact ⟨(.cons rfl (.cons rfl (.cons rfl .nil))), rfl⟩
                    · refine pw_cond ?_;(conv=>whnf);refine pbr_oite h11 (fun _ h11 => ?_) (fun _ h11 => ?_)
                      · (conv=>whnf);refine pw_so ?_;refine po_all ?_;(conv=>whnf);refine pw_ret ?_;(conv=>whnf);cases h11;refine ⟨_, rfl, ?_⟩; rintro rfl;(conv=>whnf);obtain rfl := h8 _ rfl; rfl
                      · (conv=>whnf);refine pw_skip ?_;(conv=>whnf);refine pw_ops ?_;refine po_all ?_;(conv=>whnf);cases h11;refine ⟨_, rfl, ?_⟩;exact .sub' (Nat.le_of_ble_eq_true rfl) (.cons rfl (.cons rfl .nil))
            · (conv=>whnf);refine pw_exit ?_;(conv=>whnf);cases h11;refine ⟨_, rfl, ?_⟩; rintro rfl;(conv=>whnf);exact ⟨_, rfl, ⟨(.cons rfl .nil), rfl⟩⟩
        · intro r36 hr; have H := h7 _ hr;refine pw_seq ?_;refine pw_so ?_;refine po_all ?_;(conv=>whnf);obtain ⟨y37, h38, H⟩ := obnd_some H;refine (c15 h38).go ?_;(conv=>whnf);refine pw_cond ?_;(conv=>whnf);refine pbr_oite H (fun _ H => ?_) (fun _ H => ?_)
          · (conv=>whnf);refine pw_so ?_;refine po_all ?_;(conv=>whnf);refine pw_ret ?_;(conv=>whnf);cases H; rfl
          · (conv=>whnf);refine pw_skip ?_;(conv=>whnf);refine pw_seq ?_;refine pw_so ?_;refine po_all ?_;(conv=>whnf);refine pw_cond ?_;(conv=>whnf);refine pbr_oite H (fun _ H => ?_) (fun _ H => ?_)
            · (conv=>whnf);refine pw_so ?_;refine po_all ?_;(conv=>whnf);refine pw_ret ?_;(conv=>whnf);cases H; rfl
            · (conv=>whnf);refine pw_skip ?_;(conv=>whnf);obtain ⟨r39, h40, h41, h42⟩ := obndS_some H;refine pw_joinS (ρ := Unit) (fun e => ⟨[], ⟨1, [(0, .rw [(VS 1 (a0.map eI)), (VS 1 (a1.map eI)), (.int .i64 a2), (VS 2 (a3.map e_SI))])], false⟩⟩) r39 ?_ ?_
              · refine pw_so ?_;refine po_all ?_;(conv=>whnf);refine pw_block ?_;refine pw_loop (τ := Int) (fun e => ⟨[(1, (.pointer (some ⟨0, 0, none⟩))), (5, (.int .i64 e))], ⟨1, [(0, .rw [(VS 1 (a0.map eI)), (VS 1 (a1.map eI)), (.int .i64 a2), (VS 2 (a3.map e_SI))])], false⟩⟩) h40 ?_ (fun _ => Nat.le_of_ble_eq_true rfl) ?_
                · exact .sub' (Nat.le_of_ble_eq_true rfl) (.cons rfl (.cons rfl .nil))
                · intro e43 x44 h45;refine pw_seq ?_;refine pw_so ?_;refine po_all ?_;(conv=>whnf);refine pw_cond ?_;(conv=>whnf);refine pbr_oite h45 (fun _ h45 => ?_) (fun _ h45 => ?_)
                  · (conv=>whnf);refine pw_skip ?_;(conv=>whnf);refine pw_seq ?_;refine pw_block ?_;refine pw_seq ?_;refine pw_so ?_;refine po_all ?_;(conv=>whnf);refine pbr_ogrd h45 (fun _ h45 => ?_);(conv=>whnf);refine nth_o (l := a3) h45 (fun x46 _ h45 => ?_);(conv=>whnf);obtain ⟨y47, h48, h45⟩ := obnd_some h45;refine (c91 h48).go ?_;(conv=>whnf);refine pw_cond ?_;(conv=>whnf);refine pbr_oite h45 (fun _ h45 => ?_) (fun _ h45 => ?_)
                    · (conv=>whnf);refine pw_so ?_;refine po_all ?_;(conv=>whnf);refine pw_ret ?_;(conv=>whnf);cases h45;refine ⟨_, rfl, ?_⟩; rintro rfl;(conv=>whnf);obtain rfl := h42 _ rfl; rfl
                    · (conv=>whnf);refine pw_skip ?_;(conv=>whnf);refine pw_seq ?_;refine pw_sd ?_;(conv=>whnf);refine oslH_o (f := e_SI) h45 (fun m50 _ h45 h51 h52 => ?_);refine pbr_t (ile_t h51.1) ?_;(conv=>whnf);refine pbr_t (ile_t (by rw [List.length_map];exact h51.2)) ?_; rw [h52];(conv=>whnf);refine pbr_t (by assumption) ?_;(conv=>whnf);refine nth_o (l := a3) h45 (fun x53 _ h45 => ?_);(conv=>whnf);refine ⟨?_, trivial⟩;(conv=>whnf);obtain ⟨y54, h55, h45⟩ := obnd_some h45;refine (c92 h55).go ?_;(conv=>whnf);refine ⟨by repeat (first | exact trivial | refine And.intro rfl ?_), ?_⟩;(conv=>whnf);refine pw_cond ?_;(conv=>whnf)
                      refine pbr_oite h45 (fun _ h45 => ?_) (fun _ h45 => ?_)
                      · (conv=>whnf);refine pw_so ?_;refine po_all ?_;(conv=>whnf);refine pw_ret ?_;(conv=>whnf);cases h45;refine ⟨_, rfl, ?_⟩; rintro rfl;(conv=>whnf);obtain rfl := h42 _ rfl; rfl
                      · (conv=>whnf);refine pw_skip ?_;(conv=>whnf);refine pw_sd ?_;(conv=>whnf);refine pbr_t (by assumption) ?_;(conv=>whnf);refine nth_o (l := a3) h45 (fun x57 _ h45 => ?_);(conv=>whnf);refine ⟨?_, trivial⟩;(conv=>whnf);obtain ⟨y58, h59, h45⟩ := obnd_some h45;refine (c15 h59).go ?_;(conv=>whnf);refine ⟨by repeat (first | exact trivial | refine And.intro rfl ?_), ?_⟩;(conv=>whnf);refine pw_cond ?_;(conv=>whnf);refine pbr_oite h45 (fun _ h45 => ?_) (fun _ h45 => ?_)
                        · (conv=>whnf);refine pw_so ?_;refine po_all ?_;(conv=>whnf);refine pw_ret ?_;(conv=>whnf);cases h45;refine ⟨_, rfl, ?_⟩; rintro rfl;(conv=>whnf);obtain rfl := h42 _ rfl; rfl
                        · (conv=>whnf);refine pw_skip ?_;(conv=>whnf);refine pw_ops ?_;refine po_all ?_;(conv=>whnf);cases h45;refine ⟨_, rfl, ?_⟩;exact .sub' (Nat.le_of_ble_eq_true rfl) (.cons rfl (.cons rfl .nil))
                  · (conv=>whnf);refine pw_exit ?_;(conv=>whnf);cases h45;refine ⟨_, rfl, ?_⟩; rintro rfl;(conv=>whnf);exact ⟨_, rfl, ⟨.nil, rfl⟩⟩
              · intro r62 hr; have H := h41 _ hr;refine pw_so ?_;refine po_all ?_;(conv=>whnf);refine pw_ret ?_;(conv=>whnf);cases H; rfl

/-- guidevane/guidevaneref09.RulesErr -/
noncomputable def f39  (a0 : List Int) (a1 : List Int) (a2 : Int) (a3 : List (ByteArray × Int)) : Option Int :=
  obnd (f46 a0 a1 a2 a3) fun (y1 : Int × Int) =>
  some y1.2
set_option maxHeartbeats 1000000 in
theorem c39  {a0 : List Int} {a1 : List Int} {a2 : Int} {a3 : List (ByteArray × Int)} {x : Int} (H : f39 a0 a1 a2 a3 = some x) : ICalls E 39 [(.agg ⟨[(VS 1 (a0.map eI)), (VS 1 (a1.map eI)), (.int .i64 a2), (VS 2 (a3.map e_SI))]⟩)] AHeap.none fun v _ => v = (.int .i64 x) := by
  refine icalls_fn (pfnw rfl ?_); unfold f39 at H;(conv=>whnf);refine pw_so ?_;refine po_all ?_;(conv=>whnf);refine pw_so ?_;refine po_all ?_;(conv=>whnf);obtain ⟨y1, h2, H⟩ := obnd_some H;refine (c46 h2).go ?_;(conv=>whnf);refine pw_so ?_;refine po_all ?_;(conv=>whnf);refine pw_ret ?_;(conv=>whnf);cases H; rfl

/-- guidevane/guidevaneref09.DeviationErr -/
noncomputable def f40  (a0 : Int) : Option Int :=
  obnd (f15 a0 (0 : Int) (1000000 : Int)) fun (y1 : Bool) =>
  oite (!y1) (
   some (2 : Int)
    ) (
   some (0 : Int)
    )
set_option maxHeartbeats 1000000 in
theorem c40  {a0 : Int} {x : Int} (H : f40 a0 = some x) : ICalls E 40 [(.int .i64 a0)] AHeap.none fun v _ => v = (.int .i64 x) := by
  refine icalls_fn (pfnw rfl ?_); unfold f40 at H;(conv=>whnf);refine pw_so ?_;refine po_all ?_;(conv=>whnf);refine pw_seq ?_;refine pw_so ?_;refine po_all ?_;(conv=>whnf);obtain ⟨y1, h2, H⟩ := obnd_some H;refine (c15 h2).go ?_;(conv=>whnf);refine pw_cond ?_;(conv=>whnf);refine pbr_oite H (fun _ H => ?_) (fun _ H => ?_)
  · (conv=>whnf);refine pw_so ?_;refine po_all ?_;(conv=>whnf);refine pw_ret ?_;(conv=>whnf);cases H; rfl
  · (conv=>whnf);refine pw_skip ?_;(conv=>whnf);refine pw_so ?_;refine po_all ?_;(conv=>whnf);refine pw_ret ?_;(conv=>whnf);cases H; rfl

/-- guidevane/guidevaneref09.StateErr -/
noncomputable def f48  (a0 : List Int) (_ : List Int) (_ : Int) (_ : List (ByteArray × Int)) (a4 : Int) (a5 : Int) (a6 : Int) : Option Int :=
  obnd (
   obnd (f15 a4 (0 : Int) ((a0.map eI).length : Int)) fun (y5 : Bool) =>
   oite (!y5) (
    some true
     ) (
    obnd (f15 a5 (0 : Int) (1000000 : Int)) fun (y7 : Bool) =>
    some (!y7)
     )
    ) fun (r1 : Bool) =>
  oite r1 (
   some (2 : Int)
    ) (
   obnd (f40 a6) fun (y9 : Int) =>
   oite ((!(ieq y9 (0 : Int)))) (
    some y9
     ) (
    obnd (
     oite ((ieq a4 (0 : Int))) (
      some (!(ieq a5 (0 : Int)))
       ) (
      some false
       )
      ) fun (r11 : Bool) =>
    oite r11 (
     some (13 : Int)
      ) (
     some (0 : Int)
      )
     )
    )
set_option maxHeartbeats 1000000 in
theorem c48  {a0 : List Int} {a1 : List Int} {a2 : Int} {a3 : List (ByteArray × Int)} {a4 : Int} {a5 : Int} {a6 : Int} {x : Int} (H : f48 a0 a1 a2 a3 a4 a5 a6 = some x) : ICalls E 48 [(.agg ⟨[(VS 1 (a0.map eI)), (VS 1 (a1.map eI)), (.int .i64 a2), (VS 2 (a3.map e_SI))]⟩), (.agg ⟨[(.int .i64 a4), (.int .i64 a5), (.int .i64 a6)]⟩)] AHeap.none fun v _ => v = (.int .i64 x) := by
  refine icalls_fn (pfnw rfl ?_); unfold f48 at H;(conv=>whnf);refine pw_so ?_;refine po_all ?_;(conv=>whnf);refine pw_seq ?_;obtain ⟨r1, h2, H⟩ := obnd_some H;refine pw_join (ρ := Bool) (fun e => ⟨[(3, (.pointer (some ⟨1, 0, none⟩))), (18, (.bool e))], ⟨2, [(1, .rw [(.int .i64 a4), (.int .i64 a5), (.int .i64 a6)]), (0, .rw [(VS 1 (a0.map eI)), (VS 1 (a1.map eI)), (.int .i64 a2), (VS 2 (a3.map e_SI))])], false⟩⟩) r1 ?_ ?_
  · refine pw_ops ?_;refine po_all ?_;(conv=>whnf);obtain ⟨y5, h6, h2⟩ := obnd_some h2;refine (c15 h6).go ?_;(conv=>whnf);refine pbr_oite h2 (fun _ h2 => ?_) (fun _ h2 => ?_)
    · (conv=>whnf);refine pbr_t (by assumption) ?_;(conv=>whnf);refine pbr_t (by assumption) ?_;(conv=>whnf);refine pbr_t (by assumption) ?_;(conv=>whnf);refine pbr_t (by assumption) ?_;(conv=>whnf);cases h2;exact ⟨(.cons rfl (.cons rfl .nil)), rfl⟩
    · (conv=>whnf);refine pbr_f (by assumption) ?_;(conv=>whnf);refine pbr_f (by assumption) ?_;(conv=>whnf);obtain ⟨y7, h8, h2⟩ := obnd_some h2;refine (c15 h8).go ?_;(conv=>whnf);refine pbr_f (by assumption) ?_;(conv=>whnf);refine pbr_f (by assumption) ?_;(conv=>whnf);cases h2;exact ⟨(.cons rfl (.cons rfl .nil)), rfl⟩
  · refine pw_cond ?_;(conv=>whnf);refine pbr_oite H (fun _ H => ?_) (fun _ H => ?_)
    · (conv=>whnf);refine pw_so ?_;refine po_all ?_;(conv=>whnf);refine pw_ret ?_;(conv=>whnf);cases H; rfl
    · (conv=>whnf);refine pw_skip ?_;(conv=>whnf);refine pw_seq ?_;refine pw_so ?_;refine po_all ?_;(conv=>whnf);obtain ⟨y9, h10, H⟩ := obnd_some H;refine (c40 h10).go ?_;(conv=>whnf);refine pw_so ?_;refine po_all ?_;(conv=>whnf);refine pw_cond ?_;(conv=>whnf);refine pbr_oite H (fun _ H => ?_) (fun _ H => ?_)
      · (conv=>whnf);refine pw_so ?_;refine po_all ?_;(conv=>whnf);refine pw_ret ?_;(conv=>whnf);cases H; rfl
      · (conv=>whnf);refine pw_skip ?_;(conv=>whnf);refine pw_seq ?_;obtain ⟨r11, h12, H⟩ := obnd_some H;refine pw_join (ρ := Bool) (fun e => ⟨[(32, (.bool e))], ⟨2, [(1, .rw [(.int .i64 a4), (.int .i64 a5), (.int .i64 a6)]), (0, .rw [(VS 1 (a0.map eI)), (VS 1 (a1.map eI)), (.int .i64 a2), (VS 2 (a3.map e_SI))])], false⟩⟩) r11 ?_ ?_
        · refine pw_ops ?_;refine po_all ?_;(conv=>whnf);refine pbr_oite h12 (fun _ h12 => ?_) (fun _ h12 => ?_)
          · (conv=>whnf);refine pbr_t (by assumption) ?_;(conv=>whnf);refine pbr_t (by assumption) ?_;(conv=>whnf);refine pbr_t (by assumption) ?_;(conv=>whnf);cases h12;exact ⟨(.cons rfl .nil), rfl⟩
          · (conv=>whnf);refine pbr_f (by assumption) ?_;(conv=>whnf);refine pbr_f (by assumption) ?_;(conv=>whnf);refine pbr_f (by assumption) ?_;(conv=>whnf);cases h12;exact ⟨(.cons rfl .nil), rfl⟩
        · refine pw_cond ?_;(conv=>whnf);refine pbr_oite H (fun _ H => ?_) (fun _ H => ?_)
          · (conv=>whnf);refine pw_so ?_;refine po_all ?_;(conv=>whnf);refine pw_ret ?_;(conv=>whnf);cases H; rfl
          · (conv=>whnf);refine pw_skip ?_;(conv=>whnf);refine pw_so ?_;refine po_all ?_;(conv=>whnf);refine pw_ret ?_;(conv=>whnf);cases H; rfl

/-- guidevane/guidevaneref09.LowerErr -/
noncomputable def f170  (_ : List Int) (a1 : List Int) (a2 : Int) (a3 : List (ByteArray × Int)) (a4 : Int) (a5 : Int) (a6 : Int) (a7 : ByteArray) (a8 : Int) : Option Int :=
  obnd (f91 a7) fun (y1 : Bool) =>
  oite (!y1) (
   some (4 : Int)
    ) (
   obnd (f92 a3 a7) fun (y3 : Int) =>
   oite ((ilt y3 (0 : Int))) (
    some (6 : Int)
     ) (
    obnd (f15 a8 (0 : Int) (IntKind.i64.wrap (a4 - (1 : Int)))) fun (y5 : Bool) =>
    oite (!y5) (
     some (2 : Int)
      ) (
     ogrd ((ile 0 y3)) (
     obnd (a3[y3.toNat]?) fun (x7 : ByteArray × Int) =>
     oite ((ilt x7.2 a4)) (
      some (18 : Int)
       ) (
      oite ((ilt a5 a2)) (
       some (24 : Int)
        ) (
       obndS (
        oloop (τ := Int) (ρ := (Unit) ⊕ Int) (fun e12 =>
         oite ((ilt e12 a4)) (
          ogrd ((ile 0 e12)) (
          obnd (a1[e12.toNat]?) fun (x15 : Int) =>
          oite ((ile x15 a6)) (
           some (.inr (.inr ((24 : Int))))
            ) (
           some (.inl (IntKind.i64.wrap (e12 + (1 : Int))))
            )
          )
           ) (
          some (.inr (.inl ()))
           )
          ) a8
         ) fun (_ : Unit) =>
       some (0 : Int)
        )
       )
     )
      )
     )
    )
set_option maxHeartbeats 1000000 in
theorem c170  {a0 : List Int} {a1 : List Int} {a2 : Int} {a3 : List (ByteArray × Int)} {a4 : Int} {a5 : Int} {a6 : Int} {a7 : ByteArray} {a8 : Int} {x : Int} (H : f170 a0 a1 a2 a3 a4 a5 a6 a7 a8 = some x) : ICalls E 170 [(.agg ⟨[(VS 1 (a0.map eI)), (VS 1 (a1.map eI)), (.int .i64 a2), (VS 2 (a3.map e_SI))]⟩), (.agg ⟨[(.int .i64 a4), (.int .i64 a5), (.int .i64 a6)]⟩), (.agg ⟨[(.string a7), (.int .i64 a8)]⟩)] AHeap.none fun v _ => v = (.int .i64 x) := by
  refine icalls_fn (pfnw rfl ?_); unfold f170 at H;(conv=>whnf);refine pw_so ?_;refine po_all ?_;(conv=>whnf);refine pw_seq ?_;refine pw_so ?_;refine po_all ?_;(conv=>whnf);obtain ⟨y1, h2, H⟩ := obnd_some H;refine (c91 h2).go ?_;(conv=>whnf);refine pw_cond ?_;(conv=>whnf);refine pbr_oite H (fun _ H => ?_) (fun _ H => ?_)
  · (conv=>whnf);refine pw_so ?_;refine po_all ?_;(conv=>whnf);refine pw_ret ?_;(conv=>whnf);cases H; rfl
  · (conv=>whnf);refine pw_skip ?_;(conv=>whnf);refine pw_so ?_;refine po_all ?_;(conv=>whnf);obtain ⟨y3, h4, H⟩ := obnd_some H;refine (c92 h4).go ?_;(conv=>whnf);refine pw_seq ?_;refine pw_so ?_;refine po_all ?_;(conv=>whnf);refine pw_cond ?_;(conv=>whnf);refine pbr_oite H (fun _ H => ?_) (fun _ H => ?_)
    · (conv=>whnf);refine pw_so ?_;refine po_all ?_;(conv=>whnf);refine pw_ret ?_;(conv=>whnf);cases H; rfl
    · (conv=>whnf);refine pw_skip ?_;(conv=>whnf);refine pw_seq ?_;refine pw_so ?_;refine po_all ?_;(conv=>whnf);obtain ⟨y5, h6, H⟩ := obnd_some H;refine (c15 h6).go ?_;(conv=>whnf);refine pw_cond ?_;(conv=>whnf);refine pbr_oite H (fun _ H => ?_) (fun _ H => ?_)
      · (conv=>whnf);refine pw_so ?_;refine po_all ?_;(conv=>whnf);refine pw_ret ?_;(conv=>whnf);cases H; rfl
      · (conv=>whnf);refine pw_skip ?_;(conv=>whnf);refine pw_seq ?_;refine pw_sd ?_;(conv=>whnf);refine pbr_ogrd H (fun _ H => ?_);(conv=>whnf);refine nth_o (l := a3) H (fun x7 _ H => ?_);(conv=>whnf);refine pw_cond ?_;(conv=>whnf);refine pbr_oite H (fun _ H => ?_) (fun _ H => ?_)
        · (conv=>whnf);refine pw_so ?_;refine po_all ?_;(conv=>whnf);refine pw_ret ?_;(conv=>whnf);cases H; rfl
        · (conv=>whnf);refine pw_skip ?_;(conv=>whnf);refine pw_seq ?_;refine pw_so ?_;refine po_all ?_;(conv=>whnf);refine pw_cond ?_;(conv=>whnf);refine pbr_oite H (fun _ H => ?_) (fun _ H => ?_)
          · (conv=>whnf);refine pw_so ?_;refine po_all ?_;(conv=>whnf);refine pw_ret ?_;(conv=>whnf);cases H; rfl
          · (conv=>whnf);refine pw_skip ?_;(conv=>whnf);obtain ⟨r8, h9, h10, h11⟩ := obndS_some H;refine pw_joinS (ρ := Unit) (fun e => ⟨[], ⟨3, [(2, .rw [(.string a7), (.int .i64 a8)]), (1, .rw [(.int .i64 a4), (.int .i64 a5), (.int .i64 a6)]), (0, .rw [(VS 1 (a0.map eI)), (VS 1 (a1.map eI)), (.int .i64 a2), (VS 2 (a3.map e_SI))])], false⟩⟩) r8 ?_ ?_
            · refine pw_so ?_;refine po_all ?_;(conv=>whnf);refine pw_block ?_;refine pw_loop (τ := Int) (fun e => ⟨[(3, (.pointer (some ⟨0, 0, none⟩))), (4, (.pointer (some ⟨1, 0, none⟩))), (8, (.int .i64 e))], ⟨3, [(2, .rw [(.string a7), (.int .i64 a8)]), (1, .rw [(.int .i64 a4), (.int .i64 a5), (.int .i64 a6)]), (0, .rw [(VS 1 (a0.map eI)), (VS 1 (a1.map eI)), (.int .i64 a2), (VS 2 (a3.map e_SI))])], false⟩⟩) h9 ?_ (fun _ => Nat.le_of_ble_eq_true rfl) ?_
              · exact .sub' (Nat.le_of_ble_eq_true rfl) (.cons rfl (.cons rfl (.cons rfl .nil)))
              · intro e12 x13 h14;refine pw_seq ?_;refine pw_so ?_;refine po_all ?_;(conv=>whnf);refine pw_cond ?_;(conv=>whnf);refine pbr_oite h14 (fun _ h14 => ?_) (fun _ h14 => ?_)
                · (conv=>whnf);refine pw_skip ?_;(conv=>whnf);refine pw_seq ?_;refine pw_block ?_;refine pw_sd ?_;(conv=>whnf);refine pbr_ogrd h14 (fun _ h14 => ?_);(conv=>whnf);refine nth_o (l := a1) h14 (fun x15 _ h14 => ?_);(conv=>whnf);refine pw_cond ?_;(conv=>whnf);refine pbr_oite h14 (fun _ h14 => ?_) (fun _ h14 => ?_)
                  · (conv=>whnf);refine pw_so ?_;refine po_all ?_;(conv=>whnf);refine pw_ret ?_;(conv=>whnf);cases h14;refine ⟨_, rfl, ?_⟩; rintro rfl;(conv=>whnf);obtain rfl := h11 _ rfl; rfl
                  · (conv=>whnf);refine pw_skip ?_;(conv=>whnf);refine pw_ops ?_;refine po_all ?_;(conv=>whnf);cases h14;refine ⟨_, rfl, ?_⟩;exact .sub' (Nat.le_of_ble_eq_true rfl) (.cons rfl (.cons rfl (.cons rfl .nil)))
                · (conv=>whnf);refine pw_exit ?_;(conv=>whnf);cases h14;refine ⟨_, rfl, ?_⟩; rintro rfl;(conv=>whnf);exact ⟨_, rfl, ⟨.nil, rfl⟩⟩
            · intro r18 hr; have H := h10 _ hr;refine pw_so ?_;refine po_all ?_;(conv=>whnf);refine pw_ret ?_;(conv=>whnf);cases H; rfl

/-- guidevane/guidevaneref09.Lowered -/
noncomputable def f171  (_ : Int) (_ : Int) (a2 : Int) (_ : ByteArray) (a4 : Int) : Option (Int × Int × Int) :=
  some (a4, (0 : Int), a2)
set_option maxHeartbeats 1000000 in
theorem c171  {a0 : Int} {a1 : Int} {a2 : Int} {a3 : ByteArray} {a4 : Int} {x : Int × Int × Int} (H : f171 a0 a1 a2 a3 a4 = some x) : ICalls E 171 [(.agg ⟨[(.int .i64 a0), (.int .i64 a1), (.int .i64 a2)]⟩), (.agg ⟨[(.string a3), (.int .i64 a4)]⟩)] AHeap.none fun v _ => v = (.agg ⟨[(.int .i64 x.1), (.int .i64 x.2.1), (.int .i64 x.2.2)]⟩) := by
  refine icalls_fn (pfnw rfl ?_); unfold f171 at H;(conv=>whnf);refine pw_so ?_;refine po_all ?_;(conv=>whnf);refine pw_so ?_;refine po_all ?_;(conv=>whnf);refine pw_ret ?_;(conv=>whnf);cases H; rfl

/-- guidevane/guidevanelaw09.DamLowers -/
noncomputable def f164  (a0 : List Int) (a1 : List Int) (a2 : Int) (a3 : List (ByteArray × Int)) (a4 : Int) (a5 : Int) (a6 : Int) (a7 : ByteArray) (a8 : Int) : Option Bool :=
  obnd (f10) fun (y1 : Bool) =>
  oite (!y1) (
   some false
    ) (
   obnd (
    obnd (f35 a0 a1 a2 a3) fun (y7 : Bool) =>
    oite (!y7) (
     some true
      ) (
     some (ilt (30 : Int) (a7.size : Int))
      )
     ) fun (r3 : Bool) =>
   oite r3 (
    some true
     ) (
    obnd (
     obnd (f37 a0 a1 a2 a3) fun (y13 : (List Int) × (List Int) × Int × (List (ByteArray × Int))) =>
     obnd (f169 y13.1 y13.2.1 y13.2.2.1 y13.2.2.2 a4 a5 a6 a7 a8) fun (y15 : Int × Int × Int × Int) =>
     some (y15.2.2.2, y15.1, y15.2.1, y15.2.2.1)
      ) fun (r9 : Int × Int × Int × Int) =>
    obnd (f39 a0 a1 a2 a3) fun (y17 : Int) =>
    obnd (
     oite ((ieq y17 (0 : Int))) (
      obnd (f48 a0 a1 a2 a3 a4 a5 a6) fun (y23 : Int) =>
      some y23
       ) (
      some y17
       )
      ) fun (r19 : Int) =>
    obnd (
     oite ((ieq r19 (0 : Int))) (
      obnd (f170 a0 a1 a2 a3 a4 a5 a6 a7 a8) fun (y29 : Int) =>
      some y29
       ) (
      some r19
       )
      ) fun (r25 : Int) =>
    oite ((!(ieq r25 (0 : Int)))) (
     obnd (
      oite ((ieq r9.1 r25)) (
       some ((ieq r9.2.1 (0 : Int)) && ((ieq r9.2.2.1 (0 : Int)) && ((ieq r9.2.2.2 (0 : Int)) && true)))
        ) (
       some false
        )
       ) fun (r31 : Bool) =>
     some r31
      ) (
     oite ((ieq r9.1 (0 : Int))) (
      obnd (f171 a4 a5 a6 a7 a8) fun (y33 : Int × Int × Int) =>
      some ((ieq r9.2.1 y33.1) && ((ieq r9.2.2.1 y33.2.1) && ((ieq r9.2.2.2 y33.2.2) && true)))
       ) (
      some false
       )
      )
     )
    )
set_option maxHeartbeats 1000000 in
theorem c164  {a0 : List Int} {a1 : List Int} {a2 : Int} {a3 : List (ByteArray × Int)} {a4 : Int} {a5 : Int} {a6 : Int} {a7 : ByteArray} {a8 : Int} {x : Bool} (H : f164 a0 a1 a2 a3 a4 a5 a6 a7 a8 = some x) : ICalls E 164 [(.agg ⟨[(VS 1 (a0.map eI)), (VS 1 (a1.map eI)), (.int .i64 a2), (VS 2 (a3.map e_SI))]⟩), (.agg ⟨[(.int .i64 a4), (.int .i64 a5), (.int .i64 a6)]⟩), (.agg ⟨[(.string a7), (.int .i64 a8)]⟩)] AHeap.none fun v _ => v = (.bool x) := by
  refine icalls_fn (pfnw rfl ?_); unfold f164 at H;(conv=>whnf);refine pw_so ?_;refine po_all ?_;(conv=>whnf);refine pw_seq ?_;refine pw_so ?_;refine po_all ?_;(conv=>whnf);obtain ⟨y1, h2, H⟩ := obnd_some H;refine (c10 h2).go ?_;(conv=>whnf);refine pw_cond ?_;(conv=>whnf);refine pbr_oite H (fun _ H => ?_) (fun _ H => ?_)
  · (conv=>whnf);refine pw_so ?_;refine po_all ?_;(conv=>whnf);refine pw_ret ?_;(conv=>whnf);cases H; rfl
  · (conv=>whnf);refine pw_skip ?_;(conv=>whnf);refine pw_seq ?_;obtain ⟨r3, h4, H⟩ := obnd_some H;refine pw_join (ρ := Bool) (fun e => ⟨[(3, (.pointer (some ⟨0, 0, none⟩))), (4, (.pointer (some ⟨1, 0, none⟩))), (5, (.pointer (some ⟨2, 0, none⟩))), (20, (.bool e))], ⟨3, [(2, .rw [(.string a7), (.int .i64 a8)]), (1, .rw [(.int .i64 a4), (.int .i64 a5), (.int .i64 a6)]), (0, .rw [(VS 1 (a0.map eI)), (VS 1 (a1.map eI)), (.int .i64 a2), (VS 2 (a3.map e_SI))])], false⟩⟩) r3 ?_ ?_
    · refine pw_ops ?_;refine po_all ?_;(conv=>whnf);obtain ⟨y7, h8, h4⟩ := obnd_some h4;refine (c35 h8).go ?_;(conv=>whnf);refine pbr_oite h4 (fun _ h4 => ?_) (fun _ h4 => ?_)
      · (conv=>whnf);refine pbr_t (by assumption) ?_;(conv=>whnf);refine pbr_t (by assumption) ?_;(conv=>whnf);refine pbr_t (by assumption) ?_;(conv=>whnf);refine pbr_t (by assumption) ?_;(conv=>whnf);cases h4;exact ⟨(.cons rfl (.cons rfl (.cons rfl (.cons rfl .nil)))), rfl⟩
      · (conv=>whnf);refine pbr_f (by assumption) ?_;(conv=>whnf);refine pbr_f (by assumption) ?_;(conv=>whnf);refine pbr_f (by assumption) ?_;(conv=>whnf);refine pbr_f (by assumption) ?_;(conv=>whnf);cases h4;exact ⟨(.cons rfl (.cons rfl (.cons rfl (.cons rfl .nil)))), rfl⟩
    · refine pw_cond ?_;(conv=>whnf);refine pbr_oite H (fun _ H => ?_) (fun _ H => ?_)
      · (conv=>whnf);refine pw_so ?_;refine po_all ?_;(conv=>whnf);refine pw_ret ?_;(conv=>whnf);cases H; rfl
      · (conv=>whnf);refine pw_skip ?_;(conv=>whnf);obtain ⟨r9, h10, H⟩ := obnd_some H;refine pw_join (ρ := Int × Int × Int × Int) (fun e => ⟨[(3, (.pointer (some ⟨0, 0, none⟩))), (4, (.pointer (some ⟨1, 0, none⟩))), (5, (.pointer (some ⟨2, 0, none⟩))), (7, (.pointer (some ⟨3, 0, none⟩))), (8, (.int .i64 e.1))], ⟨4, [(3, .rw [(.int .i64 e.2.1), (.int .i64 e.2.2.1), (.int .i64 e.2.2.2)]), (2, .rw [(.string a7), (.int .i64 a8)]), (1, .rw [(.int .i64 a4), (.int .i64 a5), (.int .i64 a6)]), (0, .rw [(VS 1 (a0.map eI)), (VS 1 (a1.map eI)), (.int .i64 a2), (VS 2 (a3.map e_SI))])], false⟩⟩) r9 ?_ ?_
        · refine pw_draw ?_;(conv=>whnf);refine ⟨?_, ?_⟩
          · (conv=>whnf);obtain ⟨y13, h14, h10⟩ := obnd_some h10;refine (c37 h14).go ?_;(conv=>whnf);refine ⟨by repeat (first | exact trivial | refine And.intro rfl ?_), ?_⟩;(conv=>whnf);refine ⟨?_, ?_⟩
            · (conv=>whnf);obtain ⟨y15, h16, h10⟩ := obnd_some h10;refine (c169 h16).go ?_;(conv=>whnf);refine ⟨by repeat (first | exact trivial | refine And.intro rfl ?_), ?_⟩;(conv=>whnf);refine ⟨?_, trivial⟩;(conv=>whnf);refine ⟨by repeat (first | exact trivial | refine And.intro rfl ?_), ?_⟩;(conv=>whnf);refine ⟨?_, trivial⟩;(conv=>whnf);refine ⟨by repeat (first | exact trivial | refine And.intro rfl ?_), ?_⟩;(conv=>whnf);cases h10;exact ⟨(.cons rfl (.cons rfl (.cons rfl (.cons rfl (.cons rfl .nil))))), rfl⟩
            · obtain ⟨y15, h16, h10⟩ := obnd_some h10;(conv=>whnf);refine ⟨?_, trivial⟩;(conv=>whnf);refine ⟨by repeat (first | exact trivial | refine And.intro rfl ?_), ?_⟩;(conv=>whnf);refine ⟨?_, trivial⟩;(conv=>whnf);refine (c169 h16).go ?_;(conv=>whnf);refine ⟨by repeat (first | exact trivial | refine And.intro rfl ?_), ?_⟩;(conv=>whnf);refine ⟨?_, trivial⟩;(conv=>whnf);refine ⟨by repeat (first | exact trivial | refine And.intro rfl ?_), ?_⟩;(conv=>whnf);cases h10;exact ⟨(.cons rfl (.cons rfl (.cons rfl (.cons rfl (.cons rfl .nil))))), rfl⟩
          · obtain ⟨y13, h14, h10⟩ := obnd_some h10;obtain ⟨y15, h16, h10⟩ := obnd_some h10;(conv=>whnf);refine ⟨?_, trivial⟩;(conv=>whnf);refine ⟨by repeat (first | exact trivial | refine And.intro rfl ?_), ?_⟩;(conv=>whnf);refine ⟨?_, trivial⟩;(conv=>whnf);refine (c37 h14).go ?_;(conv=>whnf);refine ⟨by repeat (first | exact trivial | refine And.intro rfl ?_), ?_⟩;(conv=>whnf);refine ⟨?_, trivial⟩;(conv=>whnf);refine (c169 h16).go ?_;(conv=>whnf);refine ⟨by repeat (first | exact trivial | refine And.intro rfl ?_), ?_⟩;(conv=>whnf);refine ⟨?_, trivial⟩;(conv=>whnf);refine ⟨by repeat (first | exact trivial | refine And.intro rfl ?_), ?_⟩
            (conv=>whnf);cases h10;exact ⟨(.cons rfl (.cons rfl (.cons rfl (.cons rfl (.cons rfl .nil))))), rfl⟩
        · refine pw_so ?_;refine po_all ?_;(conv=>whnf);obtain ⟨y17, h18, H⟩ := obnd_some H;refine (c39 h18).go ?_;(conv=>whnf);obtain ⟨r19, h20, H⟩ := obnd_some H;refine pw_join (ρ := Int) (fun e => ⟨[(3, (.pointer (some ⟨0, 0, none⟩))), (4, (.pointer (some ⟨1, 0, none⟩))), (5, (.pointer (some ⟨2, 0, none⟩))), (7, (.pointer (some ⟨3, 0, none⟩))), (8, (.int .i64 r9.1)), (9, (.int .i64 e))], ⟨4, [(3, .rw [(.int .i64 r9.2.1), (.int .i64 r9.2.2.1), (.int .i64 r9.2.2.2)]), (2, .rw [(.string a7), (.int .i64 a8)]), (1, .rw [(.int .i64 a4), (.int .i64 a5), (.int .i64 a6)]), (0, .rw [(VS 1 (a0.map eI)), (VS 1 (a1.map eI)), (.int .i64 a2), (VS 2 (a3.map e_SI))])], false⟩⟩) r19 ?_ ?_
          · refine pw_so ?_;refine po_all ?_;(conv=>whnf);refine pw_cond ?_;(conv=>whnf);refine pbr_oite h20 (fun _ h20 => ?_) (fun _ h20 => ?_)
            · (conv=>whnf);refine pw_ops ?_;refine po_all ?_;(conv=>whnf);obtain ⟨y23, h24, h20⟩ := obnd_some h20;refine (c48 h24).go ?_;(conv=>whnf);cases h20;exact ⟨(.cons rfl (.cons rfl (.cons rfl (.cons rfl (.cons rfl (.cons rfl .nil)))))), rfl⟩
            · (conv=>whnf);refine pw_skip ?_;(conv=>whnf);cases h20;exact ⟨(.cons rfl (.cons rfl (.cons rfl (.cons rfl (.cons rfl (.cons rfl .nil)))))), rfl⟩
          · obtain ⟨r25, h26, H⟩ := obnd_some H;refine pw_join (ρ := Int) (fun e => ⟨[(4, (.pointer (some ⟨1, 0, none⟩))), (5, (.pointer (some ⟨2, 0, none⟩))), (7, (.pointer (some ⟨3, 0, none⟩))), (8, (.int .i64 r9.1)), (9, (.int .i64 e))], ⟨4, [(3, .rw [(.int .i64 r9.2.1), (.int .i64 r9.2.2.1), (.int .i64 r9.2.2.2)]), (2, .rw [(.string a7), (.int .i64 a8)]), (1, .rw [(.int .i64 a4), (.int .i64 a5), (.int .i64 a6)]), (0, .rw [(VS 1 (a0.map eI)), (VS 1 (a1.map eI)), (.int .i64 a2), (VS 2 (a3.map e_SI))])], false⟩⟩) r25 ?_ ?_
            · refine pw_so ?_;refine po_all ?_;(conv=>whnf);refine pw_cond ?_;(conv=>whnf);refine pbr_oite h26 (fun _ h26 => ?_) (fun _ h26 => ?_)
              · (conv=>whnf);refine pw_ops ?_;refine po_all ?_;(conv=>whnf);obtain ⟨y29, h30, h26⟩ := obnd_some h26;refine (c170 h30).go ?_;(conv=>whnf);cases h26;exact ⟨(.cons rfl (.cons rfl (.cons rfl (.cons rfl (.cons rfl .nil))))), rfl⟩
              · (conv=>whnf);refine pw_skip ?_;(conv=>whnf);cases h26;exact ⟨(.cons rfl (.cons rfl (.cons rfl (.cons rfl (.cons rfl .nil))))), rfl⟩
            · refine pw_seq ?_;refine pw_so ?_;refine po_all ?_;(conv=>whnf);refine pw_cond ?_;(conv=>whnf);refine pbr_oite H (fun _ H => ?_) (fun _ H => ?_)
              · (conv=>whnf);refine pw_so ?_;refine po_ops 4 ?_;(conv=>whnf);obtain ⟨r31, h32, H⟩ := obnd_some H;refine po_seg (τ := Bool) 4 (fun e => ⟨[(51, (.bool e))], ⟨4, [(3, .rw [(.int .i64 r9.2.1), (.int .i64 r9.2.2.1), (.int .i64 r9.2.2.2)]), (2, .rw [(.string a7), (.int .i64 a8)]), (1, .rw [(.int .i64 a4), (.int .i64 a5), (.int .i64 a6)]), (0, .rw [(VS 1 (a0.map eI)), (VS 1 (a1.map eI)), (.int .i64 a2), (VS 2 (a3.map e_SI))])], false⟩⟩) r31 ?_ ?_
                · refine po_all ?_;(conv=>whnf);refine pbr_oite h32 (fun _ h32 => ?_) (fun _ h32 => ?_)
                  · (conv=>whnf);refine pbr_t (by assumption) ?_;(conv=>whnf);refine pbr_t (by assumption) ?_;(conv=>whnf);refine pbr_t (by assumption) ?_;(conv=>whnf);cases h32;exact ⟨(.cons rfl .nil), rfl⟩
                  · (conv=>whnf);refine pbr_f (by assumption) ?_;(conv=>whnf);refine pbr_f (by assumption) ?_;(conv=>whnf);refine pbr_f (by assumption) ?_;(conv=>whnf);cases h32;exact ⟨(.cons rfl .nil), rfl⟩
                · refine po_all ?_;(conv=>whnf);refine pw_ret ?_;(conv=>whnf);cases H; rfl
              · (conv=>whnf);refine pw_skip ?_;(conv=>whnf);refine pw_sd ?_;(conv=>whnf);refine pbr_oite H (fun _ H => ?_) (fun _ H => ?_)
                · (conv=>whnf);refine pbr_t (by assumption) ?_;(conv=>whnf);refine pbr_t (by assumption) ?_;(conv=>whnf);refine ⟨?_, trivial⟩;(conv=>whnf);refine pbr_t (by assumption) ?_;(conv=>whnf);obtain ⟨y33, h34, H⟩ := obnd_some H;refine (c171 h34).go ?_;(conv=>whnf);refine ⟨by repeat (first | exact trivial | refine And.intro rfl ?_), ?_⟩;(conv=>whnf);refine pbr_t (by assumption) ?_;(conv=>whnf);refine pbr_t (by assumption) ?_;(conv=>whnf);refine pw_ret ?_;(conv=>whnf);cases H; rfl
                · (conv=>whnf);refine pbr_f (by assumption) ?_;(conv=>whnf);refine pbr_f (by assumption) ?_;(conv=>whnf);refine ⟨?_, trivial⟩;(conv=>whnf);refine pbr_f (by assumption) ?_;(conv=>whnf);refine pbr_f (by assumption) ?_;(conv=>whnf);refine pbr_f (by assumption) ?_;(conv=>whnf);refine pw_ret ?_;(conv=>whnf);cases H; rfl

/-- cmp.isNaN[int] -/
noncomputable def f121  (a0 : Int) : Option Bool :=
  some (!(ieq a0 a0))
set_option maxHeartbeats 1000000 in
theorem c121  {a0 : Int} {x : Bool} (H : f121 a0 = some x) : ICalls E 121 [(.int .i64 a0)] AHeap.none fun v _ => v = (.bool x) := by
  refine icalls_fn (pfnw rfl ?_); unfold f121 at H;(conv=>whnf);refine pw_so ?_;refine po_all ?_;(conv=>whnf);refine pw_so ?_;refine po_all ?_;(conv=>whnf);refine pw_ret ?_;(conv=>whnf);cases H; rfl

/-- cmp.Less[int] -/
noncomputable def f122  (a0 : Int) (a1 : Int) : Option Bool :=
  obnd (f121 a0) fun (y1 : Bool) =>
  obnd (
   oite y1 (
    obnd (f121 a1) fun (y5 : Bool) =>
    some (!y5)
     ) (
    some false
     )
    ) fun (r3 : Bool) =>
  obnd (
   oite r3 (
    some true
     ) (
    some (ilt a0 a1)
     )
    ) fun (r7 : Bool) =>
  some r7
set_option maxHeartbeats 1000000 in
theorem c122  {a0 : Int} {a1 : Int} {x : Bool} (H : f122 a0 a1 = some x) : ICalls E 122 [(.int .i64 a0), (.int .i64 a1)] AHeap.none fun v _ => v = (.bool x) := by
  refine icalls_fn (pfnw rfl ?_); unfold f122 at H;(conv=>whnf);refine pw_so ?_;refine po_all ?_;(conv=>whnf);refine pw_so ?_;refine po_ops 3 ?_;(conv=>whnf);obtain ⟨y1, h2, H⟩ := obnd_some H;refine (c121 h2).go ?_;(conv=>whnf);obtain ⟨r3, h4, H⟩ := obnd_some H;refine po_seg (τ := Bool) 4 (fun e => ⟨[(0, (.int .i64 a0)), (1, (.int .i64 a1)), (11, (.bool e))], ⟨0, [], false⟩⟩) r3 ?_ ?_
  · refine po_all ?_;(conv=>whnf);refine pbr_oite h4 (fun _ h4 => ?_) (fun _ h4 => ?_)
    · (conv=>whnf);refine pbr_t (by assumption) ?_;(conv=>whnf);obtain ⟨y5, h6, h4⟩ := obnd_some h4;refine (c121 h6).go ?_;(conv=>whnf);refine pbr_t (by assumption) ?_;(conv=>whnf);refine pbr_t (by assumption) ?_;(conv=>whnf);cases h4;exact ⟨(.cons rfl (.cons rfl (.cons rfl .nil))), rfl⟩
    · (conv=>whnf);refine pbr_f (by assumption) ?_;(conv=>whnf);refine pbr_f (by assumption) ?_;(conv=>whnf);refine pbr_f (by assumption) ?_;(conv=>whnf);cases h4;exact ⟨(.cons rfl (.cons rfl (.cons rfl .nil))), rfl⟩
  · refine po_ops 1 ?_;(conv=>whnf);obtain ⟨r7, h8, H⟩ := obnd_some H;refine po_seg (τ := Bool) 4 (fun e => ⟨[(16, (.bool e))], ⟨0, [], false⟩⟩) r7 ?_ ?_
    · refine po_all ?_;(conv=>whnf);refine pbr_oite h8 (fun _ h8 => ?_) (fun _ h8 => ?_)
      · (conv=>whnf);refine pbr_t (by assumption) ?_;(conv=>whnf);refine pbr_t (by assumption) ?_;(conv=>whnf);refine pbr_t (by assumption) ?_;(conv=>whnf);cases h8;exact ⟨(.cons rfl .nil), rfl⟩
      · (conv=>whnf);refine pbr_f (by assumption) ?_;(conv=>whnf);refine pbr_f (by assumption) ?_;(conv=>whnf);refine pbr_f (by assumption) ?_;(conv=>whnf);cases h8;exact ⟨(.cons rfl .nil), rfl⟩
    · refine po_all ?_;(conv=>whnf);refine pw_ret ?_;(conv=>whnf);cases H; rfl

/-- slices.isNaN[int] -/
noncomputable def f123  (a0 : Int) : Option Bool :=
  some (!(ieq a0 a0))
set_option maxHeartbeats 1000000 in
theorem c123  {a0 : Int} {x : Bool} (H : f123 a0 = some x) : ICalls E 123 [(.int .i64 a0)] AHeap.none fun v _ => v = (.bool x) := by
  refine icalls_fn (pfnw rfl ?_); unfold f123 at H;(conv=>whnf);refine pw_so ?_;refine po_all ?_;(conv=>whnf);refine pw_so ?_;refine po_all ?_;(conv=>whnf);refine pw_ret ?_;(conv=>whnf);cases H; rfl

/-- slices.BinarySearch[[]int,int] -/
noncomputable def f112  (a0 : List Int) (a1 : Int) : Option (Int × Bool) :=
  obnd (
   oloop (τ := Int × Int) (ρ := Int) (fun e5 =>
    oite ((ilt e5.1 e5.2)) (
     ogrd ((ile 0 (IntKind.i64.wrap ((IntKind.u64.wrap (IntKind.i64.wrap (e5.1 + e5.2))).fdiv (2 ^ (min (1 : Int).toNat (IntKind.bits .u64))))))) (
     obnd (a0[(IntKind.i64.wrap ((IntKind.u64.wrap (IntKind.i64.wrap (e5.1 + e5.2))).fdiv (2 ^ (min (1 : Int).toNat (IntKind.bits .u64))))).toNat]?) fun (x8 : Int) =>
     obnd (f122 x8 a1) fun (y9 : Bool) =>
     oite y9 (
      some (.inl (((IntKind.i64.wrap ((IntKind.i64.wrap ((IntKind.u64.wrap (IntKind.i64.wrap (e5.1 + e5.2))).fdiv (2 ^ (min (1 : Int).toNat (IntKind.bits .u64))))) + (1 : Int))), e5.2)))
       ) (
      some (.inl ((e5.1, (IntKind.i64.wrap ((IntKind.u64.wrap (IntKind.i64.wrap (e5.1 + e5.2))).fdiv (2 ^ (min (1 : Int).toNat (IntKind.bits .u64))))))))
       )
     )
      ) (
     some (.inr (e5.1))
      )
     ) (((0 : Int), ((a0.map eI).length : Int)))
    ) fun (r1 : Int) =>
  obnd (
   oite ((ilt r1 ((a0.map eI).length : Int))) (
    ogrd ((ile 0 r1)) (
    obnd (a0[r1.toNat]?) fun (x14 : Int) =>
    oite ((ieq x14 a1)) (
     some true
      ) (
     obnd (a0[r1.toNat]?) fun (x15 : Int) =>
     obnd (f123 x15) fun (y16 : Bool) =>
     oite y16 (
      obnd (f123 a1) fun (y18 : Bool) =>
      some y18
       ) (
      some false
       )
      )
    )
     ) (
    some false
     )
    ) fun (r12 : Bool) =>
  some (r1, r12)
set_option maxHeartbeats 1000000 in
theorem c112  {a0 : List Int} {a1 : Int} {x : Int × Bool} (H : f112 a0 a1 = some x) : ICalls E 112 [(VS 1 (a0.map eI)), (.int .i64 a1)] AHeap.none fun v _ => v = (.tuple ⟨[(.int .i64 x.1), (.bool x.2)]⟩) := by
  refine icalls_fn (pfnw rfl ?_); unfold f112 at H;(conv=>whnf);refine pw_so ?_;refine po_all ?_;(conv=>whnf);refine pw_so ?_;refine po_all ?_;(conv=>whnf);refine pw_so ?_;refine po_all ?_;(conv=>whnf);obtain ⟨r1, h2, H⟩ := obnd_some H;refine pw_join (ρ := Int) (fun e => ⟨[(0, (VS 1 (a0.map eI))), (1, (.int .i64 a1)), (6, (.int .i64 ((a0.map eI).length : Int))), (7, (.int .i64 e))], ⟨0, [], false⟩⟩) r1 ?_ ?_
  · refine pw_block ?_;refine pw_loop (τ := Int × Int) (fun e => ⟨[(0, (VS 1 (a0.map eI))), (1, (.int .i64 a1)), (6, (.int .i64 ((a0.map eI).length : Int))), (7, (.int .i64 e.1)), (8, (.int .i64 e.2))], ⟨0, [], false⟩⟩) h2 ?_ (fun _ => Nat.le_of_ble_eq_true rfl) ?_
    · exact .sub' (Nat.le_of_ble_eq_true rfl) (.cons rfl (.cons rfl (.cons rfl (.cons rfl (.cons rfl .nil)))))
    · intro e5 x6 h7;refine pw_seq ?_;refine pw_so ?_;refine po_all ?_;(conv=>whnf);refine pw_cond ?_;(conv=>whnf);refine pbr_oite h7 (fun _ h7 => ?_) (fun _ h7 => ?_)
      · (conv=>whnf);refine pw_skip ?_;(conv=>whnf);refine pw_block ?_;refine pw_so ?_;refine po_all ?_;(conv=>whnf);refine pw_so ?_;refine po_all ?_;(conv=>whnf);refine pbr_ogrd h7 (fun _ h7 => ?_);(conv=>whnf);refine nth_o (l := a0) h7 (fun x8 _ h7 => ?_);(conv=>whnf);obtain ⟨y9, h10, h7⟩ := obnd_some h7;refine (c122 h10).go ?_;(conv=>whnf);refine pw_cond ?_;(conv=>whnf);refine pbr_oite h7 (fun _ h7 => ?_) (fun _ h7 => ?_)
        · (conv=>whnf);refine pw_ops ?_;refine po_all ?_;(conv=>whnf);cases h7;refine ⟨_, rfl, ?_⟩;exact .sub' (Nat.le_of_ble_eq_true rfl) (.cons rfl (.cons rfl (.cons rfl (.cons rfl (.cons rfl .nil)))))
        · (conv=>whnf);refine pw_ops ?_;refine po_all ?_;(conv=>whnf);cases h7;refine ⟨_, rfl, ?_⟩;exact .sub' (Nat.le_of_ble_eq_true rfl) (.cons rfl (.cons rfl (.cons rfl (.cons rfl (.cons rfl .nil)))))
      · (conv=>whnf);refine pw_exit ?_;(conv=>whnf);cases h7;refine ⟨_, rfl, ?_⟩; rintro rfl;(conv=>whnf);exact ⟨(.cons rfl (.cons rfl (.cons rfl (.cons rfl .nil)))), rfl⟩
  · refine pw_so ?_;refine po_ops 5 ?_;(conv=>whnf);obtain ⟨r12, h13, H⟩ := obnd_some H;refine po_seg (τ := Bool) 18 (fun e => ⟨[(31, (.int .i64 r1)), (53, (.bool e))], ⟨0, [], false⟩⟩) r12 ?_ ?_
    · refine po_all ?_;(conv=>whnf);refine pbr_oite h13 (fun _ h13 => ?_) (fun _ h13 => ?_)
      · (conv=>whnf);refine pbr_t (by assumption) ?_;(conv=>whnf);refine pbr_t (by assumption) ?_;(conv=>whnf);refine pbr_ogrd h13 (fun _ h13 => ?_);(conv=>whnf);refine nth_o (l := a0) h13 (fun x14 _ h13 => ?_);(conv=>whnf);refine pbr_t (by assumption) ?_;(conv=>whnf);refine pbr_t (by assumption) ?_;(conv=>whnf);refine pbr_t (by assumption) ?_;(conv=>whnf);refine pbr_t (by assumption) ?_;(conv=>whnf);refine pbr_oite h13 (fun _ h13 => ?_) (fun _ h13 => ?_)
        · (conv=>whnf);refine pbr_t (by assumption) ?_;(conv=>whnf);refine pbr_t (by assumption) ?_;(conv=>whnf);refine pbr_t (by assumption) ?_;(conv=>whnf);refine pbr_t (by assumption) ?_;(conv=>whnf);refine pbr_t (by assumption) ?_;(conv=>whnf);refine pbr_t (by assumption) ?_;(conv=>whnf);refine pbr_t (by assumption) ?_;(conv=>whnf);refine pbr_t (by assumption) ?_;(conv=>whnf);refine pbr_t (by assumption) ?_;(conv=>whnf);cases h13;exact ⟨(.cons rfl (.cons rfl .nil)), rfl⟩
        · (conv=>whnf);refine pbr_f (by assumption) ?_;(conv=>whnf);refine pbr_f (by assumption) ?_;(conv=>whnf);refine pbr_t (by assumption) ?_;(conv=>whnf);refine nth_o (l := a0) h13 (fun x15 _ h13 => ?_);(conv=>whnf);refine pbr_f (by assumption) ?_;(conv=>whnf);refine pbr_f (by assumption) ?_;(conv=>whnf);obtain ⟨y16, h17, h13⟩ := obnd_some h13;refine (c123 h17).go ?_;(conv=>whnf);refine pbr_f (by assumption) ?_;(conv=>whnf);refine pbr_oite h13 (fun _ h13 => ?_) (fun _ h13 => ?_)
          · (conv=>whnf);refine pbr_t (by assumption) ?_;(conv=>whnf);obtain ⟨y18, h19, h13⟩ := obnd_some h13;refine (c123 h19).go ?_;(conv=>whnf);refine pbr_f (by assumption) ?_;(conv=>whnf);refine pbr_t (by assumption) ?_;(conv=>whnf);refine pbr_t (by assumption) ?_;(conv=>whnf);refine pbr_f (by assumption) ?_;(conv=>whnf);refine pbr_t (by assumption) ?_;(conv=>whnf);cases h13;exact ⟨(.cons rfl (.cons rfl .nil)), rfl⟩
          · (conv=>whnf);refine pbr_f (by assumption) ?_;(conv=>whnf);refine pbr_f (by assumption) ?_;(conv=>whnf);refine pbr_f (by assumption) ?_;(conv=>whnf);refine pbr_t (by assumption) ?_;(conv=>whnf);refine pbr_f (by assumption) ?_;(conv=>whnf);refine pbr_t (by assumption) ?_;(conv=>whnf);cases h13;exact ⟨(.cons rfl (.cons rfl .nil)), rfl⟩
      · (conv=>whnf);refine pbr_f (by assumption) ?_;(conv=>whnf);refine pbr_f (by assumption) ?_;(conv=>whnf);refine pbr_f (by assumption) ?_;(conv=>whnf);refine pbr_f (by assumption) ?_;(conv=>whnf);refine pbr_f (by assumption) ?_;(conv=>whnf);refine pbr_f (by assumption) ?_;(conv=>whnf);refine pbr_f (by assumption) ?_;(conv=>whnf);refine pbr_f (by assumption) ?_;(conv=>whnf);cases h13;exact ⟨(.cons rfl (.cons rfl .nil)), rfl⟩
    · refine po_all ?_;(conv=>whnf);refine pw_ret ?_;(conv=>whnf);cases H; rfl

/-- (guidevane/dam.rules).asked -/
noncomputable def f89  (a0 : List Int) (_ : List Int) (_ : Int) (_ : List (ByteArray × Int)) (a4 : Int) : Option Int :=
  obnd (f112 a0 a4) fun (y1 : Int × Bool) =>
  oite y1.2 (
   some (IntKind.i64.wrap (y1.1 + (1 : Int)))
    ) (
   some y1.1
    )
set_option maxHeartbeats 1000000 in
theorem c89  {a0 : List Int} {a1 : List Int} {a2 : Int} {a3 : List (ByteArray × Int)} {a4 : Int} {x : Int} (H : f89 a0 a1 a2 a3 a4 = some x) : ICalls E 89 [(.agg ⟨[(VS 1 (a0.map eI)), (VS 1 (a1.map eI)), (.int .i64 a2), (VS 2 (a3.map e_SI))]⟩), (.int .i64 a4)] AHeap.none fun v _ => v = (.int .i64 x) := by
  refine icalls_fn (pfnw rfl ?_); unfold f89 at H;(conv=>whnf);refine pw_so ?_;refine po_all ?_;(conv=>whnf);refine pw_so ?_;refine po_all ?_;(conv=>whnf);obtain ⟨y1, h2, H⟩ := obnd_some H;refine (c112 h2).go ?_;(conv=>whnf);refine pw_seq ?_;refine pw_so ?_;refine po_all ?_;(conv=>whnf);refine pw_cond ?_;(conv=>whnf);refine pbr_oite H (fun _ H => ?_) (fun _ H => ?_)
  · (conv=>whnf);refine pw_ops ?_;refine po_all ?_;(conv=>whnf);refine pw_so ?_;refine po_all ?_;(conv=>whnf);refine pw_ret ?_;(conv=>whnf);cases H; rfl
  · (conv=>whnf);refine pw_skip ?_;(conv=>whnf);refine pw_so ?_;refine po_all ?_;(conv=>whnf);refine pw_ret ?_;(conv=>whnf);cases H; rfl

/-- (guidevane/dam.rules).watched -/
noncomputable def f83  (a0 : List Int) (a1 : List Int) (a2 : Int) (a3 : List (ByteArray × Int)) (a4 : Int) (a5 : Int) (_ : Int) (a7 : Int) : Option (Int × Int × Int) :=
  obnd (f89 a0 a1 a2 a3 a7) fun (y1 : Int) =>
  oite ((ilt a4 y1)) (
   some (y1, (0 : Int), a7)
    ) (
   obnd (
    oite ((ilt (0 : Int) a4)) (
     ogrd ((ile 0 (IntKind.i64.wrap (a4 - (1 : Int))))) (
     obnd (a1[(IntKind.i64.wrap (a4 - (1 : Int))).toNat]?) fun (x5 : Int) =>
     some (ilt a7 x5)
     )
      ) (
     some false
      )
     ) fun (r3 : Bool) =>
   oite r3 (
    some (a4, (imin (IntKind.i64.wrap (a5 + (1 : Int))) (1000000 : Int)), a7)
     ) (
    some (a4, (0 : Int), a7)
     )
    )
set_option maxHeartbeats 1000000 in
theorem c83  {a0 : List Int} {a1 : List Int} {a2 : Int} {a3 : List (ByteArray × Int)} {a4 : Int} {a5 : Int} {a6 : Int} {a7 : Int} {x : Int × Int × Int} (H : f83 a0 a1 a2 a3 a4 a5 a6 a7 = some x) : ICalls E 83 [(.agg ⟨[(VS 1 (a0.map eI)), (VS 1 (a1.map eI)), (.int .i64 a2), (VS 2 (a3.map e_SI))]⟩), (.agg ⟨[(.int .i64 a4), (.int .i64 a5), (.int .i64 a6)]⟩), (.int .i64 a7)] AHeap.none fun v _ => v = (.agg ⟨[(.int .i64 x.1), (.int .i64 x.2.1), (.int .i64 x.2.2)]⟩) := by
  refine icalls_fn (pfnw rfl ?_); unfold f83 at H;(conv=>whnf);refine pw_so ?_;refine po_all ?_;(conv=>whnf);refine pw_so ?_;refine po_all ?_;(conv=>whnf);refine pw_seq ?_;refine pw_so ?_;refine po_all ?_;(conv=>whnf);obtain ⟨y1, h2, H⟩ := obnd_some H;refine (c89 h2).go ?_;(conv=>whnf);refine pw_block ?_;refine pw_so ?_;refine po_all ?_;(conv=>whnf);refine pw_cond ?_;(conv=>whnf);refine pbr_oite H (fun _ H => ?_) (fun _ H => ?_)
  · (conv=>whnf);refine pw_ops ?_;refine po_all ?_;(conv=>whnf);refine pw_so ?_;refine po_all ?_;(conv=>whnf);refine pw_ret ?_;(conv=>whnf);cases H; rfl
  · (conv=>whnf);refine pw_so ?_;refine po_ops 4 ?_;(conv=>whnf);obtain ⟨r3, h4, H⟩ := obnd_some H;refine po_seg (τ := Bool) 11 (fun e => ⟨[(4, (.pointer (some ⟨1, 0, none⟩))), (6, (.pointer (some ⟨2, 0, none⟩))), (37, (.bool e))], ⟨3, [(2, .rw [(.int .i64 0), (.int .i64 0), (.int .i64 0)]), (1, .rw [(.int .i64 a4), (.int .i64 a5), (.int .i64 a7)]), (0, .rw [(VS 1 (a0.map eI)), (VS 1 (a1.map eI)), (.int .i64 a2), (VS 2 (a3.map e_SI))])], false⟩⟩) r3 ?_ ?_
    · refine po_all ?_;(conv=>whnf);refine pbr_oite h4 (fun _ h4 => ?_) (fun _ h4 => ?_)
      · (conv=>whnf);refine pbr_t (by assumption) ?_;(conv=>whnf);refine pbr_t (by assumption) ?_;(conv=>whnf);refine pbr_t (by assumption) ?_;(conv=>whnf);refine pbr_t (by assumption) ?_;(conv=>whnf);refine pbr_t (by assumption) ?_;(conv=>whnf);refine pbr_t (by assumption) ?_;(conv=>whnf);refine pbr_t (by assumption) ?_;(conv=>whnf);refine pbr_ogrd h4 (fun _ h4 => ?_);(conv=>whnf);refine nth_o (l := a1) h4 (fun x5 _ h4 => ?_);(conv=>whnf);refine pbr_t (by assumption) ?_;(conv=>whnf);refine pbr_t (by assumption) ?_;(conv=>whnf);refine pbr_t (by assumption) ?_;(conv=>whnf);cases h4;exact ⟨(.cons rfl (.cons rfl (.cons rfl .nil))), rfl⟩
      · (conv=>whnf);refine pbr_f (by assumption) ?_;(conv=>whnf);refine pbr_f (by assumption) ?_;(conv=>whnf);refine pbr_f (by assumption) ?_;(conv=>whnf);refine pbr_f (by assumption) ?_;(conv=>whnf);refine pbr_f (by assumption) ?_;(conv=>whnf);refine pbr_f (by assumption) ?_;(conv=>whnf);refine pbr_f (by assumption) ?_;(conv=>whnf);refine pbr_f (by assumption) ?_;(conv=>whnf);refine pbr_f (by assumption) ?_;(conv=>whnf);refine pbr_f (by assumption) ?_;(conv=>whnf);cases h4;exact ⟨(.cons rfl (.cons rfl (.cons rfl .nil))), rfl⟩
    · refine po_all ?_;(conv=>whnf);refine pw_cond ?_;(conv=>whnf);refine pbr_oite H (fun _ H => ?_) (fun _ H => ?_)
      · (conv=>whnf);refine pw_ops ?_;refine po_all ?_;(conv=>whnf);refine pw_so ?_;refine po_all ?_;(conv=>whnf);refine pw_ret ?_;(conv=>whnf);cases H; rfl
      · (conv=>whnf);refine pw_ops ?_;refine po_all ?_;(conv=>whnf);refine pw_so ?_;refine po_all ?_;(conv=>whnf);refine pw_ret ?_;(conv=>whnf);cases H; rfl

/-- guidevane/dam.Watched -/
noncomputable def f45  (a0 : List Int) (a1 : List Int) (a2 : Int) (a3 : List (ByteArray × Int)) (a4 : Int) (a5 : Int) (a6 : Int) (a7 : Int) : Option (Int × Int × Int × Int) :=
  obnd (f90 a0 a1 a2 a3 a4 a5 a6) fun (y1 : (List Int) × (List Int) × Int × (List (ByteArray × Int)) × Int) =>
  obnd (f82 a7) fun (y3 : Bool) =>
  obnd (f64 y3 (2 : Int)) fun (y5 : Int) =>
  obnd (f63 ([y1.2.2.2.2, y5] : List Int)) fun (y7 : Int) =>
  oite ((!(ieq y7 (0 : Int)))) (
   some ((0 : Int), (0 : Int), (0 : Int), y7)
    ) (
   obnd (f83 y1.1 y1.2.1 y1.2.2.1 y1.2.2.2.1 a4 a5 a6 a7) fun (y9 : Int × Int × Int) =>
   some (y9.1, y9.2.1, y9.2.2, (0 : Int))
    )
set_option maxHeartbeats 1000000 in
theorem c45  {a0 : List Int} {a1 : List Int} {a2 : Int} {a3 : List (ByteArray × Int)} {a4 : Int} {a5 : Int} {a6 : Int} {a7 : Int} {x : Int × Int × Int × Int} (H : f45 a0 a1 a2 a3 a4 a5 a6 a7 = some x) : ICalls E 45 [(.agg ⟨[(VS 1 (a0.map eI)), (VS 1 (a1.map eI)), (.int .i64 a2), (VS 2 (a3.map e_SI))]⟩), (.agg ⟨[(.int .i64 a4), (.int .i64 a5), (.int .i64 a6)]⟩), (.int .i64 a7)] AHeap.none fun v _ => v = (.tuple ⟨[(.agg ⟨[(.int .i64 x.1), (.int .i64 x.2.1), (.int .i64 x.2.2.1)]⟩), (.int .i64 x.2.2.2)]⟩) := by
  refine icalls_fn (pfnw rfl ?_); unfold f45 at H;(conv=>whnf);refine pw_so ?_;refine po_all ?_;(conv=>whnf);refine pw_so ?_;refine po_all ?_;(conv=>whnf);obtain ⟨y1, h2, H⟩ := obnd_some H;refine (c90 h2).go ?_;(conv=>whnf);refine pw_seq ?_;refine pw_so ?_;refine po_all ?_;(conv=>whnf);obtain ⟨y3, h4, H⟩ := obnd_some H;refine (c82 h4).go ?_;(conv=>whnf);obtain ⟨y5, h6, H⟩ := obnd_some H;refine (c64 h6).go ?_;(conv=>whnf);obtain ⟨y7, h8, H⟩ := obnd_some H;refine ICalls.goW (c63 h8) (.cons (.vt _ _ _) .nil) ?_;(conv=>whnf);refine pw_so ?_;refine po_all ?_;(conv=>whnf);refine pw_cond ?_;(conv=>whnf);refine pbr_oite H (fun _ H => ?_) (fun _ H => ?_)
  · (conv=>whnf);refine pw_so ?_;refine po_all ?_;(conv=>whnf);refine pw_ret ?_;(conv=>whnf);cases H; rfl
  · (conv=>whnf);refine pw_skip ?_;(conv=>whnf);refine pw_so ?_;refine po_all ?_;(conv=>whnf);obtain ⟨y9, h10, H⟩ := obnd_some H;refine (c83 h10).go ?_;(conv=>whnf);refine pw_ret ?_;(conv=>whnf);cases H; rfl

/-- guidevane/dam.AskedFor -/
noncomputable def f44  (a0 : List Int) (a1 : List Int) (a2 : Int) (a3 : List (ByteArray × Int)) (a4 : Int) : Option (Int × Int) :=
  obnd (f79 a0 a1 a2 a3) fun (y1 : (List Int) × (List Int) × Int × (List (ByteArray × Int)) × Int) =>
  obnd (f82 a4) fun (y3 : Bool) =>
  obnd (f64 y3 (2 : Int)) fun (y5 : Int) =>
  obnd (f63 ([y1.2.2.2.2, y5] : List Int)) fun (y7 : Int) =>
  oite ((!(ieq y7 (0 : Int)))) (
   some ((0 : Int), y7)
    ) (
   obnd (f89 y1.1 y1.2.1 y1.2.2.1 y1.2.2.2.1 a4) fun (y9 : Int) =>
   some (y9, (0 : Int))
    )
set_option maxHeartbeats 1000000 in
theorem c44  {a0 : List Int} {a1 : List Int} {a2 : Int} {a3 : List (ByteArray × Int)} {a4 : Int} {x : Int × Int} (H : f44 a0 a1 a2 a3 a4 = some x) : ICalls E 44 [(.agg ⟨[(VS 1 (a0.map eI)), (VS 1 (a1.map eI)), (.int .i64 a2), (VS 2 (a3.map e_SI))]⟩), (.int .i64 a4)] AHeap.none fun v _ => v = (.tuple ⟨[(.int .i64 x.1), (.int .i64 x.2)]⟩) := by
  refine icalls_fn (pfnw rfl ?_); unfold f44 at H;(conv=>whnf);refine pw_so ?_;refine po_all ?_;(conv=>whnf);refine pw_so ?_;refine po_all ?_;(conv=>whnf);obtain ⟨y1, h2, H⟩ := obnd_some H;refine (c79 h2).go ?_;(conv=>whnf);refine pw_seq ?_;refine pw_so ?_;refine po_all ?_;(conv=>whnf);obtain ⟨y3, h4, H⟩ := obnd_some H;refine (c82 h4).go ?_;(conv=>whnf);obtain ⟨y5, h6, H⟩ := obnd_some H;refine (c64 h6).go ?_;(conv=>whnf);obtain ⟨y7, h8, H⟩ := obnd_some H;refine ICalls.goW (c63 h8) (.cons (.vt _ _ _) .nil) ?_;(conv=>whnf);refine pw_so ?_;refine po_all ?_;(conv=>whnf);refine pw_cond ?_;(conv=>whnf);refine pbr_oite H (fun _ H => ?_) (fun _ H => ?_)
  · (conv=>whnf);refine pw_so ?_;refine po_all ?_;(conv=>whnf);refine pw_ret ?_;(conv=>whnf);cases H; rfl
  · (conv=>whnf);refine pw_skip ?_;(conv=>whnf);refine pw_so ?_;refine po_all ?_;(conv=>whnf);obtain ⟨y9, h10, H⟩ := obnd_some H;refine (c89 h10).go ?_;(conv=>whnf);refine pw_ret ?_;(conv=>whnf);cases H; rfl

/-- slices.IndexFunc[[]int,int] -/
noncomputable def f70 (p0 : Int → Option Bool) (a0 : List Int) : Option Int :=
  obndS (
   oloop (τ := Int) (ρ := (Unit) ⊕ Int) (fun e5 =>
    oite ((ilt e5 ((a0.map eI).length : Int))) (
     ogrd ((ile 0 e5)) (
     obnd (a0[e5.toNat]?) fun (x8 : Int) =>
     obnd (p0 x8) fun (y9 : Bool) =>
     oite y9 (
      some (.inr (.inr (e5)))
       ) (
      some (.inl (IntKind.i64.wrap (e5 + (1 : Int))))
       )
     )
      ) (
     some (.inr (.inl ()))
      )
     ) (0 : Int)
    ) fun (_ : Unit) =>
  some (-1 : Int)
set_option maxHeartbeats 1000000 in
theorem c70 {p0 : Int → Option Bool} {a0 : List Int} {g0 : Value} [Cl g0] (hp0 : ∀ y0 y, p0 y0 = some y → ICallV E g0 [(.int .i64 y0)] AHeap.none fun v _ => v = (.bool y)) {x : Int} (H : f70 p0 a0 = some x) : ICalls E 70 [(VS 1 (a0.map eI)), g0] AHeap.none fun v _ => v = (.int .i64 x) := by
  refine icalls_fn (pfnw rfl ?_); unfold f70 at H;(conv=>whnf);refine pw_so ?_;refine po_all ?_;(conv=>whnf);obtain ⟨r1, h2, h3, h4⟩ := obndS_some H;refine pw_joinS (ρ := Unit) (fun e => ⟨[], ⟨0, [], false⟩⟩) r1 ?_ ?_
  · refine pw_so ?_;refine po_all ?_;(conv=>whnf);refine pw_block ?_;refine pw_loop (τ := Int) (fun e => ⟨[(0, (VS 1 (a0.map eI))), (1, g0), (7, (.int .i64 ((a0.map eI).length : Int))), (8, (.int .i64 e))], ⟨0, [], false⟩⟩) h2 ?_ (fun _ => Nat.le_of_ble_eq_true rfl) ?_
    · exact .sub' (Nat.le_of_ble_eq_true rfl) (.cons rfl (.cons rfl (.cons rfl (.cons rfl .nil))))
    · intro e5 x6 h7;refine pw_so ?_;refine po_all ?_;(conv=>whnf);refine pw_seq ?_;refine pw_cond ?_;(conv=>whnf);refine pbr_oite h7 (fun _ h7 => ?_) (fun _ h7 => ?_)
      · (conv=>whnf);refine pw_skip ?_;(conv=>whnf);refine pw_seq ?_;refine pw_block ?_;refine pw_so ?_;refine po_all ?_;(conv=>whnf);refine pw_so ?_;refine po_all ?_;(conv=>whnf);refine pbr_ogrd h7 (fun _ h7 => ?_);(conv=>whnf);refine nth_o (l := a0) h7 (fun x8 _ h7 => ?_);(conv=>whnf);obtain ⟨y9, h10, h7⟩ := obnd_some h7;refine ICallV.go (hp0 _ _ h10) ?_;(conv=>whnf);refine pw_cond ?_;(conv=>whnf);refine pbr_oite h7 (fun _ h7 => ?_) (fun _ h7 => ?_)
        · (conv=>whnf);refine pw_so ?_;refine po_all ?_;(conv=>whnf);refine pw_ret ?_;(conv=>whnf);cases h7;refine ⟨_, rfl, ?_⟩; rintro rfl;(conv=>whnf);obtain rfl := h4 _ rfl; rfl
        · (conv=>whnf);refine pw_skip ?_;(conv=>whnf);refine pw_ops ?_;refine po_all ?_;(conv=>whnf);cases h7;refine ⟨_, rfl, ?_⟩;exact .sub' (Nat.le_of_ble_eq_true rfl) (.cons rfl (.cons rfl (.cons rfl (.cons rfl .nil))))
      · (conv=>whnf);refine pw_exit ?_;(conv=>whnf);cases h7;refine ⟨_, rfl, ?_⟩; rintro rfl;(conv=>whnf);exact ⟨_, rfl, ⟨.nil, rfl⟩⟩
  · intro r13 hr; have H := h3 _ hr;refine pw_so ?_;refine po_all ?_;(conv=>whnf);refine pw_ret ?_;(conv=>whnf);cases H; rfl

/-- slices.ContainsFunc[[]int,int] -/
noncomputable def f80 (p0 : Int → Option Bool) (a0 : List Int) : Option Bool :=
  obnd (f70 p0 a0) fun (y1 : Int) =>
  some (ile (0 : Int) y1)
set_option maxHeartbeats 1000000 in
theorem c80 {p0 : Int → Option Bool} {a0 : List Int} {g0 : Value} [Cl g0] (hp0 : ∀ y0 y, p0 y0 = some y → ICallV E g0 [(.int .i64 y0)] AHeap.none fun v _ => v = (.bool y)) {x : Bool} (H : f80 p0 a0 = some x) : ICalls E 80 [(VS 1 (a0.map eI)), g0] AHeap.none fun v _ => v = (.bool x) := by
  refine icalls_fn (pfnw rfl ?_); unfold f80 at H;(conv=>whnf);refine pw_so ?_;refine po_all ?_;(conv=>whnf);refine pw_so ?_;refine po_all ?_;(conv=>whnf);obtain ⟨y1, h2, H⟩ := obnd_some H;refine (c70 hp0 h2).go ?_;(conv=>whnf);refine pw_ret ?_;(conv=>whnf);cases H; rfl

/-- guidevane/dam.WatchOf$1 -/
noncomputable def f81  (a0 : Int) : Option Bool :=
  obnd (f82 a0) fun (y1 : Bool) =>
  some (!y1)
set_option maxHeartbeats 1000000 in
theorem c81  {a0 : Int} {x : Bool} (H : f81 a0 = some x) : ICalls E 81 [(.int .i64 a0)] AHeap.none fun v _ => v = (.bool x) := by
  refine icalls_fn (pfnw rfl ?_); unfold f81 at H;(conv=>whnf);refine pw_so ?_;refine po_all ?_;(conv=>whnf);refine pw_so ?_;refine po_all ?_;(conv=>whnf);obtain ⟨y1, h2, H⟩ := obnd_some H;refine (c82 h2).go ?_;(conv=>whnf);refine pw_ret ?_;(conv=>whnf);cases H; rfl

/-- guidevane/dam.WatchOf -/
noncomputable def f36  (a0 : List Int) (a1 : List Int) (a2 : Int) (a3 : List (ByteArray × Int)) (a4 : List Int) : Option (Int × Int × Int × Int) :=
  obnd (f79 a0 a1 a2 a3) fun (y1 : (List Int) × (List Int) × Int × (List (ByteArray × Int)) × Int) =>
  obnd (f80 (fun (z0 : Int) => f81 z0) a4) fun (y3 : Bool) =>
  obnd (f64 ((ile ((a4.map eI).length : Int) (100 : Int))) (8 : Int)) fun (y5 : Int) =>
  obnd (f64 (!y3) (2 : Int)) fun (y7 : Int) =>
  obnd (f63 ([y1.2.2.2.2, y5, y7] : List Int)) fun (y9 : Int) =>
  oite ((!(ieq y9 (0 : Int)))) (
   some ((0 : Int), (0 : Int), (0 : Int), y9)
    ) (
   obnd (
    oloop (τ := Int × Int × Int × Int) (ρ := Int × Int × Int) (fun e15 =>
     oite ((ilt e15.2.2.2 ((a4.map eI).length : Int))) (
      ogrd ((ile 0 e15.2.2.2)) (
      obnd (a4[e15.2.2.2.toNat]?) fun (x18 : Int) =>
      obnd (f83 y1.1 y1.2.1 y1.2.2.1 y1.2.2.2.1 e15.1 e15.2.1 e15.2.2.1 x18) fun (y19 : Int × Int × Int) =>
      some (.inl (y19.1, y19.2.1, y19.2.2, (IntKind.i64.wrap (e15.2.2.2 + (1 : Int)))))
      )
       ) (
      some (.inr ((e15.1, e15.2.1, e15.2.2.1)))
       )
      ) (((0 : Int), (0 : Int), (0 : Int), (0 : Int)))
     ) fun (r11 : Int × Int × Int) =>
   some (r11.1, r11.2.1, r11.2.2, (0 : Int))
    )
set_option maxHeartbeats 1000000 in
theorem c36  {a0 : List Int} {a1 : List Int} {a2 : Int} {a3 : List (ByteArray × Int)} {a4 : List Int} {x : Int × Int × Int × Int} (H : f36 a0 a1 a2 a3 a4 = some x) : ICalls E 36 [(.agg ⟨[(VS 1 (a0.map eI)), (VS 1 (a1.map eI)), (.int .i64 a2), (VS 2 (a3.map e_SI))]⟩), (VS 1 (a4.map eI))] AHeap.none fun v _ => v = (.tuple ⟨[(.agg ⟨[(.int .i64 x.1), (.int .i64 x.2.1), (.int .i64 x.2.2.1)]⟩), (.int .i64 x.2.2.2)]⟩) := by
  refine icalls_fn (pfnw rfl ?_); unfold f36 at H;(conv=>whnf);refine pw_so ?_;refine po_all ?_;(conv=>whnf);refine pw_so ?_;refine po_all ?_;(conv=>whnf);obtain ⟨y1, h2, H⟩ := obnd_some H;refine (c79 h2).go ?_;(conv=>whnf);refine pw_so ?_;refine po_all ?_;(conv=>whnf);obtain ⟨y3, h4, H⟩ := obnd_some H;refine (c80 (fun _ _ h => (c81 h).asV) h4).go ?_;(conv=>whnf);refine pw_seq ?_;refine pw_so ?_;refine po_all ?_;(conv=>whnf);obtain ⟨y5, h6, H⟩ := obnd_some H;refine (c64 h6).go ?_;(conv=>whnf);obtain ⟨y7, h8, H⟩ := obnd_some H;refine (c64 h8).go ?_;(conv=>whnf);obtain ⟨y9, h10, H⟩ := obnd_some H;refine ICalls.goW (c63 h10) (.cons (.vt _ _ _) .nil) ?_
  (conv=>whnf);refine pw_so ?_;refine po_all ?_;(conv=>whnf);refine pw_cond ?_;(conv=>whnf);refine pbr_oite H (fun _ H => ?_) (fun _ H => ?_)
  · (conv=>whnf);refine pw_so ?_;refine po_all ?_;(conv=>whnf);refine pw_ret ?_;(conv=>whnf);cases H; rfl
  · (conv=>whnf);refine pw_skip ?_;(conv=>whnf);refine pw_so ?_;refine po_all ?_;(conv=>whnf);obtain ⟨r11, h12, H⟩ := obnd_some H;refine pw_join (ρ := Int × Int × Int) (fun e => ⟨[(4, (.pointer (some ⟨1, 0, none⟩))), (9, (.pointer (some ⟨4, 0, none⟩)))], ⟨5, [(4, .rw [(.int .i64 e.1), (.int .i64 e.2.1), (.int .i64 e.2.2)]), (3, .tail 3 1), (2, .rw [(VS 1 (y1.1.map eI)), (VS 1 (y1.2.1.map eI)), (.int .i64 y1.2.2.1), (VS 2 (y1.2.2.2.1.map e_SI))]), (1, .rw [(.int .i64 0), (.int .i64 0), (.int .i64 0)]), (0, .rw [(VS 1 (a0.map eI)), (VS 1 (a1.map eI)), (.int .i64 a2), (VS 2 (a3.map e_SI))])], false⟩⟩) r11 ?_ ?_
    · refine pw_so ?_;refine po_all ?_;(conv=>whnf);refine pw_block ?_;refine pw_loop (τ := Int × Int × Int × Int) (fun e => ⟨[(4, (.pointer (some ⟨1, 0, none⟩))), (6, (.pointer (some ⟨2, 0, none⟩))), (9, (.pointer (some ⟨4, 0, none⟩))), (33, (VS 1 (a4.map eI))), (34, (.int .i64 ((a4.map eI).length : Int))), (35, (.int .i64 e.2.2.2))], ⟨5, [(4, .rw [(.int .i64 e.1), (.int .i64 e.2.1), (.int .i64 e.2.2.1)]), (3, .tail 3 1), (2, .rw [(VS 1 (y1.1.map eI)), (VS 1 (y1.2.1.map eI)), (.int .i64 y1.2.2.1), (VS 2 (y1.2.2.2.1.map e_SI))]), (1, .rw [(.int .i64 0), (.int .i64 0), (.int .i64 0)]), (0, .rw [(VS 1 (a0.map eI)), (VS 1 (a1.map eI)), (.int .i64 a2), (VS 2 (a3.map e_SI))])], false⟩⟩) h12 ?_ (fun _ => Nat.le_of_ble_eq_true rfl) ?_
      · exact .sub' (Nat.le_of_ble_eq_true rfl) (.cons rfl (.cons rfl (.cons rfl (.cons rfl (.cons rfl (.cons rfl .nil))))))
      · intro e15 x16 h17;refine pw_so ?_;refine po_all ?_;(conv=>whnf);refine pw_seq ?_;refine pw_cond ?_;(conv=>whnf);refine pbr_oite h17 (fun _ h17 => ?_) (fun _ h17 => ?_)
        · (conv=>whnf);refine pw_skip ?_;(conv=>whnf);refine pw_seq ?_;refine pw_block ?_;refine pw_so ?_;refine po_all ?_;(conv=>whnf);refine pbr_ogrd h17 (fun _ h17 => ?_);(conv=>whnf);refine nth_o (l := a4) h17 (fun x18 _ h17 => ?_);(conv=>whnf);refine pw_ops ?_;refine po_all ?_;(conv=>whnf);obtain ⟨y19, h20, h17⟩ := obnd_some h17;refine (c83 h20).go ?_;(conv=>whnf);refine pw_ops ?_;refine po_all ?_;(conv=>whnf);cases h17;refine ⟨_, rfl, ?_⟩;exact .sub' (Nat.le_of_ble_eq_true rfl) (.cons rfl (.cons rfl (.cons rfl (.cons rfl (.cons rfl (.cons rfl .nil))))))
        · (conv=>whnf);refine pw_exit ?_;(conv=>whnf);cases h17;refine ⟨_, rfl, ?_⟩; rintro rfl;(conv=>whnf);exact ⟨(.cons rfl (.cons rfl .nil)), rfl⟩
    · refine pw_so ?_;refine po_all ?_;(conv=>whnf);refine pw_ret ?_;(conv=>whnf);cases H; rfl

/-- guidevane/guidevanelaw09.DamNeverLower -/
noncomputable def l165_1 (a3 : List (ByteArray × Int)) (a5 : List (ByteArray × Int)) (e19 : Int × Int × Int × Int × Bool × Int) (e72 : Int × Int) : Option ((Int × Int) ⊕ Int) :=
  oite ((ilt e72.2 ((a3.map e_SI).length : Int))) (
   ogrd ((ile 0 e72.2)) (
   obnd (a3[e72.2.toNat]?) fun (x75 : ByteArray × Int) =>
   obnd (a5[e19.2.2.2.2.2.toNat]?) fun (x76 : ByteArray × Int) =>
   oite ((x75.1.toList == x76.1.toList)) (
    obnd (a3[e72.2.toNat]?) fun (x77 : ByteArray × Int) =>
    some (.inl (x77.2, (IntKind.i64.wrap (e72.2 + (1 : Int)))))
     ) (
    some (.inl (e72.1, (IntKind.i64.wrap (e72.2 + (1 : Int)))))
     )
   )
    ) (
   some (.inr (e72.1))
    )
noncomputable def l165_2 (a4 : List Int) (a0 : List Int) (a1 : List Int) (a2 : Int) (a3 : List (ByteArray × Int)) (a5 : List (ByteArray × Int)) (e19 : Int × Int × Int × Int × Bool × Int) : Option ((Int × Int × Int × Int × Bool × Int) ⊕ ((Bool × Int × Int × Int) ⊕ Bool)) :=
  oite ((ilt e19.2.2.2.2.2 ((a4.map eI).length : Int))) (
   obnd (
    ogrd ((ile 0 e19.2.2.2.2.2)) (
    obnd (a4[e19.2.2.2.2.2.toNat]?) fun (x26 : Int) =>
    obnd (f37 a0 a1 a2 a3) fun (y27 : (List Int) × (List Int) × Int × (List (ByteArray × Int))) =>
    obnd (f45 y27.1 y27.2.1 y27.2.2.1 y27.2.2.2 e19.1 e19.2.1 e19.2.2.1 x26) fun (y29 : Int × Int × Int × Int) =>
    some (y29.2.2.2, y29.1, y29.2.1, y29.2.2.1)
    )
     ) fun (r22 : Int × Int × Int × Int) =>
   ogrd ((ile 0 e19.2.2.2.2.2)) (
   obnd (a4[e19.2.2.2.2.2.toNat]?) fun (x31 : Int) =>
   obnd (f40 x31) fun (y32 : Int) =>
   oite ((!(ieq y32 (0 : Int)))) (
    some (.inr (.inr ((ieq r22.1 (2 : Int)))))
     ) (
    obnd (a4[e19.2.2.2.2.2.toNat]?) fun (x35 : Int) =>
    obnd (f37 a0 a1 a2 a3) fun (y36 : (List Int) × (List Int) × Int × (List (ByteArray × Int))) =>
    obnd (f44 y36.1 y36.2.1 y36.2.2.1 y36.2.2.2 x35) fun (y38 : Int × Int) =>
    obnd (
     obnd (
      oite ((!(ieq r22.1 (0 : Int)))) (
       some true
        ) (
       some (!(ieq y38.2 (0 : Int)))
        )
       ) fun (r44 : Bool) =>
     oite r44 (
      some true
       ) (
      obnd (f48 a0 a1 a2 a3 r22.2.1 r22.2.2.1 r22.2.2.2) fun (y46 : Int) =>
      some (!(ieq y46 (0 : Int)))
       )
      ) fun (r40 : Bool) =>
    oite r40 (
     some (.inr (.inr (false)))
      ) (
     obnd (
      obnd (
       oite ((ilt r22.2.1 (imax e19.2.2.2.1 y38.1))) (
        some true
         ) (
        some (ilt r22.2.1 e19.1)
         )
        ) fun (r53 : Bool) =>
      oite r53 (
       some true
        ) (
       obnd (
        oite (!e19.2.2.2.2.1) (
         some (!(ieq r22.2.1 (imax e19.2.2.2.1 y38.1)))
          ) (
         some false
          )
         ) fun (r55 : Bool) =>
       some r55
        )
       ) fun (r49 : Bool) =>
     oite r49 (
      some (.inr (.inr (false)))
       ) (
      oite ((ile ((a5.map e_SI).length : Int) e19.2.2.2.2.2)) (
       some (.inl ((r22.2.1, r22.2.2.1, r22.2.2.2, (imax e19.2.2.2.1 y38.1), e19.2.2.2.2.1, (IntKind.i64.wrap (e19.2.2.2.2.2 + (1 : Int))))))
        ) (
       obnd (a5[e19.2.2.2.2.2.toNat]?) fun (x58 : ByteArray × Int) =>
       oite ((ilt (30 : Int) (x58.1.size : Int))) (
        some (.inl ((r22.2.1, r22.2.2.1, r22.2.2.2, (imax e19.2.2.2.1 y38.1), e19.2.2.2.2.1, (IntKind.i64.wrap (e19.2.2.2.2.2 + (1 : Int))))))
         ) (
        obnd (
         obnd (a5[e19.2.2.2.2.2.toNat]?) fun (x63 : ByteArray × Int) =>
         obnd (f37 a0 a1 a2 a3) fun (y64 : (List Int) × (List Int) × Int × (List (ByteArray × Int))) =>
         obnd (f169 y64.1 y64.2.1 y64.2.2.1 y64.2.2.2 r22.2.1 r22.2.2.1 r22.2.2.2 x63.1 x63.2) fun (y66 : Int × Int × Int × Int) =>
         some (y66.2.2.2, y66.1, y66.2.1, y66.2.2.1)
          ) fun (r59 : Int × Int × Int × Int) =>
        oite ((!(ieq r59.1 (0 : Int)))) (
         some (.inl ((r22.2.1, r22.2.2.1, r22.2.2.2, (imax e19.2.2.2.1 y38.1), e19.2.2.2.2.1, (IntKind.i64.wrap (e19.2.2.2.2.2 + (1 : Int))))))
          ) (
         obnd (
          oloop (τ := Int × Int) (ρ := Int) (l165_1 a3 a5 e19) (((0 : Int), (0 : Int)))
           ) fun (r68 : Int) =>
         obnd (
          oite ((ilt r68 r22.2.1)) (
           some true
            ) (
           oite ((ile r22.2.1 y38.1)) (
            some true
             ) (
            obnd (a5[e19.2.2.2.2.2.toNat]?) fun (x83 : ByteArray × Int) =>
            oite ((!(ieq r59.2.1 x83.2))) (
             some true
              ) (
             obnd (f15 r59.2.1 (0 : Int) (IntKind.i64.wrap (r22.2.1 - (1 : Int)))) fun (y84 : Bool) =>
             oite (!y84) (
              some true
               ) (
              oite ((!(ieq r59.2.2.1 (0 : Int)))) (
               some true
                ) (
               some (!(ieq r59.2.2.2 r22.2.2.2))
                )
               )
              )
             )
            )
           ) fun (r79 : Bool) =>
         oite r79 (
          some (.inr (.inr (false)))
           ) (
          some (.inl ((r59.2.1, r59.2.2.1, r59.2.2.2, (0 : Int), true, (IntKind.i64.wrap (e19.2.2.2.2.2 + (1 : Int))))))
           )
          )
         )
        )
       )
      )
     )
   )
    ) (
   some (.inr (.inl (e19.2.2.2.2.1, e19.1, e19.2.1, e19.2.2.1)))
    )
noncomputable def f165  (a0 : List Int) (a1 : List Int) (a2 : Int) (a3 : List (ByteArray × Int)) (a4 : List Int) (a5 : List (ByteArray × Int)) : Option Bool :=
  obnd (f10) fun (y1 : Bool) =>
  oite (!y1) (
   some false
    ) (
   obnd (
    obnd (f35 a0 a1 a2 a3) fun (y7 : Bool) =>
    obnd (
     oite (!y7) (
      some true
       ) (
      obnd (f39 a0 a1 a2 a3) fun (y11 : Int) =>
      some (!(ieq y11 (0 : Int)))
       )
      ) fun (r9 : Bool) =>
    obnd (
     oite r9 (
      some true
       ) (
      some (ilt (40 : Int) ((a4.map eI).length : Int))
       )
      ) fun (r13 : Bool) =>
    oite r13 (
     some true
      ) (
     some (ilt (40 : Int) ((a5.map e_SI).length : Int))
      )
     ) fun (r3 : Bool) =>
   oite r3 (
    some true
     ) (
    obndS (
     oloop (τ := Int × Int × Int × Int × Bool × Int) (ρ := (Bool × Int × Int × Int) ⊕ Bool) (l165_2 a4 a0 a1 a2 a3 a5) (((0 : Int), (0 : Int), (0 : Int), (0 : Int), false, (0 : Int)))
      ) fun (r88 : Bool × Int × Int × Int) =>
    obnd (f37 a0 a1 a2 a3) fun (y89 : (List Int) × (List Int) × Int × (List (ByteArray × Int))) =>
    obnd (f38 a4) fun (y91 : (List Int)) =>
    obnd (f36 y89.1 y89.2.1 y89.2.2.1 y89.2.2.2 y91) fun (y93 : Int × Int × Int × Int) =>
    obnd (
     oite ((ieq y93.2.2.2 (0 : Int))) (
      oite r88.1 (
       some true
        ) (
       some ((ieq y93.1 r88.2.1) && ((ieq y93.2.1 r88.2.2.1) && ((ieq y93.2.2.1 r88.2.2.2) && true)))
        )
       ) (
      some false
       )
      ) fun (r95 : Bool) =>
    some r95
     )
    )
set_option maxHeartbeats 1000000 in
theorem c165  {a0 : List Int} {a1 : List Int} {a2 : Int} {a3 : List (ByteArray × Int)} {a4 : List Int} {a5 : List (ByteArray × Int)} {x : Bool} (H : f165 a0 a1 a2 a3 a4 a5 = some x) : ICalls E 165 [(.agg ⟨[(VS 1 (a0.map eI)), (VS 1 (a1.map eI)), (.int .i64 a2), (VS 2 (a3.map e_SI))]⟩), (VS 1 (a4.map eI)), (VS 2 (a5.map e_SI))] AHeap.none fun v _ => v = (.bool x) := by
  refine icalls_fn (pfnw rfl ?_); unfold f165 at H;(conv=>whnf);refine pw_so ?_;refine po_all ?_;(conv=>whnf);refine pw_seq ?_;refine pw_so ?_;refine po_all ?_;(conv=>whnf);obtain ⟨y1, h2, H⟩ := obnd_some H;refine (c10 h2).go ?_;(conv=>whnf);refine pw_cond ?_;(conv=>whnf);refine pbr_oite H (fun _ H => ?_) (fun _ H => ?_)
  · (conv=>whnf);refine pw_so ?_;refine po_all ?_;(conv=>whnf);refine pw_ret ?_;(conv=>whnf);cases H; rfl
  · (conv=>whnf);refine pw_skip ?_;(conv=>whnf);refine pw_seq ?_;obtain ⟨r3, h4, H⟩ := obnd_some H;refine pw_join (ρ := Bool) (fun e => ⟨[(1, (VS 1 (a4.map eI))), (2, (VS 2 (a5.map e_SI))), (3, (.pointer (some ⟨0, 0, none⟩))), (40, (.bool e))], ⟨1, [(0, .rw [(VS 1 (a0.map eI)), (VS 1 (a1.map eI)), (.int .i64 a2), (VS 2 (a3.map e_SI))])], false⟩⟩) r3 ?_ ?_
    · refine pw_ops ?_;refine po_ops 4 ?_;(conv=>whnf);obtain ⟨y7, h8, h4⟩ := obnd_some h4;refine (c35 h8).go ?_;(conv=>whnf);obtain ⟨r9, h10, h4⟩ := obnd_some h4;refine po_seg (τ := Bool) 4 (fun e => ⟨[(1, (VS 1 (a4.map eI))), (2, (VS 2 (a5.map e_SI))), (3, (.pointer (some ⟨0, 0, none⟩))), (30, (.bool e))], ⟨1, [(0, .rw [(VS 1 (a0.map eI)), (VS 1 (a1.map eI)), (.int .i64 a2), (VS 2 (a3.map e_SI))])], false⟩⟩) r9 ?_ ?_
      · refine po_all ?_;(conv=>whnf);refine pbr_oite h10 (fun _ h10 => ?_) (fun _ h10 => ?_)
        · (conv=>whnf);refine pbr_t (by assumption) ?_;(conv=>whnf);refine pbr_t (by assumption) ?_;(conv=>whnf);refine pbr_t (by assumption) ?_;(conv=>whnf);cases h10;exact ⟨(.cons rfl (.cons rfl (.cons rfl (.cons rfl .nil)))), rfl⟩
        · (conv=>whnf);refine pbr_f (by assumption) ?_;(conv=>whnf);obtain ⟨y11, h12, h10⟩ := obnd_some h10;refine (c39 h12).go ?_;(conv=>whnf);refine pbr_f (by assumption) ?_;(conv=>whnf);refine pbr_f (by assumption) ?_;(conv=>whnf);cases h10;exact ⟨(.cons rfl (.cons rfl (.cons rfl (.cons rfl .nil)))), rfl⟩
      · refine po_ops 1 ?_;(conv=>whnf);obtain ⟨r13, h14, h4⟩ := obnd_some h4;refine po_seg (τ := Bool) 4 (fun e => ⟨[(1, (VS 1 (a4.map eI))), (2, (VS 2 (a5.map e_SI))), (3, (.pointer (some ⟨0, 0, none⟩))), (35, (.bool e))], ⟨1, [(0, .rw [(VS 1 (a0.map eI)), (VS 1 (a1.map eI)), (.int .i64 a2), (VS 2 (a3.map e_SI))])], false⟩⟩) r13 ?_ ?_
        · refine po_all ?_;(conv=>whnf);refine pbr_oite h14 (fun _ h14 => ?_) (fun _ h14 => ?_)
          · (conv=>whnf);refine pbr_t (by assumption) ?_;(conv=>whnf);refine pbr_t (by assumption) ?_;(conv=>whnf);refine pbr_t (by assumption) ?_;(conv=>whnf);cases h14;exact ⟨(.cons rfl (.cons rfl (.cons rfl (.cons rfl .nil)))), rfl⟩
          · (conv=>whnf);refine pbr_f (by assumption) ?_;(conv=>whnf);refine pbr_f (by assumption) ?_;(conv=>whnf);refine pbr_f (by assumption) ?_;(conv=>whnf);cases h14;exact ⟨(.cons rfl (.cons rfl (.cons rfl (.cons rfl .nil)))), rfl⟩
        · refine po_all ?_;(conv=>whnf);refine pbr_oite h4 (fun _ h4 => ?_) (fun _ h4 => ?_)
          · (conv=>whnf);refine pbr_t (by assumption) ?_;(conv=>whnf);refine pbr_t (by assumption) ?_;(conv=>whnf);refine pbr_t (by assumption) ?_;(conv=>whnf);cases h4;exact ⟨(.cons rfl (.cons rfl (.cons rfl (.cons rfl .nil)))), rfl⟩
          · (conv=>whnf);refine pbr_f (by assumption) ?_;(conv=>whnf);refine pbr_f (by assumption) ?_;(conv=>whnf);refine pbr_f (by assumption) ?_;(conv=>whnf);cases h4;exact ⟨(.cons rfl (.cons rfl (.cons rfl (.cons rfl .nil)))), rfl⟩
    · refine pw_cond ?_;(conv=>whnf);refine pbr_oite H (fun _ H => ?_) (fun _ H => ?_)
      · (conv=>whnf);refine pw_so ?_;refine po_all ?_;(conv=>whnf);refine pw_ret ?_;(conv=>whnf);cases H; rfl
      · (conv=>whnf);refine pw_skip ?_;(conv=>whnf);refine pw_so ?_;refine po_all ?_;(conv=>whnf);refine pw_so ?_;refine po_all ?_;(conv=>whnf);obtain ⟨r15, h16, h17, h18⟩ := obndS_some H;refine pw_joinS (ρ := Bool × Int × Int × Int) (fun e => ⟨[(1, (VS 1 (a4.map eI))), (3, (.pointer (some ⟨0, 0, none⟩))), (7, (.pointer (some ⟨1, 0, none⟩))), (9, (.bool e.1))], ⟨2, [(1, .rw [(.int .i64 e.2.1), (.int .i64 e.2.2.1), (.int .i64 e.2.2.2)]), (0, .rw [(VS 1 (a0.map eI)), (VS 1 (a1.map eI)), (.int .i64 a2), (VS 2 (a3.map e_SI))])], false⟩⟩) r15 ?_ ?_
        · refine pw_so ?_;refine po_all ?_;(conv=>whnf);refine pw_block ?_;refine pw_loop (τ := Int × Int × Int × Int × Bool × Int) (fun e => ⟨[(1, (VS 1 (a4.map eI))), (2, (VS 2 (a5.map e_SI))), (3, (.pointer (some ⟨0, 0, none⟩))), (7, (.pointer (some ⟨1, 0, none⟩))), (8, (.int .i64 e.2.2.2.1)), (9, (.bool e.2.2.2.2.1)), (10, (.int .i64 e.2.2.2.2.2))], ⟨2, [(1, .rw [(.int .i64 e.1), (.int .i64 e.2.1), (.int .i64 e.2.2.1)]), (0, .rw [(VS 1 (a0.map eI)), (VS 1 (a1.map eI)), (.int .i64 a2), (VS 2 (a3.map e_SI))])], false⟩⟩) h16 ?_ (fun _ => Nat.le_of_ble_eq_true rfl) ?_
          · exact .sub' (Nat.le_of_ble_eq_true rfl) (.cons rfl (.cons rfl (.cons rfl (.cons rfl (.cons rfl (.cons rfl (.cons rfl .nil)))))))
          · intro e19 x20 h21; unfold l165_2 at h21;refine pw_seq ?_;refine pw_so ?_;refine po_all ?_;(conv=>whnf);refine pw_cond ?_;(conv=>whnf);refine pbr_oite h21 (fun _ h21 => ?_) (fun _ h21 => ?_)
            · (conv=>whnf);refine pw_skip ?_;(conv=>whnf);refine pw_seq ?_;refine pw_block ?_;obtain ⟨r22, h23, h21⟩ := obnd_some h21;refine pw_join (ρ := Int × Int × Int × Int) (fun e => ⟨[(1, (VS 1 (a4.map eI))), (2, (VS 2 (a5.map e_SI))), (3, (.pointer (some ⟨0, 0, none⟩))), (7, (.pointer (some ⟨1, 0, none⟩))), (8, (.int .i64 e19.2.2.2.1)), (9, (.bool e19.2.2.2.2.1)), (10, (.int .i64 e19.2.2.2.2.2)), (11, (.pointer (some ⟨2, 0, none⟩))), (12, (.int .i64 e.1))], ⟨3, [(2, .rw [(.int .i64 e.2.1), (.int .i64 e.2.2.1), (.int .i64 e.2.2.2)]), (1, .rw [(.int .i64 e19.1), (.int .i64 e19.2.1), (.int .i64 e19.2.2.1)]), (0, .rw [(VS 1 (a0.map eI)), (VS 1 (a1.map eI)), (.int .i64 a2), (VS 2 (a3.map e_SI))])], false⟩⟩) r22 ?_ ?_
              · refine pw_draw ?_;(conv=>whnf);refine pbr_ogrd h23 (fun _ h23 => ?_);(conv=>whnf);refine nth_o (l := a4) h23 (fun x26 _ h23 => ?_);(conv=>whnf);refine ⟨?_, ?_⟩
                · (conv=>whnf);obtain ⟨y27, h28, h23⟩ := obnd_some h23;refine (c37 h28).go ?_;(conv=>whnf);refine ⟨by repeat (first | exact trivial | refine And.intro rfl ?_), ?_⟩;(conv=>whnf);refine ⟨?_, ?_⟩
                  · (conv=>whnf);obtain ⟨y29, h30, h23⟩ := obnd_some h23;refine (c45 h30).go ?_;(conv=>whnf);refine ⟨by repeat (first | exact trivial | refine And.intro rfl ?_), ?_⟩;(conv=>whnf);refine ⟨?_, trivial⟩;(conv=>whnf);refine ⟨by repeat (first | exact trivial | refine And.intro rfl ?_), ?_⟩;(conv=>whnf);refine ⟨?_, trivial⟩;(conv=>whnf);refine ⟨by repeat (first | exact trivial | refine And.intro rfl ?_), ?_⟩;(conv=>whnf);cases h23;exact ⟨(.cons rfl (.cons rfl (.cons rfl (.cons rfl (.cons rfl (.cons rfl (.cons rfl (.cons rfl (.cons rfl .nil))))))))), rfl⟩
                  · obtain ⟨y29, h30, h23⟩ := obnd_some h23;(conv=>whnf);refine ⟨?_, trivial⟩;(conv=>whnf);refine ⟨by repeat (first | exact trivial | refine And.intro rfl ?_), ?_⟩;(conv=>whnf);refine ⟨?_, trivial⟩;(conv=>whnf);refine (c45 h30).go ?_;(conv=>whnf);refine ⟨by repeat (first | exact trivial | refine And.intro rfl ?_), ?_⟩;(conv=>whnf);refine ⟨?_, trivial⟩;(conv=>whnf);refine ⟨by repeat (first | exact trivial | refine And.intro rfl ?_), ?_⟩;(conv=>whnf);cases h23;exact ⟨(.cons rfl (.cons rfl (.cons rfl (.cons rfl (.cons rfl (.cons rfl (.cons rfl (.cons rfl (.cons rfl .nil))))))))), rfl⟩
                · obtain ⟨y27, h28, h23⟩ := obnd_some h23;obtain ⟨y29, h30, h23⟩ := obnd_some h23;(conv=>whnf);refine ⟨?_, trivial⟩;(conv=>whnf);refine ⟨by repeat (first | exact trivial | refine And.intro rfl ?_), ?_⟩;(conv=>whnf);refine ⟨?_, trivial⟩;(conv=>whnf);refine (c37 h28).go ?_;(conv=>whnf);refine ⟨by repeat (first | exact trivial | refine And.intro rfl ?_), ?_⟩;(conv=>whnf);refine ⟨?_, trivial⟩;(conv=>whnf);refine (c45 h30).go ?_;(conv=>whnf);refine ⟨by repeat (first | exact trivial | refine And.intro rfl ?_), ?_⟩;(conv=>whnf);refine ⟨?_, trivial⟩;(conv=>whnf);refine ⟨by repeat (first | exact trivial | refine And.intro rfl ?_), ?_⟩
                  (conv=>whnf);cases h23;exact ⟨(.cons rfl (.cons rfl (.cons rfl (.cons rfl (.cons rfl (.cons rfl (.cons rfl (.cons rfl (.cons rfl .nil))))))))), rfl⟩
              · refine pw_seq ?_;refine pw_so ?_;refine po_all ?_;(conv=>whnf);refine pbr_ogrd h21 (fun _ h21 => ?_);(conv=>whnf);refine nth_o (l := a4) h21 (fun x31 _ h21 => ?_);(conv=>whnf);obtain ⟨y32, h33, h21⟩ := obnd_some h21;refine (c40 h33).go ?_;(conv=>whnf);refine pw_cond ?_;(conv=>whnf);refine pbr_oite h21 (fun _ h21 => ?_) (fun _ h21 => ?_)
                · (conv=>whnf);refine pw_so ?_;refine po_all ?_;(conv=>whnf);refine pw_ret ?_;(conv=>whnf);cases h21;refine ⟨_, rfl, ?_⟩; rintro rfl;(conv=>whnf);obtain rfl := h18 _ rfl; rfl
                · (conv=>whnf);refine pw_skip ?_;(conv=>whnf);refine pw_sd ?_;(conv=>whnf);refine pbr_t (by assumption) ?_;(conv=>whnf);refine nth_o (l := a4) h21 (fun x35 _ h21 => ?_);(conv=>whnf);refine ⟨?_, trivial⟩;(conv=>whnf);obtain ⟨y36, h37, h21⟩ := obnd_some h21;refine (c37 h37).go ?_;(conv=>whnf);refine ⟨by repeat (first | exact trivial | refine And.intro rfl ?_), ?_⟩;(conv=>whnf);refine ⟨?_, trivial⟩;(conv=>whnf);obtain ⟨y38, h39, h21⟩ := obnd_some h21;refine (c44 h39).go ?_;(conv=>whnf);refine ⟨by repeat (first | exact trivial | refine And.intro rfl ?_), ?_⟩;(conv=>whnf);refine pw_seq ?_;obtain ⟨r40, h41, h21⟩ := obnd_some h21
                  refine pw_join (ρ := Bool) (fun e => ⟨[(1, (VS 1 (a4.map eI))), (2, (VS 2 (a5.map e_SI))), (3, (.pointer (some ⟨0, 0, none⟩))), (7, (.pointer (some ⟨1, 0, none⟩))), (8, (.int .i64 e19.2.2.2.1)), (9, (.bool e19.2.2.2.2.1)), (10, (.int .i64 e19.2.2.2.2.2)), (11, (.pointer (some ⟨2, 0, none⟩))), (13, (.int .i64 y38.1)), (87, (.bool e))], ⟨3, [(2, .rw [(.int .i64 r22.2.1), (.int .i64 r22.2.2.1), (.int .i64 r22.2.2.2)]), (1, .rw [(.int .i64 e19.1), (.int .i64 e19.2.1), (.int .i64 e19.2.2.1)]), (0, .rw [(VS 1 (a0.map eI)), (VS 1 (a1.map eI)), (.int .i64 a2), (VS 2 (a3.map e_SI))])], false⟩⟩) r40 ?_ ?_
                  · refine pw_ops ?_;refine po_ops 3 ?_;(conv=>whnf);obtain ⟨r44, h45, h41⟩ := obnd_some h41;refine po_seg (τ := Bool) 3 (fun e => ⟨[(1, (VS 1 (a4.map eI))), (2, (VS 2 (a5.map e_SI))), (3, (.pointer (some ⟨0, 0, none⟩))), (7, (.pointer (some ⟨1, 0, none⟩))), (8, (.int .i64 e19.2.2.2.1)), (9, (.bool e19.2.2.2.2.1)), (10, (.int .i64 e19.2.2.2.2.2)), (11, (.pointer (some ⟨2, 0, none⟩))), (13, (.int .i64 y38.1)), (81, (.bool e))], ⟨3, [(2, .rw [(.int .i64 r22.2.1), (.int .i64 r22.2.2.1), (.int .i64 r22.2.2.2)]), (1, .rw [(.int .i64 e19.1), (.int .i64 e19.2.1), (.int .i64 e19.2.2.1)]), (0, .rw [(VS 1 (a0.map eI)), (VS 1 (a1.map eI)), (.int .i64 a2), (VS 2 (a3.map e_SI))])], false⟩⟩) r44 ?_ ?_
                    · refine po_all ?_;(conv=>whnf);refine pbr_oite h45 (fun _ h45 => ?_) (fun _ h45 => ?_)
                      · (conv=>whnf);refine pbr_t (by assumption) ?_;(conv=>whnf);refine pbr_t (by assumption) ?_;(conv=>whnf);cases h45;exact ⟨(.cons rfl (.cons rfl (.cons rfl (.cons rfl (.cons rfl (.cons rfl (.cons rfl (.cons rfl (.cons rfl (.cons rfl .nil)))))))))), rfl⟩
                      · (conv=>whnf);refine pbr_f (by assumption) ?_;(conv=>whnf);refine pbr_f (by assumption) ?_;(conv=>whnf);cases h45;exact ⟨(.cons rfl (.cons rfl (.cons rfl (.cons rfl (.cons rfl (.cons rfl (.cons rfl (.cons rfl (.cons rfl (.cons rfl .nil)))))))))), rfl⟩
                    · refine po_all ?_;(conv=>whnf);refine pbr_oite h41 (fun _ h41 => ?_) (fun _ h41 => ?_)
                      · (conv=>whnf);refine pbr_t (by assumption) ?_;(conv=>whnf);refine pbr_t (by assumption) ?_;(conv=>whnf);refine pbr_t (by assumption) ?_;(conv=>whnf);refine pbr_t (by assumption) ?_;(conv=>whnf);cases h41;exact ⟨(.cons rfl (.cons rfl (.cons rfl (.cons rfl (.cons rfl (.cons rfl (.cons rfl (.cons rfl (.cons rfl (.cons rfl .nil)))))))))), rfl⟩
                      · (conv=>whnf);refine pbr_f (by assumption) ?_;(conv=>whnf);refine pbr_f (by assumption) ?_;(conv=>whnf);obtain ⟨y46, h47, h41⟩ := obnd_some h41;refine (c48 h47).go ?_;(conv=>whnf);refine pbr_f (by assumption) ?_;(conv=>whnf);refine pbr_f (by assumption) ?_;(conv=>whnf);cases h41;exact ⟨(.cons rfl (.cons rfl (.cons rfl (.cons rfl (.cons rfl (.cons rfl (.cons rfl (.cons rfl (.cons rfl (.cons rfl .nil)))))))))), rfl⟩
                  · refine pw_cond ?_;(conv=>whnf);refine pbr_oite h21 (fun _ h21 => ?_) (fun _ h21 => ?_)
                    · (conv=>whnf);refine pw_so ?_;refine po_all ?_;(conv=>whnf);refine pw_ret ?_;(conv=>whnf);cases h21;refine ⟨_, rfl, ?_⟩; rintro rfl;(conv=>whnf);obtain rfl := h18 _ rfl; rfl
                    · (conv=>whnf);refine pw_skip ?_;(conv=>whnf);refine pw_so ?_;refine po_all ?_;(conv=>whnf);refine pw_seq ?_;obtain ⟨r49, h50, h21⟩ := obnd_some h21;refine pw_join (ρ := Bool) (fun e => ⟨[(1, (VS 1 (a4.map eI))), (2, (VS 2 (a5.map e_SI))), (3, (.pointer (some ⟨0, 0, none⟩))), (7, (.pointer (some ⟨1, 0, none⟩))), (8, (.int .i64 (imax e19.2.2.2.1 y38.1))), (9, (.bool e19.2.2.2.2.1)), (10, (.int .i64 e19.2.2.2.2.2)), (11, (.pointer (some ⟨2, 0, none⟩))), (13, (.int .i64 y38.1)), (111, (.bool e))], ⟨3, [(2, .rw [(.int .i64 r22.2.1), (.int .i64 r22.2.2.1), (.int .i64 r22.2.2.2)]), (1, .rw [(.int .i64 e19.1), (.int .i64 e19.2.1), (.int .i64 e19.2.2.1)]), (0, .rw [(VS 1 (a0.map eI)), (VS 1 (a1.map eI)), (.int .i64 a2), (VS 2 (a3.map e_SI))])], false⟩⟩) r49 ?_ ?_
                      · refine pw_ops ?_;refine po_ops 5 ?_;(conv=>whnf);obtain ⟨r53, h54, h50⟩ := obnd_some h50;refine po_seg (τ := Bool) 6 (fun e => ⟨[(1, (VS 1 (a4.map eI))), (2, (VS 2 (a5.map e_SI))), (3, (.pointer (some ⟨0, 0, none⟩))), (7, (.pointer (some ⟨1, 0, none⟩))), (8, (.int .i64 (imax e19.2.2.2.1 y38.1))), (9, (.bool e19.2.2.2.2.1)), (10, (.int .i64 e19.2.2.2.2.2)), (11, (.pointer (some ⟨2, 0, none⟩))), (13, (.int .i64 y38.1)), (101, (.bool e))], ⟨3, [(2, .rw [(.int .i64 r22.2.1), (.int .i64 r22.2.2.1), (.int .i64 r22.2.2.2)]), (1, .rw [(.int .i64 e19.1), (.int .i64 e19.2.1), (.int .i64 e19.2.2.1)]), (0, .rw [(VS 1 (a0.map eI)), (VS 1 (a1.map eI)), (.int .i64 a2), (VS 2 (a3.map e_SI))])], false⟩⟩) r53 ?_ ?_
                        · refine po_all ?_;(conv=>whnf);refine pbr_oite h54 (fun _ h54 => ?_) (fun _ h54 => ?_)
                          · (conv=>whnf);refine pbr_t (by assumption) ?_;(conv=>whnf);refine pbr_t (by assumption) ?_;(conv=>whnf);refine pbr_t (by assumption) ?_;(conv=>whnf);refine pbr_t (by assumption) ?_;(conv=>whnf);refine pbr_t (by assumption) ?_;(conv=>whnf);cases h54;exact ⟨(.cons rfl (.cons rfl (.cons rfl (.cons rfl (.cons rfl (.cons rfl (.cons rfl (.cons rfl (.cons rfl (.cons rfl .nil)))))))))), rfl⟩
                          · (conv=>whnf);refine pbr_f (by assumption) ?_;(conv=>whnf);refine pbr_f (by assumption) ?_;(conv=>whnf);refine pbr_f (by assumption) ?_;(conv=>whnf);refine pbr_f (by assumption) ?_;(conv=>whnf);refine pbr_f (by assumption) ?_;(conv=>whnf);cases h54;exact ⟨(.cons rfl (.cons rfl (.cons rfl (.cons rfl (.cons rfl (.cons rfl (.cons rfl (.cons rfl (.cons rfl (.cons rfl .nil)))))))))), rfl⟩
                        · refine po_ops 4 ?_;(conv=>whnf);refine pbr_oite h50 (fun _ h50 => ?_) (fun _ h50 => ?_)
                          · (conv=>whnf);refine pbr_t (by assumption) ?_;(conv=>whnf);refine pbr_t (by assumption) ?_;(conv=>whnf);refine po_ops 5 ?_;(conv=>whnf);refine pbr_t (by assumption) ?_;(conv=>whnf);refine po_all ?_;(conv=>whnf);refine pbr_t (by assumption) ?_;(conv=>whnf);cases h50;exact ⟨(.cons rfl (.cons rfl (.cons rfl (.cons rfl (.cons rfl (.cons rfl (.cons rfl (.cons rfl (.cons rfl (.cons rfl .nil)))))))))), rfl⟩
                          · (conv=>whnf);refine pbr_f (by assumption) ?_;(conv=>whnf);refine pbr_f (by assumption) ?_;(conv=>whnf);obtain ⟨r55, h56, h50⟩ := obnd_some h50;refine po_seg (τ := Bool) 5 (fun e => ⟨[(1, (VS 1 (a4.map eI))), (2, (VS 2 (a5.map e_SI))), (3, (.pointer (some ⟨0, 0, none⟩))), (7, (.pointer (some ⟨1, 0, none⟩))), (8, (.int .i64 (imax e19.2.2.2.1 y38.1))), (9, (.bool e19.2.2.2.2.1)), (10, (.int .i64 e19.2.2.2.2.2)), (11, (.pointer (some ⟨2, 0, none⟩))), (13, (.int .i64 y38.1)), (102, (.bool r53)), (103, (.bool e19.2.2.2.2.1)), (104, (.bool (!e19.2.2.2.2.1))), (105, (.bool (!e19.2.2.2.2.1))), (110, (.bool e))], ⟨3, [(2, .rw [(.int .i64 r22.2.1), (.int .i64 r22.2.2.1), (.int .i64 r22.2.2.2)]), (1, .rw [(.int .i64 e19.1), (.int .i64 e19.2.1), (.int .i64 e19.2.2.1)]), (0, .rw [(VS 1 (a0.map eI)), (VS 1 (a1.map eI)), (.int .i64 a2), (VS 2 (a3.map e_SI))])], false⟩⟩) r55 ?_ ?_
                            · refine po_all ?_;(conv=>whnf);refine pbr_oite h56 (fun _ h56 => ?_) (fun _ h56 => ?_)
                              · (conv=>whnf);refine pbr_t (by assumption) ?_;(conv=>whnf);refine pbr_t (by assumption) ?_;(conv=>whnf);refine pbr_t (by assumption) ?_;(conv=>whnf);refine pbr_f (by assumption) ?_;(conv=>whnf);refine pbr_t (by assumption) ?_;(conv=>whnf);cases h56;exact ⟨(.cons rfl (.cons rfl (.cons rfl (.cons rfl (.cons rfl (.cons rfl (.cons rfl (.cons rfl (.cons rfl (.cons rfl (.cons rfl (.cons rfl (.cons rfl (.cons rfl .nil)))))))))))))), rfl⟩
                              · (conv=>whnf);refine pbr_f (by assumption) ?_;(conv=>whnf);refine pbr_f (by assumption) ?_;(conv=>whnf);refine pbr_f (by assumption) ?_;(conv=>whnf);refine pbr_f (by assumption) ?_;(conv=>whnf);refine pbr_f (by assumption) ?_;(conv=>whnf);cases h56;exact ⟨(.cons rfl (.cons rfl (.cons rfl (.cons rfl (.cons rfl (.cons rfl (.cons rfl (.cons rfl (.cons rfl (.cons rfl (.cons rfl (.cons rfl (.cons rfl (.cons rfl .nil)))))))))))))), rfl⟩
                            · refine po_all ?_;(conv=>whnf);refine pbr_f (by assumption) ?_;(conv=>whnf);cases h50;exact ⟨(.cons rfl (.cons rfl (.cons rfl (.cons rfl (.cons rfl (.cons rfl (.cons rfl (.cons rfl (.cons rfl (.cons rfl .nil)))))))))), rfl⟩
                      · refine pw_cond ?_;(conv=>whnf);refine pbr_oite h21 (fun _ h21 => ?_) (fun _ h21 => ?_)
                        · (conv=>whnf);refine pw_so ?_;refine po_all ?_;(conv=>whnf);refine pw_ret ?_;(conv=>whnf);cases h21;refine ⟨_, rfl, ?_⟩; rintro rfl;(conv=>whnf);obtain rfl := h18 _ rfl; rfl
                        · (conv=>whnf);refine pw_skip ?_;(conv=>whnf);refine pw_so ?_;refine po_all ?_;(conv=>whnf);refine pw_seq ?_;refine pw_so ?_;refine po_all ?_;(conv=>whnf);refine pbr_oite h21 (fun _ h21 => ?_) (fun _ h21 => ?_)
                          · (conv=>whnf);refine pbr_t (by assumption) ?_;(conv=>whnf);refine pbr_t (by assumption) ?_;(conv=>whnf);refine pbr_t (by assumption) ?_;(conv=>whnf);refine pbr_t (by assumption) ?_;(conv=>whnf);refine pbr_t (by assumption) ?_;(conv=>whnf);refine pbr_t (by assumption) ?_;(conv=>whnf);refine pbr_t (by assumption) ?_;(conv=>whnf);refine pw_cond ?_;(conv=>whnf);refine pw_exit ?_;(conv=>whnf);refine pw_ops ?_;refine po_all ?_;(conv=>whnf);cases h21;refine ⟨_, rfl, ?_⟩;refine Recast.trunc (Nat.le_of_ble_eq_true rfl) ?_ ?_
                            · repeat (first | exact .nil | refine .cons rfl (by first | exact OBnd.rwc (Nat.le_of_ble_eq_true rfl) rfl | exact OBnd.tail (Nat.le_of_ble_eq_true rfl) | trivial) ?_)
                            · repeat (first | exact .nil | refine .cons rfl (by first | exact Bnd.ptr (Nat.le_of_ble_eq_true rfl) | exact Bnd.vt (Nat.le_of_ble_eq_true rfl) | exact Bnd.cl) ?_)
                          · (conv=>whnf);refine pbr_f (by assumption) ?_;(conv=>whnf);refine pbr_f (by assumption) ?_;(conv=>whnf);refine pbr_t (by assumption) ?_;(conv=>whnf);refine nth_o (l := a5) h21 (fun x58 _ h21 => ?_);(conv=>whnf);refine pbr_f (by assumption) ?_;(conv=>whnf);refine pbr_f (by assumption) ?_;(conv=>whnf);refine pbr_f (by assumption) ?_;(conv=>whnf);refine pbr_f (by assumption) ?_;(conv=>whnf);refine pbr_f (by assumption) ?_;(conv=>whnf);refine pw_cond ?_;(conv=>whnf);refine pbr_oite h21 (fun _ h21 => ?_) (fun _ h21 => ?_)
                            · (conv=>whnf);refine pw_exit ?_;(conv=>whnf);refine pw_ops ?_;refine po_all ?_;(conv=>whnf);cases h21;refine ⟨_, rfl, ?_⟩;refine Recast.trunc (Nat.le_of_ble_eq_true rfl) ?_ ?_
                              · repeat (first | exact .nil | refine .cons rfl (by first | exact OBnd.rwc (Nat.le_of_ble_eq_true rfl) rfl | exact OBnd.tail (Nat.le_of_ble_eq_true rfl) | trivial) ?_)
                              · repeat (first | exact .nil | refine .cons rfl (by first | exact Bnd.ptr (Nat.le_of_ble_eq_true rfl) | exact Bnd.vt (Nat.le_of_ble_eq_true rfl) | exact Bnd.cl) ?_)
                            · (conv=>whnf);refine pw_skip ?_;(conv=>whnf);obtain ⟨r59, h60, h21⟩ := obnd_some h21;refine pw_join (ρ := Int × Int × Int × Int) (fun e => ⟨[(1, (VS 1 (a4.map eI))), (2, (VS 2 (a5.map e_SI))), (3, (.pointer (some ⟨0, 0, none⟩))), (7, (.pointer (some ⟨1, 0, none⟩))), (8, (.int .i64 (imax e19.2.2.2.1 y38.1))), (9, (.bool e19.2.2.2.2.1)), (10, (.int .i64 e19.2.2.2.2.2)), (13, (.int .i64 y38.1)), (15, (.pointer (some ⟨3, 0, none⟩))), (16, (.int .i64 e.1))], ⟨4, [(3, .rw [(.int .i64 e.2.1), (.int .i64 e.2.2.1), (.int .i64 e.2.2.2)]), (2, .rw [(.int .i64 r22.2.1), (.int .i64 r22.2.2.1), (.int .i64 r22.2.2.2)]), (1, .rw [(.int .i64 r22.2.1), (.int .i64 r22.2.2.1), (.int .i64 r22.2.2.2)]), (0, .rw [(VS 1 (a0.map eI)), (VS 1 (a1.map eI)), (.int .i64 a2), (VS 2 (a3.map e_SI))])], false⟩⟩) r59 ?_ ?_
                              · refine pw_draw ?_;(conv=>whnf);refine pbr_t (by assumption) ?_;(conv=>whnf);refine nth_o (l := a5) h60 (fun x63 _ h60 => ?_);(conv=>whnf);refine ⟨?_, ?_⟩
                                · (conv=>whnf);obtain ⟨y64, h65, h60⟩ := obnd_some h60;refine (c37 h65).go ?_;(conv=>whnf);refine ⟨by repeat (first | exact trivial | refine And.intro rfl ?_), ?_⟩;(conv=>whnf);refine ⟨?_, ?_⟩
                                  · (conv=>whnf);obtain ⟨y66, h67, h60⟩ := obnd_some h60;refine (c169 h67).go ?_;(conv=>whnf);refine ⟨by repeat (first | exact trivial | refine And.intro rfl ?_), ?_⟩;(conv=>whnf);refine ⟨?_, trivial⟩;(conv=>whnf);refine ⟨by repeat (first | exact trivial | refine And.intro rfl ?_), ?_⟩;(conv=>whnf);refine ⟨?_, trivial⟩;(conv=>whnf);refine ⟨by repeat (first | exact trivial | refine And.intro rfl ?_), ?_⟩;(conv=>whnf);cases h60;exact ⟨(.cons rfl (.cons rfl (.cons rfl (.cons rfl (.cons rfl (.cons rfl (.cons rfl (.cons rfl (.cons rfl (.cons rfl .nil)))))))))), rfl⟩
                                  · obtain ⟨y66, h67, h60⟩ := obnd_some h60;(conv=>whnf);refine ⟨?_, trivial⟩;(conv=>whnf);refine ⟨by repeat (first | exact trivial | refine And.intro rfl ?_), ?_⟩;(conv=>whnf);refine ⟨?_, trivial⟩;(conv=>whnf);refine (c169 h67).go ?_;(conv=>whnf);refine ⟨by repeat (first | exact trivial | refine And.intro rfl ?_), ?_⟩;(conv=>whnf);refine ⟨?_, trivial⟩;(conv=>whnf);refine ⟨by repeat (first | exact trivial | refine And.intro rfl ?_), ?_⟩;(conv=>whnf);cases h60;exact ⟨(.cons rfl (.cons rfl (.cons rfl (.cons rfl (.cons rfl (.cons rfl (.cons rfl (.cons rfl (.cons rfl (.cons rfl .nil)))))))))), rfl⟩
                                · obtain ⟨y64, h65, h60⟩ := obnd_some h60;obtain ⟨y66, h67, h60⟩ := obnd_some h60;(conv=>whnf);refine ⟨?_, trivial⟩;(conv=>whnf);refine ⟨by repeat (first | exact trivial | refine And.intro rfl ?_), ?_⟩;(conv=>whnf);refine ⟨?_, trivial⟩;(conv=>whnf);refine (c37 h65).go ?_;(conv=>whnf);refine ⟨by repeat (first | exact trivial | refine And.intro rfl ?_), ?_⟩;(conv=>whnf);refine ⟨?_, trivial⟩;(conv=>whnf);refine (c169 h67).go ?_;(conv=>whnf);refine ⟨by repeat (first | exact trivial | refine And.intro rfl ?_), ?_⟩;(conv=>whnf);refine ⟨?_, trivial⟩;(conv=>whnf);refine ⟨by repeat (first | exact trivial | refine And.intro rfl ?_), ?_⟩
                                  (conv=>whnf);cases h60;exact ⟨(.cons rfl (.cons rfl (.cons rfl (.cons rfl (.cons rfl (.cons rfl (.cons rfl (.cons rfl (.cons rfl (.cons rfl .nil)))))))))), rfl⟩
                              · refine pw_seq ?_;refine pw_so ?_;refine po_all ?_;(conv=>whnf);refine pw_cond ?_;(conv=>whnf);refine pbr_oite h21 (fun _ h21 => ?_) (fun _ h21 => ?_)
                                · (conv=>whnf);refine pw_exit ?_;(conv=>whnf);refine pw_ops ?_;refine po_all ?_;(conv=>whnf);cases h21;refine ⟨_, rfl, ?_⟩;refine Recast.trunc (Nat.le_of_ble_eq_true rfl) ?_ ?_
                                  · repeat (first | exact .nil | refine .cons rfl (by first | exact OBnd.rwc (Nat.le_of_ble_eq_true rfl) rfl | exact OBnd.tail (Nat.le_of_ble_eq_true rfl) | trivial) ?_)
                                  · repeat (first | exact .nil | refine .cons rfl (by first | exact Bnd.ptr (Nat.le_of_ble_eq_true rfl) | exact Bnd.vt (Nat.le_of_ble_eq_true rfl) | exact Bnd.cl) ?_)
                                · (conv=>whnf);refine pw_skip ?_;(conv=>whnf);refine pw_so ?_;refine po_all ?_;(conv=>whnf);obtain ⟨r68, h69, h21⟩ := obnd_some h21;refine pw_join (ρ := Int) (fun e => ⟨[(1, (VS 1 (a4.map eI))), (2, (VS 2 (a5.map e_SI))), (3, (.pointer (some ⟨0, 0, none⟩))), (7, (.pointer (some ⟨1, 0, none⟩))), (10, (.int .i64 e19.2.2.2.2.2)), (13, (.int .i64 y38.1)), (15, (.pointer (some ⟨3, 0, none⟩))), (17, (.int .i64 e))], ⟨4, [(3, .rw [(.int .i64 r59.2.1), (.int .i64 r59.2.2.1), (.int .i64 r59.2.2.2)]), (2, .rw [(.int .i64 r22.2.1), (.int .i64 r22.2.2.1), (.int .i64 r22.2.2.2)]), (1, .rw [(.int .i64 r22.2.1), (.int .i64 r22.2.2.1), (.int .i64 r22.2.2.2)]), (0, .rw [(VS 1 (a0.map eI)), (VS 1 (a1.map eI)), (.int .i64 a2), (VS 2 (a3.map e_SI))])], false⟩⟩) r68 ?_ ?_
                                  · refine pw_so ?_;refine po_all ?_;(conv=>whnf);refine pw_block ?_;refine pw_loop (τ := Int × Int) (fun e => ⟨[(1, (VS 1 (a4.map eI))), (2, (VS 2 (a5.map e_SI))), (3, (.pointer (some ⟨0, 0, none⟩))), (7, (.pointer (some ⟨1, 0, none⟩))), (10, (.int .i64 e19.2.2.2.2.2)), (13, (.int .i64 y38.1)), (15, (.pointer (some ⟨3, 0, none⟩))), (17, (.int .i64 e.1)), (18, (.int .i64 e.2))], ⟨4, [(3, .rw [(.int .i64 r59.2.1), (.int .i64 r59.2.2.1), (.int .i64 r59.2.2.2)]), (2, .rw [(.int .i64 r22.2.1), (.int .i64 r22.2.2.1), (.int .i64 r22.2.2.2)]), (1, .rw [(.int .i64 r22.2.1), (.int .i64 r22.2.2.1), (.int .i64 r22.2.2.2)]), (0, .rw [(VS 1 (a0.map eI)), (VS 1 (a1.map eI)), (.int .i64 a2), (VS 2 (a3.map e_SI))])], false⟩⟩) h69 ?_ (fun _ => Nat.le_of_ble_eq_true rfl) ?_
                                    · exact .sub' (Nat.le_of_ble_eq_true rfl) (.cons rfl (.cons rfl (.cons rfl (.cons rfl (.cons rfl (.cons rfl (.cons rfl (.cons rfl (.cons rfl .nil)))))))))
                                    · intro e72 x73 h74; unfold l165_1 at h74;refine pw_seq ?_;refine pw_so ?_;refine po_all ?_;(conv=>whnf);refine pw_cond ?_;(conv=>whnf);refine pbr_oite h74 (fun _ h74 => ?_) (fun _ h74 => ?_)
                                      · (conv=>whnf);refine pw_skip ?_;(conv=>whnf);refine pw_seq ?_;refine pw_block ?_;refine pw_sd ?_;(conv=>whnf);refine pbr_ogrd h74 (fun _ h74 => ?_);(conv=>whnf);refine nth_o (l := a3) h74 (fun x75 _ h74 => ?_);(conv=>whnf);refine pbr_t (by assumption) ?_;(conv=>whnf);refine nth_o (l := a5) h74 (fun x76 _ h74 => ?_);(conv=>whnf);refine pw_cond ?_;(conv=>whnf);refine pbr_oite h74 (fun _ h74 => ?_) (fun _ h74 => ?_)
                                        · (conv=>whnf);refine pw_ops ?_;refine po_all ?_;(conv=>whnf);refine pbr_t (by assumption) ?_;(conv=>whnf);refine nth_o (l := a3) h74 (fun x77 _ h74 => ?_);(conv=>whnf);refine pw_ops ?_;refine po_all ?_;(conv=>whnf);cases h74;refine ⟨_, rfl, ?_⟩;exact .sub' (Nat.le_of_ble_eq_true rfl) (.cons rfl (.cons rfl (.cons rfl (.cons rfl (.cons rfl (.cons rfl (.cons rfl (.cons rfl (.cons rfl .nil)))))))))
                                        · (conv=>whnf);refine pw_skip ?_;(conv=>whnf);refine pw_ops ?_;refine po_all ?_;(conv=>whnf);cases h74;refine ⟨_, rfl, ?_⟩;exact .sub' (Nat.le_of_ble_eq_true rfl) (.cons rfl (.cons rfl (.cons rfl (.cons rfl (.cons rfl (.cons rfl (.cons rfl (.cons rfl (.cons rfl .nil)))))))))
                                      · (conv=>whnf);refine pw_exit ?_;(conv=>whnf);cases h74;refine ⟨_, rfl, ?_⟩; rintro rfl;(conv=>whnf);exact ⟨(.cons rfl (.cons rfl (.cons rfl (.cons rfl (.cons rfl (.cons rfl (.cons rfl (.cons rfl .nil)))))))), rfl⟩
                                  · refine pw_seq ?_;obtain ⟨r79, h80, h21⟩ := obnd_some h21;refine pw_join (ρ := Bool) (fun e => ⟨[(1, (VS 1 (a4.map eI))), (2, (VS 2 (a5.map e_SI))), (3, (.pointer (some ⟨0, 0, none⟩))), (7, (.pointer (some ⟨1, 0, none⟩))), (10, (.int .i64 e19.2.2.2.2.2)), (15, (.pointer (some ⟨3, 0, none⟩))), (204, (.bool e))], ⟨4, [(3, .rw [(.int .i64 r59.2.1), (.int .i64 r59.2.2.1), (.int .i64 r59.2.2.2)]), (2, .rw [(.int .i64 r22.2.1), (.int .i64 r22.2.2.1), (.int .i64 r22.2.2.2)]), (1, .rw [(.int .i64 r22.2.1), (.int .i64 r22.2.2.1), (.int .i64 r22.2.2.2)]), (0, .rw [(VS 1 (a0.map eI)), (VS 1 (a1.map eI)), (.int .i64 a2), (VS 2 (a3.map e_SI))])], false⟩⟩) r79 ?_ ?_
                                    · refine pw_draw ?_;(conv=>whnf);refine pbr_oite h80 (fun _ h80 => ?_) (fun _ h80 => ?_)
                                      · (conv=>whnf);refine pbr_t (by assumption) ?_;(conv=>whnf);refine pbr_t (by assumption) ?_;(conv=>whnf);refine pbr_t (by assumption) ?_;(conv=>whnf);refine pbr_t (by assumption) ?_;(conv=>whnf);refine ⟨?_, trivial⟩;(conv=>whnf);cases h80;exact ⟨(.cons rfl (.cons rfl (.cons rfl (.cons rfl (.cons rfl (.cons rfl (.cons rfl .nil))))))), rfl⟩
                                      · (conv=>whnf);refine pbr_f (by assumption) ?_;(conv=>whnf);refine pbr_f (by assumption) ?_;(conv=>whnf);refine pbr_f (by assumption) ?_;(conv=>whnf);refine pbr_f (by assumption) ?_;(conv=>whnf);refine pbr_oite h80 (fun _ h80 => ?_) (fun _ h80 => ?_)
                                        · (conv=>whnf);refine pbr_t (by assumption) ?_;(conv=>whnf);refine pbr_t (by assumption) ?_;(conv=>whnf);refine pbr_t (by assumption) ?_;(conv=>whnf);refine pbr_t (by assumption) ?_;(conv=>whnf);refine pbr_t (by assumption) ?_;(conv=>whnf);refine pbr_t (by assumption) ?_;(conv=>whnf);refine pbr_t (by assumption) ?_;(conv=>whnf);refine pbr_t (by assumption) ?_;(conv=>whnf);refine ⟨?_, trivial⟩;(conv=>whnf);cases h80;exact ⟨(.cons rfl (.cons rfl (.cons rfl (.cons rfl (.cons rfl (.cons rfl (.cons rfl .nil))))))), rfl⟩
                                        · (conv=>whnf);refine pbr_f (by assumption) ?_;(conv=>whnf);refine pbr_f (by assumption) ?_;(conv=>whnf);refine pbr_f (by assumption) ?_;(conv=>whnf);refine pbr_f (by assumption) ?_;(conv=>whnf);refine pbr_t (by assumption) ?_;(conv=>whnf);refine nth_o (l := a5) h80 (fun x83 _ h80 => ?_);(conv=>whnf);refine pbr_f (by assumption) ?_;(conv=>whnf);refine pbr_f (by assumption) ?_;(conv=>whnf);refine pbr_f (by assumption) ?_;(conv=>whnf);refine pbr_f (by assumption) ?_;(conv=>whnf);refine pbr_oite h80 (fun _ h80 => ?_) (fun _ h80 => ?_)
                                          · (conv=>whnf);refine pbr_t (by assumption) ?_;(conv=>whnf);refine pbr_t (by assumption) ?_;(conv=>whnf);refine pbr_t (by assumption) ?_;(conv=>whnf);refine pbr_t (by assumption) ?_;(conv=>whnf);refine ⟨?_, trivial⟩;(conv=>whnf);refine pbr_t (by assumption) ?_;(conv=>whnf);refine pbr_t (by assumption) ?_;(conv=>whnf);refine pbr_t (by assumption) ?_;(conv=>whnf);cases h80;exact ⟨(.cons rfl (.cons rfl (.cons rfl (.cons rfl (.cons rfl (.cons rfl (.cons rfl .nil))))))), rfl⟩
                                          · (conv=>whnf);refine pbr_f (by assumption) ?_;(conv=>whnf);refine pbr_f (by assumption) ?_;(conv=>whnf);refine pbr_f (by assumption) ?_;(conv=>whnf);refine pbr_f (by assumption) ?_;(conv=>whnf);refine ⟨?_, trivial⟩;(conv=>whnf);refine pbr_f (by assumption) ?_;(conv=>whnf);obtain ⟨y84, h85, h80⟩ := obnd_some h80;refine (c15 h85).go ?_;(conv=>whnf);refine ⟨by repeat (first | exact trivial | refine And.intro rfl ?_), ?_⟩;(conv=>whnf);refine pbr_f (by assumption) ?_;(conv=>whnf);refine pbr_f (by assumption) ?_;(conv=>whnf);refine pbr_oite h80 (fun _ h80 => ?_) (fun _ h80 => ?_)
                                            · (conv=>whnf);refine pbr_t (by assumption) ?_;(conv=>whnf);refine pbr_t (by assumption) ?_;(conv=>whnf);refine pbr_t (by assumption) ?_;(conv=>whnf);cases h80;exact ⟨(.cons rfl (.cons rfl (.cons rfl (.cons rfl (.cons rfl (.cons rfl (.cons rfl .nil))))))), rfl⟩
                                            · (conv=>whnf);refine pbr_f (by assumption) ?_;(conv=>whnf);refine pbr_f (by assumption) ?_;(conv=>whnf);refine pbr_f (by assumption) ?_;(conv=>whnf);refine pbr_oite h80 (fun _ h80 => ?_) (fun _ h80 => ?_)
                                              · (conv=>whnf);refine pbr_t (by assumption) ?_;(conv=>whnf);refine pbr_t (by assumption) ?_;(conv=>whnf);refine pbr_t (by assumption) ?_;(conv=>whnf);refine pbr_t (by assumption) ?_;(conv=>whnf);refine pbr_t (by assumption) ?_;(conv=>whnf);cases h80;exact ⟨(.cons rfl (.cons rfl (.cons rfl (.cons rfl (.cons rfl (.cons rfl (.cons rfl .nil))))))), rfl⟩
                                              · (conv=>whnf);refine pbr_f (by assumption) ?_;(conv=>whnf);refine pbr_f (by assumption) ?_;(conv=>whnf);refine pbr_f (by assumption) ?_;(conv=>whnf);refine pbr_f (by assumption) ?_;(conv=>whnf);refine pbr_f (by assumption) ?_;(conv=>whnf);cases h80;exact ⟨(.cons rfl (.cons rfl (.cons rfl (.cons rfl (.cons rfl (.cons rfl (.cons rfl .nil))))))), rfl⟩
                                    · refine pw_cond ?_;(conv=>whnf);refine pbr_oite h21 (fun _ h21 => ?_) (fun _ h21 => ?_)
                                      · (conv=>whnf);refine pw_so ?_;refine po_all ?_;(conv=>whnf);refine pw_ret ?_;(conv=>whnf);cases h21;refine ⟨_, rfl, ?_⟩; rintro rfl;(conv=>whnf);obtain rfl := h18 _ rfl; rfl
                                      · (conv=>whnf);refine pw_skip ?_;(conv=>whnf);refine pw_ops ?_;refine po_all ?_;(conv=>whnf);refine pw_ops ?_;refine po_all ?_;(conv=>whnf);cases h21;refine ⟨_, rfl, ?_⟩;refine Recast.trunc (Nat.le_of_ble_eq_true rfl) ?_ ?_
                                        · repeat (first | exact .nil | refine .cons rfl (by first | exact OBnd.rwc (Nat.le_of_ble_eq_true rfl) rfl | exact OBnd.tail (Nat.le_of_ble_eq_true rfl) | trivial) ?_)
                                        · repeat (first | exact .nil | refine .cons rfl (by first | exact Bnd.ptr (Nat.le_of_ble_eq_true rfl) | exact Bnd.vt (Nat.le_of_ble_eq_true rfl) | exact Bnd.cl) ?_)
            · (conv=>whnf);refine pw_exit ?_;(conv=>whnf);cases h21;refine ⟨_, rfl, ?_⟩; rintro rfl;(conv=>whnf);exact ⟨_, rfl, ⟨(.cons rfl (.cons rfl (.cons rfl (.cons rfl .nil)))), rfl⟩⟩
        · intro r88 hr; have H := h17 _ hr;refine pw_so ?_;refine po_all ?_;(conv=>whnf);obtain ⟨y89, h90, H⟩ := obnd_some H;refine (c37 h90).go ?_;(conv=>whnf);obtain ⟨y91, h92, H⟩ := obnd_some H;refine (c38 h92).go ?_;(conv=>whnf);obtain ⟨y93, h94, H⟩ := obnd_some H;refine (c36 h94).go ?_;(conv=>whnf);refine pw_so ?_;refine po_ops 3 ?_;(conv=>whnf);obtain ⟨r95, h96, H⟩ := obnd_some H;refine po_seg (τ := Bool) 7 (fun e => ⟨[(223, (.bool e))], ⟨3, [(2, .rw [(.int .i64 y93.1), (.int .i64 y93.2.1), (.int .i64 y93.2.2.1)]), (1, .rw [(.int .i64 r88.2.1), (.int .i64 r88.2.2.1), (.int .i64 r88.2.2.2)]), (0, .rw [(VS 1 (a0.map eI)), (VS 1 (a1.map eI)), (.int .i64 a2), (VS 2 (a3.map e_SI))])], false⟩⟩) r95 ?_ ?_
          · refine po_all ?_;(conv=>whnf);refine pbr_oite h96 (fun _ h96 => ?_) (fun _ h96 => ?_)
            · (conv=>whnf);refine pbr_t (by assumption) ?_;(conv=>whnf);refine pbr_oite h96 (fun _ h96 => ?_) (fun _ h96 => ?_)
              · (conv=>whnf);refine pbr_t (by assumption) ?_;(conv=>whnf);refine pbr_t (by assumption) ?_;(conv=>whnf);refine pbr_t (by assumption) ?_;(conv=>whnf);refine pbr_t (by assumption) ?_;(conv=>whnf);refine pbr_t (by assumption) ?_;(conv=>whnf);cases h96;exact ⟨(.cons rfl .nil), rfl⟩
              · (conv=>whnf);refine pbr_f (by assumption) ?_;(conv=>whnf);refine pbr_f (by assumption) ?_;(conv=>whnf);refine pbr_t (by assumption) ?_;(conv=>whnf);refine pbr_f (by assumption) ?_;(conv=>whnf);refine pbr_t (by assumption) ?_;(conv=>whnf);cases h96;exact ⟨(.cons rfl .nil), rfl⟩
            · (conv=>whnf);refine pbr_f (by assumption) ?_;(conv=>whnf);refine pbr_f (by assumption) ?_;(conv=>whnf);refine pbr_f (by assumption) ?_;(conv=>whnf);cases h96;exact ⟨(.cons rfl .nil), rfl⟩
          · refine po_all ?_;(conv=>whnf);refine pw_ret ?_;(conv=>whnf);cases H; rfl

end Go.Proofs.YtfdapegcngmknaaGreat.AM
