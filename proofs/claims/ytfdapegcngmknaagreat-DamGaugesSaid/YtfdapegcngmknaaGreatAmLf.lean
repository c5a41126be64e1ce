/- Computations of functions, and that the functions do them (printed by tools/lift.py). Conditions: none. -/
import Derived.Test.YtfdapegcngmknaaGreatAmLf0
namespace Go.Proofs.YtfdapegcngmknaaGreat.AM
set_option linter.unusedSimpArgs false
set_option linter.unusedVariables false
open Go Go.RowKit
attribute [local irreducible] ICallV ICalls Recast
/-- guidevane/dam.ResidualsOf -/
noncomputable def f56  (a0 : List (Int × Int × Int)) (a1 : Int) (a2 : Int) (a3 : Int) (a4 : Int) (a5 : Int) (a6 : Int) : Option ((List (Int × Int)) × Int) :=
  obnd (f93 a0) fun (y1 : Int) =>
  obnd (f98 a1 a2 a3 a4 a5 a6) fun (y3 : Int) =>
  obnd (f63 ([y1, y3] : List Int)) fun (y5 : Int) =>
  oite ((!(ieq y5 (0 : Int)))) (
   some (([] : List (Int × Int)), y5)
    ) (
   obnd (f99 a0 a1 a2 a3 a4 a5 a6) fun (y7 : (List (Int × Int))) =>
   some (y7, (0 : Int))
    )
set_option maxHeartbeats 1000000 in
theorem c56  {a0 : List (Int × Int × Int)} {a1 : Int} {a2 : Int} {a3 : Int} {a4 : Int} {a5 : Int} {a6 : Int} {x : (List (Int × Int)) × Int} (H : f56 a0 a1 a2 a3 a4 a5 a6 = some x) : ICalls E 56 [(VS 3 (a0.map e_III)), (.agg ⟨[(.int .i64 a1), (.int .i64 a2), (.int .i64 a3), (.int .i64 a4), (.int .i64 a5), (.int .i64 a6)]⟩)] AHeap.none fun v _ => v = (.tuple ⟨[(VS 2 (x.1.map e_II)), (.int .i64 x.2)]⟩) := by
  refine ICalls.frz ?_;refine icalls_fn (pfnw rfl ?_); unfold f56 at H;(conv=>whnf);refine pw_so ?_;refine po_all ?_;(conv=>whnf);refine pw_seq ?_;refine pw_sd ?_;(conv=>whnf);refine ⟨?_, trivial⟩;(conv=>whnf);obtain ⟨y1, h2, H⟩ := obnd_some H;refine (c93 h2).go ?_;(conv=>whnf);refine ⟨by repeat (first | exact trivial | refine And.intro rfl ?_), ?_⟩;(conv=>whnf);refine ⟨?_, trivial⟩;(conv=>whnf);obtain ⟨y3, h4, H⟩ := obnd_some H;refine (c98 h4).go ?_;(conv=>whnf);refine ⟨by repeat (first | exact trivial | refine And.intro rfl ?_), ?_⟩;(conv=>whnf);refine ⟨?_, trivial⟩;(conv=>whnf);refine ⟨by repeat (first | exact trivial | refine And.intro rfl ?_), ?_⟩
  (conv=>whnf);refine ⟨?_, trivial⟩;(conv=>whnf);obtain ⟨y5, h6, H⟩ := obnd_some H;refine ICalls.goW (c63 h6) (.cons (.vt _ _ _) .nil) ?_;(conv=>whnf);refine ⟨by repeat (first | exact trivial | refine And.intro rfl ?_), ?_⟩;(conv=>whnf);refine pw_so ?_;refine po_all ?_;(conv=>whnf);refine pw_cond ?_;(conv=>whnf);refine pbr_oite H (fun _ H => ?_) (fun _ H => ?_)
  · (conv=>whnf);refine pw_so ?_;refine po_all ?_;(conv=>whnf);refine pw_ret ?_;(conv=>whnf);cases H; show ∃ D, Fz _ D 0 (.tuple ⟨[(.slice none 0 0), (.int .i64 y5)]⟩) _;exact ⟨fun _ => false, .tuplel (.cons (.nil _) (.cons .cl (.nil)))⟩
  · (conv=>whnf);refine pw_skip ?_;(conv=>whnf);refine pw_so ?_;refine po_all ?_;(conv=>whnf);obtain ⟨y7, h8, H⟩ := obnd_some H;refine (c99 h8).go ?_;(conv=>whnf);refine pw_ret ?_;(conv=>whnf);cases H; show ∃ D, Fz _ D 0 (.tuple ⟨[(VS 2 _), (.int .i64 0)]⟩) _;exact ⟨fun _ => false, .tuplel (.cons .cl (.cons .cl (.nil)))⟩

/-- guidevane/dam.size -/
noncomputable def f100  (a0 : Int) : Option Int :=
  some (imax a0 (IntKind.i64.wrap (0 - a0)))
set_option maxHeartbeats 1000000 in
theorem c100  {a0 : Int} {x : Int} (H : f100 a0 = some x) : ICalls E 100 [(.int .i64 a0)] AHeap.none fun v _ => v = (.int .i64 x) := by
  refine icalls_fn (pfnw rfl ?_); unfold f100 at H;(conv=>whnf);refine pw_so ?_;refine po_all ?_;(conv=>whnf);refine pw_so ?_;refine po_all ?_;(conv=>whnf);refine pw_ret ?_;(conv=>whnf);cases H; rfl

/-- guidevane/dam.SpreadOf -/
noncomputable def f57  (a0 : List (Int × Int × Int)) (a1 : Int) (a2 : Int) (a3 : Int) (a4 : Int) (a5 : Int) (a6 : Int) : Option (Int × Int) :=
  obnd (f56 a0 a1 a2 a3 a4 a5 a6) fun (y1 : (List (Int × Int)) × Int) =>
  obnd (
   oloop (τ := Int × Int) (ρ := Int) (fun e7 =>
    oite ((ilt e7.2 ((y1.1.map e_II).length : Int))) (
     ogrd ((ile 0 e7.2)) (
     obnd (y1.1[e7.2.toNat]?) fun (x10 : Int × Int) =>
     obnd (f100 x10.1) fun (y11 : Int) =>
     obnd (f100 x10.2) fun (y13 : Int) =>
     some (.inl (((imax (imax e7.1 y11) y13), (IntKind.i64.wrap (e7.2 + (1 : Int))))))
     )
      ) (
     some (.inr (e7.1))
      )
     ) (((0 : Int), (0 : Int)))
    ) fun (r3 : Int) =>
  some (r3, y1.2)
set_option maxHeartbeats 1000000 in
theorem c57  {a0 : List (Int × Int × Int)} {a1 : Int} {a2 : Int} {a3 : Int} {a4 : Int} {a5 : Int} {a6 : Int} {x : Int × Int} (H : f57 a0 a1 a2 a3 a4 a5 a6 = some x) : ICalls E 57 [(VS 3 (a0.map e_III)), (.agg ⟨[(.int .i64 a1), (.int .i64 a2), (.int .i64 a3), (.int .i64 a4), (.int .i64 a5), (.int .i64 a6)]⟩)] AHeap.none fun v _ => v = (.tuple ⟨[(.int .i64 x.1), (.int .i64 x.2)]⟩) := by
  refine icalls_fn (pfnw rfl ?_); unfold f57 at H;(conv=>whnf);refine pw_so ?_;refine po_all ?_;(conv=>whnf);refine pw_so ?_;refine po_all ?_;(conv=>whnf);obtain ⟨y1, h2, H⟩ := obnd_some H;refine (c56 h2).go ?_;(conv=>whnf);refine pw_so ?_;refine po_all ?_;(conv=>whnf);obtain ⟨r3, h4, H⟩ := obnd_some H;refine pw_join (ρ := Int) (fun e => ⟨[(7, (.int .i64 y1.2)), (8, (.int .i64 e))], ⟨1, [(0, .rw [(.int .i64 a1), (.int .i64 a2), (.int .i64 a3), (.int .i64 a4), (.int .i64 a5), (.int .i64 a6)])], false⟩⟩) r3 ?_ ?_
  · refine pw_so ?_;refine po_all ?_;(conv=>whnf);refine pw_block ?_;refine pw_loop (τ := Int × Int) (fun e => ⟨[(7, (.int .i64 y1.2)), (8, (.int .i64 e.1)), (17, (VS 2 (y1.1.map e_II))), (18, (.int .i64 ((y1.1.map e_II).length : Int))), (19, (.int .i64 e.2))], ⟨1, [(0, .rw [(.int .i64 a1), (.int .i64 a2), (.int .i64 a3), (.int .i64 a4), (.int .i64 a5), (.int .i64 a6)])], false⟩⟩) h4 ?_ (fun _ => Nat.le_of_ble_eq_true rfl) ?_
    · exact .sub' (Nat.le_of_ble_eq_true rfl) (.cons rfl (.cons rfl (.cons rfl (.cons rfl (.cons rfl .nil)))))
    · intro e7 x8 h9;refine pw_so ?_;refine po_all ?_;(conv=>whnf);refine pw_seq ?_;refine pw_cond ?_;(conv=>whnf);refine pbr_oite h9 (fun _ h9 => ?_) (fun _ h9 => ?_)
      · (conv=>whnf);refine pw_skip ?_;(conv=>whnf);refine pw_seq ?_;refine pw_block ?_;refine pw_so ?_;refine po_all ?_;(conv=>whnf);refine pbr_ogrd h9 (fun _ h9 => ?_);(conv=>whnf);refine nth_o (l := y1.1) h9 (fun x10 _ h9 => ?_);(conv=>whnf);refine pw_draw ?_;(conv=>whnf);refine ⟨?_, trivial⟩;(conv=>whnf);obtain ⟨y11, h12, h9⟩ := obnd_some h9;refine (c100 h12).go ?_;(conv=>whnf);refine ⟨by repeat (first | exact trivial | refine And.intro rfl ?_), ?_⟩;(conv=>whnf);refine ⟨?_, trivial⟩;(conv=>whnf);obtain ⟨y13, h14, h9⟩ := obnd_some h9;refine (c100 h14).go ?_;(conv=>whnf);refine ⟨by repeat (first | exact trivial | refine And.intro rfl ?_), ?_⟩
        (conv=>whnf);refine ⟨?_, trivial⟩;(conv=>whnf);refine ⟨by repeat (first | exact trivial | refine And.intro rfl ?_), ?_⟩;(conv=>whnf);refine pw_ops ?_;refine po_all ?_;(conv=>whnf);cases h9;refine ⟨_, rfl, ?_⟩;refine Recast.trunc (Nat.le_of_ble_eq_true rfl) ?_ ?_
        · repeat (first | exact .nil | refine .cons rfl (by first | exact OBnd.rwc (Nat.le_of_ble_eq_true rfl) rfl | exact OBnd.tail (Nat.le_of_ble_eq_true rfl) | trivial) ?_)
        · repeat (first | exact .nil | refine .cons rfl (by first | exact Bnd.ptr (Nat.le_of_ble_eq_true rfl) | exact Bnd.vt (Nat.le_of_ble_eq_true rfl) | exact Bnd.cl) ?_)
      · (conv=>whnf);refine pw_exit ?_;(conv=>whnf);cases h9;refine ⟨_, rfl, ?_⟩; rintro rfl;(conv=>whnf);exact ⟨(.cons rfl (.cons rfl .nil)), rfl⟩
  · refine pw_so ?_;refine po_all ?_;(conv=>whnf);refine pw_ret ?_;(conv=>whnf);cases H; rfl

/-- guidevane/dam.ForecastOf -/
noncomputable def f59  (a0 : List (Int × Int × Int)) (a1 : Int) (a2 : Int) (a3 : Int) (a4 : Int) (a5 : Int) (a6 : Int) (a7 : Int) (a8 : Int) (a9 : Int) : Option (Int × Int × Int) :=
  obnd (f57 a0 a1 a2 a3 a4 a5 a6) fun (y1 : Int × Int) =>
  obnd (f33 a7 a8 a9) fun (y3 : Int) =>
  obnd (f63 ([y1.2, y3] : List Int)) fun (y5 : Int) =>
  oite ((!(ieq y5 (0 : Int)))) (
   some ((0 : Int), (0 : Int), y5)
    ) (
   obnd (
    obnd (f102 a1 a2 a3 a4 a5 a6 a7 a8 a9) fun (y11 : Int) =>
    obnd (f101 y11 a1) fun (y13 : Int × Int) =>
    some (y13.1, y13.2)
     ) fun (r7 : Int × Int) =>
   some ((IntKind.i64.wrap (r7.1 - y1.1)), (IntKind.i64.wrap (r7.2 + y1.1)), (0 : Int))
    )
set_option maxHeartbeats 1000000 in
theorem c59  {a0 : List (Int × Int × Int)} {a1 : Int} {a2 : Int} {a3 : Int} {a4 : Int} {a5 : Int} {a6 : Int} {a7 : Int} {a8 : Int} {a9 : Int} {x : Int × Int × Int} (H : f59 a0 a1 a2 a3 a4 a5 a6 a7 a8 a9 = some x) : ICalls E 59 [(VS 3 (a0.map e_III)), (.agg ⟨[(.int .i64 a1), (.int .i64 a2), (.int .i64 a3), (.int .i64 a4), (.int .i64 a5), (.int .i64 a6)]⟩), (.agg ⟨[(.int .i64 a7), (.int .i64 a8), (.int .i64 a9)]⟩)] AHeap.none fun v _ => v = (.tuple ⟨[(.agg ⟨[(.int .i64 x.1), (.int .i64 x.2.1)]⟩), (.int .i64 x.2.2)]⟩) := by
  refine icalls_fn (pfnw rfl ?_); unfold f59 at H;(conv=>whnf);refine pw_so ?_;refine po_all ?_;(conv=>whnf);refine pw_so ?_;refine po_all ?_;(conv=>whnf);obtain ⟨y1, h2, H⟩ := obnd_some H;refine (c57 h2).go ?_;(conv=>whnf);refine pw_seq ?_;refine pw_so ?_;refine po_all ?_;(conv=>whnf);obtain ⟨y3, h4, H⟩ := obnd_some H;refine (c33 h4).go ?_;(conv=>whnf);obtain ⟨y5, h6, H⟩ := obnd_some H;refine ICalls.goW (c63 h6) (.cons (.vt _ _ _) .nil) ?_;(conv=>whnf);refine pw_so ?_;refine po_all ?_;(conv=>whnf);refine pw_cond ?_;(conv=>whnf);refine pbr_oite H (fun _ H => ?_) (fun _ H => ?_)
  · (conv=>whnf);refine pw_so ?_;refine po_all ?_;(conv=>whnf);refine pw_ret ?_;(conv=>whnf);cases H; rfl
  · (conv=>whnf);refine pw_skip ?_;(conv=>whnf);obtain ⟨r7, h8, H⟩ := obnd_some H;refine pw_join (ρ := Int × Int) (fun e => ⟨[(6, (.pointer (some ⟨2, 0, none⟩))), (8, (.int .i64 y1.1)), (10, (.pointer (some ⟨4, 0, none⟩)))], ⟨5, [(4, .rw [(.int .i64 e.1), (.int .i64 e.2)]), (3, .tail 2 1), (2, .rw [(.int .i64 0), (.int .i64 0)]), (1, .rw [(.int .i64 a7), (.int .i64 a8), (.int .i64 a9)]), (0, .rw [(.int .i64 a1), (.int .i64 a2), (.int .i64 a3), (.int .i64 a4), (.int .i64 a5), (.int .i64 a6)])], false⟩⟩) r7 ?_ ?_
    · refine pw_draw ?_;(conv=>whnf);refine ⟨?_, ?_⟩
      · (conv=>whnf);obtain ⟨y11, h12, h8⟩ := obnd_some h8;refine (c102 h12).go ?_;(conv=>whnf);refine ⟨by repeat (first | exact trivial | refine And.intro rfl ?_), ?_⟩;(conv=>whnf);refine ⟨?_, ?_⟩
        · (conv=>whnf);obtain ⟨y13, h14, h8⟩ := obnd_some h8;refine (c101 h14).go ?_;(conv=>whnf);refine ⟨by repeat (first | exact trivial | refine And.intro rfl ?_), ?_⟩;(conv=>whnf);refine ⟨?_, trivial⟩;(conv=>whnf);refine ⟨by repeat (first | exact trivial | refine And.intro rfl ?_), ?_⟩;(conv=>whnf);refine ⟨?_, trivial⟩;(conv=>whnf);refine ⟨by repeat (first | exact trivial | refine And.intro rfl ?_), ?_⟩;(conv=>whnf);cases h8;exact ⟨(.cons rfl (.cons rfl (.cons rfl .nil))), rfl⟩
        · obtain ⟨y13, h14, h8⟩ := obnd_some h8;(conv=>whnf);refine ⟨?_, trivial⟩;(conv=>whnf);refine ⟨by repeat (first | exact trivial | refine And.intro rfl ?_), ?_⟩;(conv=>whnf);refine ⟨?_, trivial⟩;(conv=>whnf);refine (c101 h14).go ?_;(conv=>whnf);refine ⟨by repeat (first | exact trivial | refine And.intro rfl ?_), ?_⟩;(conv=>whnf);refine ⟨?_, trivial⟩;(conv=>whnf);refine ⟨by repeat (first | exact trivial | refine And.intro rfl ?_), ?_⟩;(conv=>whnf);cases h8;exact ⟨(.cons rfl (.cons rfl (.cons rfl .nil))), rfl⟩
      · obtain ⟨y11, h12, h8⟩ := obnd_some h8;obtain ⟨y13, h14, h8⟩ := obnd_some h8;(conv=>whnf);refine ⟨?_, trivial⟩;(conv=>whnf);refine ⟨by repeat (first | exact trivial | refine And.intro rfl ?_), ?_⟩;(conv=>whnf);refine ⟨?_, trivial⟩;(conv=>whnf);refine (c102 h12).go ?_;(conv=>whnf);refine ⟨by repeat (first | exact trivial | refine And.intro rfl ?_), ?_⟩;(conv=>whnf);refine ⟨?_, trivial⟩;(conv=>whnf);refine (c101 h14).go ?_;(conv=>whnf);refine ⟨by repeat (first | exact trivial | refine And.intro rfl ?_), ?_⟩;(conv=>whnf);refine ⟨?_, trivial⟩;(conv=>whnf);refine ⟨by repeat (first | exact trivial | refine And.intro rfl ?_), ?_⟩
        (conv=>whnf);cases h8;exact ⟨(.cons rfl (.cons rfl (.cons rfl .nil))), rfl⟩
    · refine pw_so ?_;refine po_all ?_;(conv=>whnf);refine pw_ret ?_;(conv=>whnf);cases H; rfl

/-- guidevane/dam.SharesOf -/
noncomputable def f179  (a0 : Int) (a1 : Int) (a2 : Int) (a3 : Int) (a4 : Int) (a5 : Int) (a6 : Int) (a7 : Int) (a8 : Int) : Option (Int × Int × Int × Int × Int × Int × Int) :=
  obnd (f98 a0 a1 a2 a3 a4 a5) fun (y1 : Int) =>
  obnd (f33 a6 a7 a8) fun (y3 : Int) =>
  obnd (f63 ([y1, y3] : List Int)) fun (y5 : Int) =>
  oite ((!(ieq y5 (0 : Int)))) (
   some ((0 : Int), (0 : Int), (0 : Int), (0 : Int), (0 : Int), (0 : Int), y5)
    ) (
   obnd (
    obnd (f117 a0 a1 a2 a3 a4 a5 a6 a7 a8 ([(1 : Int)] : List Int)) fun (y11 : Int) =>
    obnd (f101 y11 a0) fun (y13 : Int × Int) =>
    obnd (f117 a0 a1 a2 a3 a4 a5 a6 a7 a8 (([(2 : Int), (3 : Int)] : List Int))) fun (y15 : Int) =>
    obnd (f101 y15 a0) fun (y17 : Int × Int) =>
    obnd (f117 a0 a1 a2 a3 a4 a5 a6 a7 a8 (([(0 : Int), (4 : Int)] : List Int))) fun (y19 : Int) =>
    obnd (f101 y19 a0) fun (y21 : Int × Int) =>
    some (y13.1, y13.2, y17.1, y17.2, y21.1, y21.2)
     ) fun (r7 : Int × Int × Int × Int × Int × Int) =>
   some (r7.1, r7.2.1, r7.2.2.1, r7.2.2.2.1, r7.2.2.2.2.1, r7.2.2.2.2.2, (0 : Int))
    )
set_option maxHeartbeats 1000000 in
theorem c179  {a0 : Int} {a1 : Int} {a2 : Int} {a3 : Int} {a4 : Int} {a5 : Int} {a6 : Int} {a7 : Int} {a8 : Int} {x : Int × Int × Int × Int × Int × Int × Int} (H : f179 a0 a1 a2 a3 a4 a5 a6 a7 a8 = some x) : ICalls E 179 [(.agg ⟨[(.int .i64 a0), (.int .i64 a1), (.int .i64 a2), (.int .i64 a3), (.int .i64 a4), (.int .i64 a5)]⟩), (.agg ⟨[(.int .i64 a6), (.int .i64 a7), (.int .i64 a8)]⟩)] AHeap.none fun v _ => v = (.tuple ⟨[(.agg ⟨[(.int .i64 x.1), (.int .i64 x.2.1), (.int .i64 x.2.2.1), (.int .i64 x.2.2.2.1), (.int .i64 x.2.2.2.2.1), (.int .i64 x.2.2.2.2.2.1)]⟩), (.int .i64 x.2.2.2.2.2.2)]⟩) := by
  refine icalls_fn (pfnw rfl ?_); unfold f179 at H;(conv=>whnf);refine pw_so ?_;refine po_all ?_;(conv=>whnf);refine pw_seq ?_;refine pw_sd ?_;(conv=>whnf);refine ⟨?_, trivial⟩;(conv=>whnf);obtain ⟨y1, h2, H⟩ := obnd_some H;refine (c98 h2).go ?_;(conv=>whnf);refine ⟨by repeat (first | exact trivial | refine And.intro rfl ?_), ?_⟩;(conv=>whnf);refine ⟨?_, trivial⟩;(conv=>whnf);obtain ⟨y3, h4, H⟩ := obnd_some H;refine (c33 h4).go ?_;(conv=>whnf);refine ⟨by repeat (first | exact trivial | refine And.intro rfl ?_), ?_⟩;(conv=>whnf);refine ⟨?_, trivial⟩;(conv=>whnf);refine ⟨by repeat (first | exact trivial | refine And.intro rfl ?_), ?_⟩
  (conv=>whnf);refine ⟨?_, trivial⟩;(conv=>whnf);obtain ⟨y5, h6, H⟩ := obnd_some H;refine ICalls.goW (c63 h6) (.cons (.vt _ _ _) .nil) ?_;(conv=>whnf);refine ⟨by repeat (first | exact trivial | refine And.intro rfl ?_), ?_⟩;(conv=>whnf);refine pw_so ?_;refine po_all ?_;(conv=>whnf);refine pw_cond ?_;(conv=>whnf);refine pbr_oite H (fun _ H => ?_) (fun _ H => ?_)
  · (conv=>whnf);refine pw_so ?_;refine po_all ?_;(conv=>whnf);refine pw_ret ?_;(conv=>whnf);cases H; rfl
  · (conv=>whnf);refine pw_skip ?_;(conv=>whnf);refine pw_so ?_;refine po_all ?_;(conv=>whnf);obtain ⟨r7, h8, H⟩ := obnd_some H;refine pw_join (ρ := Int × Int × Int × Int × Int × Int) (fun e => ⟨[(4, (.pointer (some ⟨2, 0, none⟩))), (7, (.pointer (some ⟨4, 0, none⟩)))], ⟨8, [(7, .tail 2 1), (6, .tail 2 1), (5, .tail 1 1), (4, .rw [(.int .i64 e.1), (.int .i64 e.2.1), (.int .i64 e.2.2.1), (.int .i64 e.2.2.2.1), (.int .i64 e.2.2.2.2.1), (.int .i64 e.2.2.2.2.2)]), (3, .tail 2 1), (2, .rw [(.int .i64 0), (.int .i64 0), (.int .i64 0), (.int .i64 0), (.int .i64 0), (.int .i64 0)]), (1, .rw [(.int .i64 a6), (.int .i64 a7), (.int .i64 a8)]), (0, .rw [(.int .i64 a0), (.int .i64 a1), (.int .i64 a2), (.int .i64 a3), (.int .i64 a4), (.int .i64 a5)])], false⟩⟩) r7 ?_ ?_
    · refine pw_so ?_;refine po_all ?_;(conv=>whnf);refine pw_block ?_;refine pw_unroll 4 ?_;(conv=>whnf);refine pw_so ?_;refine po_all ?_;(conv=>whnf);refine pw_seq ?_;refine pw_cond ?_;(conv=>whnf);refine pw_skip ?_;(conv=>whnf);refine pw_seq ?_;refine pw_block ?_;refine pw_so ?_;refine po_all ?_;(conv=>whnf);refine pw_draw ?_;(conv=>whnf);refine ⟨?_, trivial⟩;(conv=>whnf);obtain ⟨y11, h12, h8⟩ := obnd_some h8;refine ICalls.goW (c117 h12) (.cons (.refl _) (.cons (.refl _) (.cons (.vt _ _ _) .nil))) ?_;(conv=>whnf);refine ⟨by repeat (first | exact trivial | refine And.intro rfl ?_), ?_⟩;(conv=>whnf);refine ⟨?_, trivial⟩
      (conv=>whnf);obtain ⟨y13, h14, h8⟩ := obnd_some h8;refine (c101 h14).go ?_;(conv=>whnf);refine ⟨by repeat (first | exact trivial | refine And.intro rfl ?_), ?_⟩;(conv=>whnf);refine ⟨?_, trivial⟩;(conv=>whnf);refine ⟨by repeat (first | exact trivial | refine And.intro rfl ?_), ?_⟩;(conv=>whnf);refine pw_ops ?_;refine po_all ?_;(conv=>whnf);refine ⟨_, .refl, Nat.le_of_ble_eq_true rfl, ?_⟩;(conv=>whnf);refine pw_so ?_;refine po_all ?_;(conv=>whnf);refine pw_seq ?_;refine pw_cond ?_;(conv=>whnf);refine pw_skip ?_;(conv=>whnf);refine pw_seq ?_;refine pw_block ?_;refine pw_so ?_;refine po_all ?_;(conv=>whnf)
      refine pw_draw ?_;(conv=>whnf);refine ⟨?_, trivial⟩;(conv=>whnf);obtain ⟨y15, h16, h8⟩ := obnd_some h8;refine ICalls.goW (c117 h16) (.cons (.refl _) (.cons (.refl _) (.cons (.vt _ _ _) .nil))) ?_;(conv=>whnf);refine ⟨by repeat (first | exact trivial | refine And.intro rfl ?_), ?_⟩;(conv=>whnf);refine ⟨?_, trivial⟩;(conv=>whnf);obtain ⟨y17, h18, h8⟩ := obnd_some h8;refine (c101 h18).go ?_;(conv=>whnf);refine ⟨by repeat (first | exact trivial | refine And.intro rfl ?_), ?_⟩;(conv=>whnf);refine ⟨?_, trivial⟩;(conv=>whnf);refine ⟨by repeat (first | exact trivial | refine And.intro rfl ?_), ?_⟩;(conv=>whnf)
      refine pw_ops ?_;refine po_all ?_;(conv=>whnf);refine ⟨_, .refl, Nat.le_of_ble_eq_true rfl, ?_⟩;(conv=>whnf);refine pw_so ?_;refine po_all ?_;(conv=>whnf);refine pw_seq ?_;refine pw_cond ?_;(conv=>whnf);refine pw_skip ?_;(conv=>whnf);refine pw_seq ?_;refine pw_block ?_;refine pw_so ?_;refine po_all ?_;(conv=>whnf);refine pw_draw ?_;(conv=>whnf);refine ⟨?_, trivial⟩;(conv=>whnf);obtain ⟨y19, h20, h8⟩ := obnd_some h8;refine ICalls.goW (c117 h20) (.cons (.refl _) (.cons (.refl _) (.cons (.vt _ _ _) .nil))) ?_;(conv=>whnf);refine ⟨by repeat (first | exact trivial | refine And.intro rfl ?_), ?_⟩;(conv=>whnf)
      refine ⟨?_, trivial⟩;(conv=>whnf);obtain ⟨y21, h22, h8⟩ := obnd_some h8;refine (c101 h22).go ?_;(conv=>whnf);refine ⟨by repeat (first | exact trivial | refine And.intro rfl ?_), ?_⟩;(conv=>whnf);refine ⟨?_, trivial⟩;(conv=>whnf);refine ⟨by repeat (first | exact trivial | refine And.intro rfl ?_), ?_⟩;(conv=>whnf);refine pw_ops ?_;refine po_all ?_;(conv=>whnf);refine ⟨_, .refl, Nat.le_of_ble_eq_true rfl, ?_⟩;(conv=>whnf);refine pw_so ?_;refine po_all ?_;(conv=>whnf);refine pw_seq ?_;refine pw_cond ?_;(conv=>whnf);refine pw_exit ?_;(conv=>whnf);cases h8;exact ⟨(.cons rfl (.cons rfl .nil)), rfl⟩
    · refine pw_so ?_;refine po_all ?_;(conv=>whnf);refine pw_ret ?_;(conv=>whnf);cases H; rfl

/-- guidevane/guidevaneref09.FitErr -/
noncomputable def f180  (a0 : Int) (a1 : Int) (a2 : Int) (a3 : Int) (a4 : Int) (a5 : Int) : Option Int :=
  obnd (f15 a0 (1 : Int) (1000000000000 : Int)) fun (y1 : Bool) =>
  oite (!y1) (
   some (2 : Int)
    ) (
   obndS (
    obnd (f15 a1 (-1000000000000 : Int) (1000000000000 : Int)) fun (y7 : Bool) =>
    oite (!y7) (
     some (.inr ((2 : Int)))
      ) (
     obnd (f15 a2 (-1000000000000 : Int) (1000000000000 : Int)) fun (y9 : Bool) =>
     oite (!y9) (
      some (.inr ((2 : Int)))
       ) (
      obnd (f15 a3 (-1000000000000 : Int) (1000000000000 : Int)) fun (y11 : Bool) =>
      oite (!y11) (
       some (.inr ((2 : Int)))
        ) (
       obnd (f15 a4 (-1000000000000 : Int) (1000000000000 : Int)) fun (y13 : Bool) =>
       oite (!y13) (
        some (.inr ((2 : Int)))
         ) (
        obnd (f15 a5 (-1000000000000 : Int) (1000000000000 : Int)) fun (y15 : Bool) =>
        oite (!y15) (
         some (.inr ((2 : Int)))
          ) (
         some (.inl ())
          )
         )
        )
       )
      )
     ) fun (_ : Unit) =>
   some (0 : Int)
    )
set_option maxHeartbeats 1000000 in
theorem c180  {a0 : Int} {a1 : Int} {a2 : Int} {a3 : Int} {a4 : Int} {a5 : Int} {x : Int} (H : f180 a0 a1 a2 a3 a4 a5 = some x) : ICalls E 180 [(.agg ⟨[(.int .i64 a0), (.int .i64 a1), (.int .i64 a2), (.int .i64 a3), (.int .i64 a4), (.int .i64 a5)]⟩)] AHeap.none fun v _ => v = (.int .i64 x) := by
  refine icalls_fn (pfnw rfl ?_); unfold f180 at H;(conv=>whnf);refine pw_so ?_;refine po_all ?_;(conv=>whnf);refine pw_seq ?_;refine pw_so ?_;refine po_all ?_;(conv=>whnf);obtain ⟨y1, h2, H⟩ := obnd_some H;refine (c15 h2).go ?_;(conv=>whnf);refine pw_cond ?_;(conv=>whnf);refine pbr_oite H (fun _ H => ?_) (fun _ H => ?_)
  · (conv=>whnf);refine pw_so ?_;refine po_all ?_;(conv=>whnf);refine pw_ret ?_;(conv=>whnf);cases H; rfl
  · (conv=>whnf);refine pw_skip ?_;(conv=>whnf);obtain ⟨r3, h4, h5, h6⟩ := obndS_some H;refine pw_joinS (ρ := Unit) (fun e => ⟨[], ⟨1, [(0, .rw [(.int .i64 a0), (.int .i64 a1), (.int .i64 a2), (.int .i64 a3), (.int .i64 a4), (.int .i64 a5)])], false⟩⟩) r3 ?_ ?_
    · refine pw_so ?_;refine po_all ?_;(conv=>whnf);refine pw_block ?_;refine pw_unroll 6 ?_;(conv=>whnf);refine pw_seq ?_;refine pw_so ?_;refine po_all ?_;(conv=>whnf);refine pw_cond ?_;(conv=>whnf);refine pw_skip ?_;(conv=>whnf);refine pw_seq ?_;refine pw_block ?_;refine pw_so ?_;refine po_all ?_;(conv=>whnf);obtain ⟨y7, h8, h4⟩ := obnd_some h4;refine (c15 h8).go ?_;(conv=>whnf);refine pw_cond ?_;(conv=>whnf);refine pbr_oite h4 (fun _ h4 => ?_) (fun _ h4 => ?_)
      · (conv=>whnf);refine pw_so ?_;refine po_all ?_;(conv=>whnf);refine pw_ret ?_;(conv=>whnf);cases h4;obtain rfl := h6 _ rfl; rfl
      · (conv=>whnf);refine pw_skip ?_;(conv=>whnf);refine pw_ops ?_;refine po_all ?_;(conv=>whnf);refine ⟨_, .refl, Nat.le_of_ble_eq_true rfl, ?_⟩;(conv=>whnf);refine pw_seq ?_;refine pw_so ?_;refine po_all ?_;(conv=>whnf);refine pw_cond ?_;(conv=>whnf);refine pw_skip ?_;(conv=>whnf);refine pw_seq ?_;refine pw_block ?_;refine pw_so ?_;refine po_all ?_;(conv=>whnf);obtain ⟨y9, h10, h4⟩ := obnd_some h4;refine (c15 h10).go ?_;(conv=>whnf);refine pw_cond ?_;(conv=>whnf);refine pbr_oite h4 (fun _ h4 => ?_) (fun _ h4 => ?_)
        · (conv=>whnf);refine pw_so ?_;refine po_all ?_;(conv=>whnf);refine pw_ret ?_;(conv=>whnf);cases h4;obtain rfl := h6 _ rfl; rfl
        · (conv=>whnf);refine pw_skip ?_;(conv=>whnf);refine pw_ops ?_;refine po_all ?_;(conv=>whnf);refine ⟨_, .refl, Nat.le_of_ble_eq_true rfl, ?_⟩;(conv=>whnf);refine pw_seq ?_;refine pw_so ?_;refine po_all ?_;(conv=>whnf);refine pw_cond ?_;(conv=>whnf);refine pw_skip ?_;(conv=>whnf);refine pw_seq ?_;refine pw_block ?_;refine pw_so ?_;refine po_all ?_;(conv=>whnf);obtain ⟨y11, h12, h4⟩ := obnd_some h4;refine (c15 h12).go ?_;(conv=>whnf);refine pw_cond ?_;(conv=>whnf);refine pbr_oite h4 (fun _ h4 => ?_) (fun _ h4 => ?_)
          · (conv=>whnf);refine pw_so ?_;refine po_all ?_;(conv=>whnf);refine pw_ret ?_;(conv=>whnf);cases h4;obtain rfl := h6 _ rfl; rfl
          · (conv=>whnf);refine pw_skip ?_;(conv=>whnf);refine pw_ops ?_;refine po_all ?_;(conv=>whnf);refine ⟨_, .refl, Nat.le_of_ble_eq_true rfl, ?_⟩;(conv=>whnf);refine pw_seq ?_;refine pw_so ?_;refine po_all ?_;(conv=>whnf);refine pw_cond ?_;(conv=>whnf);refine pw_skip ?_;(conv=>whnf);refine pw_seq ?_;refine pw_block ?_;refine pw_so ?_;refine po_all ?_;(conv=>whnf);obtain ⟨y13, h14, h4⟩ := obnd_some h4;refine (c15 h14).go ?_;(conv=>whnf);refine pw_cond ?_;(conv=>whnf);refine pbr_oite h4 (fun _ h4 => ?_) (fun _ h4 => ?_)
            · (conv=>whnf);refine pw_so ?_;refine po_all ?_;(conv=>whnf);refine pw_ret ?_;(conv=>whnf);cases h4;obtain rfl := h6 _ rfl; rfl
            · (conv=>whnf);refine pw_skip ?_;(conv=>whnf);refine pw_ops ?_;refine po_all ?_;(conv=>whnf);refine ⟨_, .refl, Nat.le_of_ble_eq_true rfl, ?_⟩;(conv=>whnf);refine pw_seq ?_;refine pw_so ?_;refine po_all ?_;(conv=>whnf);refine pw_cond ?_;(conv=>whnf);refine pw_skip ?_;(conv=>whnf);refine pw_seq ?_;refine pw_block ?_;refine pw_so ?_;refine po_all ?_;(conv=>whnf);obtain ⟨y15, h16, h4⟩ := obnd_some h4;refine (c15 h16).go ?_;(conv=>whnf);refine pw_cond ?_;(conv=>whnf);refine pbr_oite h4 (fun _ h4 => ?_) (fun _ h4 => ?_)
              · (conv=>whnf);refine pw_so ?_;refine po_all ?_;(conv=>whnf);refine pw_ret ?_;(conv=>whnf);cases h4;obtain rfl := h6 _ rfl; rfl
              · (conv=>whnf);refine pw_skip ?_;(conv=>whnf);refine pw_ops ?_;refine po_all ?_;(conv=>whnf);refine ⟨_, .refl, Nat.le_of_ble_eq_true rfl, ?_⟩;(conv=>whnf);refine pw_seq ?_;refine pw_so ?_;refine po_all ?_;(conv=>whnf);refine pw_cond ?_;(conv=>whnf);refine pw_exit ?_;(conv=>whnf);cases h4;exact ⟨_, rfl, ⟨.nil, rfl⟩⟩
    · intro r17 hr; have H := h5 _ hr;refine pw_so ?_;refine po_all ?_;(conv=>whnf);refine pw_ret ?_;(conv=>whnf);cases H; rfl

/-- guidevane/guidevaneref09.ReadingErr -/
noncomputable def f32  (a0 : Int) (a1 : Int) (a2 : Int) : Option Int :=
  obnd (
   obnd (f15 a0 (0 : Int) (36000 : Int)) fun (y5 : Bool) =>
   obnd (
    oite (!y5) (
     some true
      ) (
     obnd (f15 a1 (-50 : Int) (50 : Int)) fun (y9 : Bool) =>
     some (!y9)
      )
     ) fun (r7 : Bool) =>
   oite r7 (
    some true
     ) (
    obnd (f15 a2 (-2000 : Int) (2000 : Int)) fun (y11 : Bool) =>
    some (!y11)
     )
    ) fun (r1 : Bool) =>
  oite r1 (
   some (2 : Int)
    ) (
   some (0 : Int)
    )
set_option maxHeartbeats 1000000 in
theorem c32  {a0 : Int} {a1 : Int} {a2 : Int} {x : Int} (H : f32 a0 a1 a2 = some x) : ICalls E 32 [(.agg ⟨[(.int .i64 a0), (.int .i64 a1), (.int .i64 a2)]⟩)] AHeap.none fun v _ => v = (.int .i64 x) := by
  refine icalls_fn (pfnw rfl ?_); unfold f32 at H;(conv=>whnf);refine pw_so ?_;refine po_all ?_;(conv=>whnf);refine pw_seq ?_;obtain ⟨r1, h2, H⟩ := obnd_some H;refine pw_join (ρ := Bool) (fun e => ⟨[(18, (.bool e))], ⟨1, [(0, .rw [(.int .i64 a0), (.int .i64 a1), (.int .i64 a2)])], false⟩⟩) r1 ?_ ?_
  · refine pw_ops ?_;refine po_ops 5 ?_;(conv=>whnf);obtain ⟨y5, h6, h2⟩ := obnd_some h2;refine (c15 h6).go ?_;(conv=>whnf);obtain ⟨r7, h8, h2⟩ := obnd_some h2;refine po_seg (τ := Bool) 5 (fun e => ⟨[(1, (.pointer (some ⟨0, 0, none⟩))), (12, (.bool e))], ⟨1, [(0, .rw [(.int .i64 a0), (.int .i64 a1), (.int .i64 a2)])], false⟩⟩) r7 ?_ ?_
    · refine po_all ?_;(conv=>whnf);refine pbr_oite h8 (fun _ h8 => ?_) (fun _ h8 => ?_)
      · (conv=>whnf);refine pbr_t (by assumption) ?_;(conv=>whnf);refine pbr_t (by assumption) ?_;(conv=>whnf);refine pbr_t (by assumption) ?_;(conv=>whnf);refine pbr_t (by assumption) ?_;(conv=>whnf);cases h8;exact ⟨(.cons rfl (.cons rfl .nil)), rfl⟩
      · (conv=>whnf);refine pbr_f (by assumption) ?_;(conv=>whnf);refine pbr_f (by assumption) ?_;(conv=>whnf);obtain ⟨y9, h10, h8⟩ := obnd_some h8;refine (c15 h10).go ?_;(conv=>whnf);refine pbr_f (by assumption) ?_;(conv=>whnf);refine pbr_f (by assumption) ?_;(conv=>whnf);cases h8;exact ⟨(.cons rfl (.cons rfl .nil)), rfl⟩
    · refine po_all ?_;(conv=>whnf);refine pbr_oite h2 (fun _ h2 => ?_) (fun _ h2 => ?_)
      · (conv=>whnf);refine pbr_t (by assumption) ?_;(conv=>whnf);refine pbr_t (by assumption) ?_;(conv=>whnf);refine pbr_t (by assumption) ?_;(conv=>whnf);refine pbr_t (by assumption) ?_;(conv=>whnf);cases h2;exact ⟨(.cons rfl .nil), rfl⟩
      · (conv=>whnf);refine pbr_f (by assumption) ?_;(conv=>whnf);refine pbr_f (by assumption) ?_;(conv=>whnf);obtain ⟨y11, h12, h2⟩ := obnd_some h2;refine (c15 h12).go ?_;(conv=>whnf);refine pbr_f (by assumption) ?_;(conv=>whnf);refine pbr_f (by assumption) ?_;(conv=>whnf);cases h2;exact ⟨(.cons rfl .nil), rfl⟩
  · refine pw_cond ?_;(conv=>whnf);refine pbr_oite H (fun _ H => ?_) (fun _ H => ?_)
    · (conv=>whnf);refine pw_so ?_;refine po_all ?_;(conv=>whnf);refine pw_ret ?_;(conv=>whnf);cases H; rfl
    · (conv=>whnf);refine pw_skip ?_;(conv=>whnf);refine pw_so ?_;refine po_all ?_;(conv=>whnf);refine pw_ret ?_;(conv=>whnf);cases H; rfl

/-- guidevane/guidevaneref09.Terms -/
noncomputable def f34  (a0 : Int) (a1 : Int) (_ : Int) : Option (Int × Int × Int × Int × Int) :=
  ogrd ((ile 0 (IntKind.i64.wrap ((a0.tmod (360 : Int)).tdiv (90 : Int))))) (
  obnd (([(1 : Int), (0 : Int), (-1 : Int), (0 : Int)] : List Int)[(IntKind.i64.wrap ((a0.tmod (360 : Int)).tdiv (90 : Int))).toNat]?) fun (x1 : Int) =>
  obnd (([(0 : Int), (1 : Int), (0 : Int), (-1 : Int)] : List Int)[(IntKind.i64.wrap ((a0.tmod (360 : Int)).tdiv (90 : Int))).toNat]?) fun (x3 : Int) =>
  some ((1 : Int), a1, x1, x3, (IntKind.i64.wrap (a0.tdiv (360 : Int))))
  )
set_option maxHeartbeats 1000000 in
theorem c34  {a0 : Int} {a1 : Int} {a2 : Int} {x : Int × Int × Int × Int × Int} (H : f34 a0 a1 a2 = some x) : ICalls E 34 [(.agg ⟨[(.int .i64 a0), (.int .i64 a1), (.int .i64 a2)]⟩)] AHeap.none fun v _ => v = (.agg ⟨[(.int .i64 x.1), (.int .i64 x.2.1), (.int .i64 x.2.2.1), (.int .i64 x.2.2.2.1), (.int .i64 x.2.2.2.2)]⟩) := by
  refine icalls_fn (pfnw rfl ?_); unfold f34 at H;(conv=>whnf);refine pw_so ?_;refine po_all ?_;(conv=>whnf);refine pw_so ?_;refine po_all ?_;(conv=>whnf);refine pw_sd ?_;(conv=>whnf);refine ⟨?_, ?_⟩
  · (conv=>whnf);refine ⟨by repeat (first | exact trivial | refine And.intro rfl ?_), ?_⟩;(conv=>whnf);refine pbr_ogrd H (fun _ H => ?_);(conv=>whnf);refine nth_o (l := ([(1 : Int), (0 : Int), (-1 : Int), (0 : Int)] : List Int)) H (fun x1 _ H => ?_);(conv=>whnf);refine ⟨?_, trivial⟩;(conv=>whnf);refine ⟨by repeat (first | exact trivial | refine And.intro rfl ?_), ?_⟩;(conv=>whnf);refine pbr_t (by assumption) ?_;(conv=>whnf);refine nth_o (l := ([(0 : Int), (1 : Int), (0 : Int), (-1 : Int)] : List Int)) H (fun x3 _ H => ?_);(conv=>whnf);refine ⟨?_, trivial⟩;(conv=>whnf);refine ⟨by repeat (first | exact trivial | refine And.intro rfl ?_), ?_⟩
    (conv=>whnf);refine pw_ret ?_;(conv=>whnf);cases H; rfl
  · obtain ⟨_, H⟩ := ogrd_some H;obtain ⟨x1, h2, H⟩ := obnd_some H;obtain ⟨x3, h4, H⟩ := obnd_some H;(conv=>whnf);refine ⟨?_, trivial⟩;(conv=>whnf);refine ⟨by repeat (first | exact trivial | refine And.intro rfl ?_), ?_⟩;(conv=>whnf);refine pbr_t (by assumption) ?_;(conv=>whnf);refine nth_p (l := ([(0 : Int), (1 : Int), (0 : Int), (-1 : Int)] : List Int)) h4 ?_;(conv=>whnf);refine ⟨?_, trivial⟩;(conv=>whnf);refine ⟨by repeat (first | exact trivial | refine And.intro rfl ?_), ?_⟩;(conv=>whnf);refine pbr_t (by assumption) ?_;(conv=>whnf);refine nth_p (l := ([(1 : Int), (0 : Int), (-1 : Int), (0 : Int)] : List Int)) h2 ?_
    (conv=>whnf);refine ⟨?_, trivial⟩;(conv=>whnf);refine ⟨by repeat (first | exact trivial | refine And.intro rfl ?_), ?_⟩;(conv=>whnf);refine pw_ret ?_;(conv=>whnf);cases H; rfl

/-- guidevane/guidevaneref09.given -/
noncomputable def f191  (_ : Int) (a1 : Int) (a2 : Int) (a3 : Int) (a4 : Int) (a5 : Int) (a6 : Int) (a7 : Int) (a8 : Int) (a9 : Int) : Option Int :=
  obnd (f34 a6 a7 a8) fun (y1 : Int × Int × Int × Int × Int) =>
  obnd (
   obnd (
    oite ((ieq (IntKind.i64.wrap (BitVec.ofInt (IntKind.bits .i64) (a9.fdiv (2 ^ (min (0 : Int).toNat (IntKind.bits .i64)))) &&& BitVec.ofInt (IntKind.bits .i64) (1 : Int)).toNat) (1 : Int))) (
     some (IntKind.i64.wrap ((0 : Int) + (IntKind.i64.wrap (a1 * y1.1))))
      ) (
     some (0 : Int)
      )
     ) fun (r7 : Int) =>
   obnd (
    oite ((ieq (IntKind.i64.wrap (BitVec.ofInt (IntKind.bits .i64) (a9.fdiv (2 ^ (min (1 : Int).toNat (IntKind.bits .i64)))) &&& BitVec.ofInt (IntKind.bits .i64) (1 : Int)).toNat) (1 : Int))) (
     some (IntKind.i64.wrap (r7 + (IntKind.i64.wrap (a2 * y1.2.1))))
      ) (
     some r7
      )
     ) fun (r11 : Int) =>
   obnd (
    oite ((ieq (IntKind.i64.wrap (BitVec.ofInt (IntKind.bits .i64) (a9.fdiv (2 ^ (min (2 : Int).toNat (IntKind.bits .i64)))) &&& BitVec.ofInt (IntKind.bits .i64) (1 : Int)).toNat) (1 : Int))) (
     some (IntKind.i64.wrap (r11 + (IntKind.i64.wrap (a3 * y1.2.2.1))))
      ) (
     some r11
      )
     ) fun (r15 : Int) =>
   obnd (
    oite ((ieq (IntKind.i64.wrap (BitVec.ofInt (IntKind.bits .i64) (a9.fdiv (2 ^ (min (3 : Int).toNat (IntKind.bits .i64)))) &&& BitVec.ofInt (IntKind.bits .i64) (1 : Int)).toNat) (1 : Int))) (
     some (IntKind.i64.wrap (r15 + (IntKind.i64.wrap (a4 * y1.2.2.2.1))))
      ) (
     some r15
      )
     ) fun (r19 : Int) =>
   obnd (
    oite ((ieq (IntKind.i64.wrap (BitVec.ofInt (IntKind.bits .i64) (a9.fdiv (2 ^ (min (4 : Int).toNat (IntKind.bits .i64)))) &&& BitVec.ofInt (IntKind.bits .i64) (1 : Int)).toNat) (1 : Int))) (
     some (IntKind.i64.wrap (r19 + (IntKind.i64.wrap (a5 * y1.2.2.2.2))))
      ) (
     some r19
      )
     ) fun (r23 : Int) =>
   some r23
    ) fun (r3 : Int) =>
  some r3
set_option maxHeartbeats 1000000 in
theorem c191  {a0 : Int} {a1 : Int} {a2 : Int} {a3 : Int} {a4 : Int} {a5 : Int} {a6 : Int} {a7 : Int} {a8 : Int} {a9 : Int} {x : Int} (H : f191 a0 a1 a2 a3 a4 a5 a6 a7 a8 a9 = some x) : ICalls E 191 [(.agg ⟨[(.int .i64 a0), (.int .i64 a1), (.int .i64 a2), (.int .i64 a3), (.int .i64 a4), (.int .i64 a5)]⟩), (.agg ⟨[(.int .i64 a6), (.int .i64 a7), (.int .i64 a8)]⟩), (.int .i64 a9)] AHeap.none fun v _ => v = (.int .i64 x) := by
  refine icalls_fn (pfnw rfl ?_); unfold f191 at H;(conv=>whnf);refine pw_so ?_;refine po_all ?_;(conv=>whnf);refine pw_so ?_;refine po_all ?_;(conv=>whnf);obtain ⟨y1, h2, H⟩ := obnd_some H;refine (c34 h2).go ?_;(conv=>whnf);refine pw_so ?_;refine po_all ?_;(conv=>whnf);obtain ⟨r3, h4, H⟩ := obnd_some H;refine pw_join (ρ := Int) (fun e => ⟨[(8, (.int .i64 e))], ⟨3, [(2, .rw [(.int .i64 y1.1), (.int .i64 y1.2.1), (.int .i64 y1.2.2.1), (.int .i64 y1.2.2.2.1), (.int .i64 y1.2.2.2.2)]), (1, .rw [(.int .i64 a6), (.int .i64 a7), (.int .i64 a8)]), (0, .rw [(.int .i64 a0), (.int .i64 a1), (.int .i64 a2), (.int .i64 a3), (.int .i64 a4), (.int .i64 a5)])], false⟩⟩) r3 ?_ ?_
  · refine pw_so ?_;refine po_all ?_;(conv=>whnf);refine pw_block ?_;refine pw_unroll 6 ?_;(conv=>whnf);refine pw_seq ?_;refine pw_so ?_;refine po_all ?_;(conv=>whnf);refine pw_cond ?_;(conv=>whnf);refine pw_skip ?_;(conv=>whnf);obtain ⟨r7, h8, h4⟩ := obnd_some h4;refine pw_join (ρ := Int) (fun e => ⟨[(2, (.int .i64 a9)), (3, (.pointer (some ⟨0, 0, none⟩))), (7, (.pointer (some ⟨2, 0, none⟩))), (8, (.int .i64 e)), (9, (.int .i64 0))], ⟨3, [(2, .rw [(.int .i64 y1.1), (.int .i64 y1.2.1), (.int .i64 y1.2.2.1), (.int .i64 y1.2.2.2.1), (.int .i64 y1.2.2.2.2)]), (1, .rw [(.int .i64 a6), (.int .i64 a7), (.int .i64 a8)]), (0, .rw [(.int .i64 a0), (.int .i64 a1), (.int .i64 a2), (.int .i64 a3), (.int .i64 a4), (.int .i64 a5)])], false⟩⟩) r7 ?_ ?_
    · refine pw_block ?_;refine pw_so ?_;refine po_all ?_;(conv=>whnf);refine pw_cond ?_;(conv=>whnf);refine pbr_oite h8 (fun _ h8 => ?_) (fun _ h8 => ?_)
      · (conv=>whnf);refine pw_draw ?_;(conv=>whnf);refine ⟨?_, trivial⟩;(conv=>whnf);refine ⟨by repeat (first | exact trivial | refine And.intro rfl ?_), ?_⟩;(conv=>whnf);cases h8;exact ⟨(.cons rfl (.cons rfl (.cons rfl (.cons rfl (.cons rfl .nil))))), rfl⟩
      · (conv=>whnf);refine pw_skip ?_;(conv=>whnf);cases h8;exact ⟨(.cons rfl (.cons rfl (.cons rfl (.cons rfl (.cons rfl .nil))))), rfl⟩
    · refine pw_ops ?_;refine po_all ?_;(conv=>whnf);refine ⟨_, .refl, Nat.le_of_ble_eq_true rfl, ?_⟩;(conv=>whnf);refine pw_seq ?_;refine pw_so ?_;refine po_all ?_;(conv=>whnf);refine pw_cond ?_;(conv=>whnf);refine pw_skip ?_;(conv=>whnf);obtain ⟨r11, h12, h4⟩ := obnd_some h4;refine pw_join (ρ := Int) (fun e => ⟨[(2, (.int .i64 a9)), (3, (.pointer (some ⟨0, 0, none⟩))), (7, (.pointer (some ⟨2, 0, none⟩))), (8, (.int .i64 e)), (9, (.int .i64 1))], ⟨3, [(2, .rw [(.int .i64 y1.1), (.int .i64 y1.2.1), (.int .i64 y1.2.2.1), (.int .i64 y1.2.2.2.1), (.int .i64 y1.2.2.2.2)]), (1, .rw [(.int .i64 a6), (.int .i64 a7), (.int .i64 a8)]), (0, .rw [(.int .i64 a0), (.int .i64 a1), (.int .i64 a2), (.int .i64 a3), (.int .i64 a4), (.int .i64 a5)])], false⟩⟩) r11 ?_ ?_
      · refine pw_block ?_;refine pw_so ?_;refine po_all ?_;(conv=>whnf);refine pw_cond ?_;(conv=>whnf);refine pbr_oite h12 (fun _ h12 => ?_) (fun _ h12 => ?_)
        · (conv=>whnf);refine pw_draw ?_;(conv=>whnf);refine ⟨?_, trivial⟩;(conv=>whnf);refine ⟨by repeat (first | exact trivial | refine And.intro rfl ?_), ?_⟩;(conv=>whnf);cases h12;exact ⟨(.cons rfl (.cons rfl (.cons rfl (.cons rfl (.cons rfl .nil))))), rfl⟩
        · (conv=>whnf);refine pw_skip ?_;(conv=>whnf);cases h12;exact ⟨(.cons rfl (.cons rfl (.cons rfl (.cons rfl (.cons rfl .nil))))), rfl⟩
      · refine pw_ops ?_;refine po_all ?_;(conv=>whnf);refine ⟨_, .refl, Nat.le_of_ble_eq_true rfl, ?_⟩;(conv=>whnf);refine pw_seq ?_;refine pw_so ?_;refine po_all ?_;(conv=>whnf);refine pw_cond ?_;(conv=>whnf);refine pw_skip ?_;(conv=>whnf);obtain ⟨r15, h16, h4⟩ := obnd_some h4;refine pw_join (ρ := Int) (fun e => ⟨[(2, (.int .i64 a9)), (3, (.pointer (some ⟨0, 0, none⟩))), (7, (.pointer (some ⟨2, 0, none⟩))), (8, (.int .i64 e)), (9, (.int .i64 2))], ⟨3, [(2, .rw [(.int .i64 y1.1), (.int .i64 y1.2.1), (.int .i64 y1.2.2.1), (.int .i64 y1.2.2.2.1), (.int .i64 y1.2.2.2.2)]), (1, .rw [(.int .i64 a6), (.int .i64 a7), (.int .i64 a8)]), (0, .rw [(.int .i64 a0), (.int .i64 a1), (.int .i64 a2), (.int .i64 a3), (.int .i64 a4), (.int .i64 a5)])], false⟩⟩) r15 ?_ ?_
        · refine pw_block ?_;refine pw_so ?_;refine po_all ?_;(conv=>whnf);refine pw_cond ?_;(conv=>whnf);refine pbr_oite h16 (fun _ h16 => ?_) (fun _ h16 => ?_)
          · (conv=>whnf);refine pw_draw ?_;(conv=>whnf);refine ⟨?_, trivial⟩;(conv=>whnf);refine ⟨by repeat (first | exact trivial | refine And.intro rfl ?_), ?_⟩;(conv=>whnf);cases h16;exact ⟨(.cons rfl (.cons rfl (.cons rfl (.cons rfl (.cons rfl .nil))))), rfl⟩
          · (conv=>whnf);refine pw_skip ?_;(conv=>whnf);cases h16;exact ⟨(.cons rfl (.cons rfl (.cons rfl (.cons rfl (.cons rfl .nil))))), rfl⟩
        · refine pw_ops ?_;refine po_all ?_;(conv=>whnf);refine ⟨_, .refl, Nat.le_of_ble_eq_true rfl, ?_⟩;(conv=>whnf);refine pw_seq ?_;refine pw_so ?_;refine po_all ?_;(conv=>whnf);refine pw_cond ?_;(conv=>whnf);refine pw_skip ?_;(conv=>whnf);obtain ⟨r19, h20, h4⟩ := obnd_some h4;refine pw_join (ρ := Int) (fun e => ⟨[(2, (.int .i64 a9)), (3, (.pointer (some ⟨0, 0, none⟩))), (7, (.pointer (some ⟨2, 0, none⟩))), (8, (.int .i64 e)), (9, (.int .i64 3))], ⟨3, [(2, .rw [(.int .i64 y1.1), (.int .i64 y1.2.1), (.int .i64 y1.2.2.1), (.int .i64 y1.2.2.2.1), (.int .i64 y1.2.2.2.2)]), (1, .rw [(.int .i64 a6), (.int .i64 a7), (.int .i64 a8)]), (0, .rw [(.int .i64 a0), (.int .i64 a1), (.int .i64 a2), (.int .i64 a3), (.int .i64 a4), (.int .i64 a5)])], false⟩⟩) r19 ?_ ?_
          · refine pw_block ?_;refine pw_so ?_;refine po_all ?_;(conv=>whnf);refine pw_cond ?_;(conv=>whnf);refine pbr_oite h20 (fun _ h20 => ?_) (fun _ h20 => ?_)
            · (conv=>whnf);refine pw_draw ?_;(conv=>whnf);refine ⟨?_, trivial⟩;(conv=>whnf);refine ⟨by repeat (first | exact trivial | refine And.intro rfl ?_), ?_⟩;(conv=>whnf);cases h20;exact ⟨(.cons rfl (.cons rfl (.cons rfl (.cons rfl (.cons rfl .nil))))), rfl⟩
            · (conv=>whnf);refine pw_skip ?_;(conv=>whnf);cases h20;exact ⟨(.cons rfl (.cons rfl (.cons rfl (.cons rfl (.cons rfl .nil))))), rfl⟩
          · refine pw_ops ?_;refine po_all ?_;(conv=>whnf);refine ⟨_, .refl, Nat.le_of_ble_eq_true rfl, ?_⟩;(conv=>whnf);refine pw_seq ?_;refine pw_so ?_;refine po_all ?_;(conv=>whnf);refine pw_cond ?_;(conv=>whnf);refine pw_skip ?_;(conv=>whnf);obtain ⟨r23, h24, h4⟩ := obnd_some h4;refine pw_join (ρ := Int) (fun e => ⟨[(2, (.int .i64 a9)), (3, (.pointer (some ⟨0, 0, none⟩))), (7, (.pointer (some ⟨2, 0, none⟩))), (8, (.int .i64 e)), (9, (.int .i64 4))], ⟨3, [(2, .rw [(.int .i64 y1.1), (.int .i64 y1.2.1), (.int .i64 y1.2.2.1), (.int .i64 y1.2.2.2.1), (.int .i64 y1.2.2.2.2)]), (1, .rw [(.int .i64 a6), (.int .i64 a7), (.int .i64 a8)]), (0, .rw [(.int .i64 a0), (.int .i64 a1), (.int .i64 a2), (.int .i64 a3), (.int .i64 a4), (.int .i64 a5)])], false⟩⟩) r23 ?_ ?_
            · refine pw_block ?_;refine pw_so ?_;refine po_all ?_;(conv=>whnf);refine pw_cond ?_;(conv=>whnf);refine pbr_oite h24 (fun _ h24 => ?_) (fun _ h24 => ?_)
              · (conv=>whnf);refine pw_draw ?_;(conv=>whnf);refine ⟨?_, trivial⟩;(conv=>whnf);refine ⟨by repeat (first | exact trivial | refine And.intro rfl ?_), ?_⟩;(conv=>whnf);cases h24;exact ⟨(.cons rfl (.cons rfl (.cons rfl (.cons rfl (.cons rfl .nil))))), rfl⟩
              · (conv=>whnf);refine pw_skip ?_;(conv=>whnf);cases h24;exact ⟨(.cons rfl (.cons rfl (.cons rfl (.cons rfl (.cons rfl .nil))))), rfl⟩
            · refine pw_ops ?_;refine po_all ?_;(conv=>whnf);refine ⟨_, .refl, Nat.le_of_ble_eq_true rfl, ?_⟩;(conv=>whnf);refine pw_seq ?_;refine pw_so ?_;refine po_all ?_;(conv=>whnf);refine pw_cond ?_;(conv=>whnf);refine pw_exit ?_;(conv=>whnf);cases h4;exact ⟨(.cons rfl .nil), rfl⟩
  · refine pw_so ?_;refine po_all ?_;(conv=>whnf);refine pw_ret ?_;(conv=>whnf);cases H; rfl

/-- guidevane/guidevanebase.Floor -/
noncomputable def f66  (a0 : Int) (a1 : Int) : Option Int :=
  ogrd (!((ieq a1 0))) (
  oite ((ilt (a0.tmod a1) (0 : Int))) (
   some (IntKind.i64.wrap ((IntKind.i64.wrap (a0.tdiv a1)) - (1 : Int)))
    ) (
   some (IntKind.i64.wrap (a0.tdiv a1))
    )
  )
set_option maxHeartbeats 1000000 in
theorem c66  {a0 : Int} {a1 : Int} {x : Int} (H : f66 a0 a1 = some x) : ICalls E 66 [(.int .i64 a0), (.int .i64 a1)] AHeap.none fun v _ => v = (.int .i64 x) := by
  refine icalls_fn (pfnw rfl ?_); unfold f66 at H;(conv=>whnf);refine pw_so ?_;refine po_all ?_;(conv=>whnf);refine pw_so ?_;refine po_all ?_;(conv=>whnf);refine pbr_ogrdn H (fun _ H => ?_);(conv=>whnf);refine pw_seq ?_;refine pw_so ?_;refine po_all ?_;(conv=>whnf);refine pbr_f (by assumption) ?_;(conv=>whnf);refine pw_cond ?_;(conv=>whnf);refine pbr_oite H (fun _ H => ?_) (fun _ H => ?_)
  · (conv=>whnf);refine pw_ops ?_;refine po_all ?_;(conv=>whnf);refine pw_so ?_;refine po_all ?_;(conv=>whnf);refine pw_ret ?_;(conv=>whnf);cases H; rfl
  · (conv=>whnf);refine pw_skip ?_;(conv=>whnf);refine pw_so ?_;refine po_all ?_;(conv=>whnf);refine pw_ret ?_;(conv=>whnf);cases H; rfl

/-- guidevane/guidevanebase.Ceil -/
noncomputable def f17  (a0 : Int) (a1 : Int) : Option Int :=
  obnd (f66 (IntKind.i64.wrap (0 - a0)) a1) fun (y1 : Int) =>
  some (IntKind.i64.wrap (0 - y1))
set_option maxHeartbeats 1000000 in
theorem c17  {a0 : Int} {a1 : Int} {x : Int} (H : f17 a0 a1 = some x) : ICalls E 17 [(.int .i64 a0), (.int .i64 a1)] AHeap.none fun v _ => v = (.int .i64 x) := by
  refine icalls_fn (pfnw rfl ?_); unfold f17 at H;(conv=>whnf);refine pw_so ?_;refine po_all ?_;(conv=>whnf);refine pw_so ?_;refine po_all ?_;(conv=>whnf);obtain ⟨y1, h2, H⟩ := obnd_some H;refine (c66 h2).go ?_;(conv=>whnf);refine pw_ret ?_;(conv=>whnf);cases H; rfl

/-- guidevane/guidevaneref09.over -/
noncomputable def f190  (a0 : Int) (a1 : Int) : Option (Int × Int) :=
  obnd (f66 a0 a1) fun (y1 : Int) =>
  obnd (f17 a0 a1) fun (y3 : Int) =>
  some (y1, y3)
set_option maxHeartbeats 1000000 in
theorem c190  {a0 : Int} {a1 : Int} {x : Int × Int} (H : f190 a0 a1 = some x) : ICalls E 190 [(.int .i64 a0), (.int .i64 a1)] AHeap.none fun v _ => v = (.agg ⟨[(.int .i64 x.1), (.int .i64 x.2)]⟩) := by
  refine icalls_fn (pfnw rfl ?_); unfold f190 at H;(conv=>whnf);refine pw_so ?_;refine po_all ?_;(conv=>whnf);refine pw_so ?_;refine po_all ?_;(conv=>whnf);obtain ⟨y1, h2, H⟩ := obnd_some H;refine (c66 h2).go ?_;(conv=>whnf);obtain ⟨y3, h4, H⟩ := obnd_some H;refine (c17 h4).go ?_;(conv=>whnf);refine pw_ret ?_;(conv=>whnf);cases H; rfl

/-- guidevane/guidevaneref09.Shares -/
noncomputable def f181  (a0 : Int) (a1 : Int) (a2 : Int) (a3 : Int) (a4 : Int) (a5 : Int) (a6 : Int) (a7 : Int) (a8 : Int) : Option (Int × Int × Int × Int × Int × Int) :=
  obnd (f191 a0 a1 a2 a3 a4 a5 a6 a7 a8 (2 : Int)) fun (y1 : Int) =>
  obnd (f190 y1 a0) fun (y3 : Int × Int) =>
  obnd (f191 a0 a1 a2 a3 a4 a5 a6 a7 a8 (12 : Int)) fun (y5 : Int) =>
  obnd (f190 y5 a0) fun (y7 : Int × Int) =>
  obnd (f191 a0 a1 a2 a3 a4 a5 a6 a7 a8 (17 : Int)) fun (y9 : Int) =>
  obnd (f190 y9 a0) fun (y11 : Int × Int) =>
  some (y3.1, y3.2, y7.1, y7.2, y11.1, y11.2)
set_option maxHeartbeats 1000000 in
theorem c181  {a0 : Int} {a1 : Int} {a2 : Int} {a3 : Int} {a4 : Int} {a5 : Int} {a6 : Int} {a7 : Int} {a8 : Int} {x : Int × Int × Int × Int × Int × Int} (H : f181 a0 a1 a2 a3 a4 a5 a6 a7 a8 = some x) : ICalls E 181 [(.agg ⟨[(.int .i64 a0), (.int .i64 a1), (.int .i64 a2), (.int .i64 a3), (.int .i64 a4), (.int .i64 a5)]⟩), (.agg ⟨[(.int .i64 a6), (.int .i64 a7), (.int .i64 a8)]⟩)] AHeap.none fun v _ => v = (.agg ⟨[(.int .i64 x.1), (.int .i64 x.2.1), (.int .i64 x.2.2.1), (.int .i64 x.2.2.2.1), (.int .i64 x.2.2.2.2.1), (.int .i64 x.2.2.2.2.2)]⟩) := by
  refine icalls_fn (pfnw rfl ?_); unfold f181 at H;(conv=>whnf);refine pw_so ?_;refine po_all ?_;(conv=>whnf);refine pw_sd ?_;(conv=>whnf);refine ⟨?_, trivial⟩;(conv=>whnf);obtain ⟨y1, h2, H⟩ := obnd_some H;refine (c191 h2).go ?_;(conv=>whnf);refine ⟨by repeat (first | exact trivial | refine And.intro rfl ?_), ?_⟩;(conv=>whnf);refine ⟨?_, trivial⟩;(conv=>whnf);obtain ⟨y3, h4, H⟩ := obnd_some H;refine (c190 h4).go ?_;(conv=>whnf);refine ⟨by repeat (first | exact trivial | refine And.intro rfl ?_), ?_⟩;(conv=>whnf);refine ⟨?_, trivial⟩;(conv=>whnf);obtain ⟨y5, h6, H⟩ := obnd_some H;refine (c191 h6).go ?_
  (conv=>whnf);refine ⟨by repeat (first | exact trivial | refine And.intro rfl ?_), ?_⟩;(conv=>whnf);refine ⟨?_, trivial⟩;(conv=>whnf);obtain ⟨y7, h8, H⟩ := obnd_some H;refine (c190 h8).go ?_;(conv=>whnf);refine ⟨by repeat (first | exact trivial | refine And.intro rfl ?_), ?_⟩;(conv=>whnf);refine ⟨?_, trivial⟩;(conv=>whnf);obtain ⟨y9, h10, H⟩ := obnd_some H;refine (c191 h10).go ?_;(conv=>whnf);refine ⟨by repeat (first | exact trivial | refine And.intro rfl ?_), ?_⟩;(conv=>whnf);refine ⟨?_, trivial⟩;(conv=>whnf);obtain ⟨y11, h12, H⟩ := obnd_some H;refine (c190 h12).go ?_;(conv=>whnf);refine ⟨by repeat (first | exact trivial | refine And.intro rfl ?_), ?_⟩
  (conv=>whnf);refine ⟨?_, trivial⟩;(conv=>whnf);refine ⟨by repeat (first | exact trivial | refine And.intro rfl ?_), ?_⟩;(conv=>whnf);refine pw_ret ?_;(conv=>whnf);cases H; rfl

/-- guidevane/guidevaneref09.ReadingsErr -/
noncomputable def f51  (a0 : List (Int × Int × Int)) : Option Int :=
  oite ((ieq ((a0.map e_III).length : Int) (0 : Int))) (
   some (10 : Int)
    ) (
   oite ((ilt (12 : Int) ((a0.map e_III).length : Int))) (
    some (8 : Int)
     ) (
    obndS (
     oloop (τ := Int) (ρ := (Unit) ⊕ Int) (fun e5 =>
      oite ((ilt e5 ((a0.map e_III).length : Int))) (
       ogrd ((ile 0 e5)) (
       obnd (a0[e5.toNat]?) fun (x8 : Int × Int × Int) =>
       obnd (f32 x8.1 x8.2.1 x8.2.2) fun (y9 : Int) =>
       oite ((!(ieq y9 (0 : Int)))) (
        some (.inr (.inr (y9)))
         ) (
        some (.inl (IntKind.i64.wrap (e5 + (1 : Int))))
         )
       )
        ) (
       some (.inr (.inl ()))
        )
       ) (0 : Int)
      ) fun (_ : Unit) =>
    some (0 : Int)
     )
    )
set_option maxHeartbeats 1000000 in
theorem c51  {a0 : List (Int × Int × Int)} {x : Int} (H : f51 a0 = some x) : ICalls E 51 [(VS 3 (a0.map e_III))] AHeap.none fun v _ => v = (.int .i64 x) := by
  refine icalls_fn (pfnw rfl ?_); unfold f51 at H;(conv=>whnf);refine pw_so ?_;refine po_all ?_;(conv=>whnf);refine pw_seq ?_;refine pw_so ?_;refine po_all ?_;(conv=>whnf);refine pw_cond ?_;(conv=>whnf);refine pbr_oite H (fun _ H => ?_) (fun _ H => ?_)
  · (conv=>whnf);refine pw_so ?_;refine po_all ?_;(conv=>whnf);refine pw_ret ?_;(conv=>whnf);cases H; rfl
  · (conv=>whnf);refine pw_skip ?_;(conv=>whnf);refine pw_seq ?_;refine pw_so ?_;refine po_all ?_;(conv=>whnf);refine pw_cond ?_;(conv=>whnf);refine pbr_oite H (fun _ H => ?_) (fun _ H => ?_)
    · (conv=>whnf);refine pw_so ?_;refine po_all ?_;(conv=>whnf);refine pw_ret ?_;(conv=>whnf);cases H; rfl
    · (conv=>whnf);refine pw_skip ?_;(conv=>whnf);obtain ⟨r1, h2, h3, h4⟩ := obndS_some H;refine pw_joinS (ρ := Unit) (fun e => ⟨[], ⟨0, [], false⟩⟩) r1 ?_ ?_
      · refine pw_so ?_;refine po_all ?_;(conv=>whnf);refine pw_block ?_;refine pw_loop (τ := Int) (fun e => ⟨[(0, (VS 3 (a0.map e_III))), (3, (.int .i64 e))], ⟨0, [], false⟩⟩) h2 ?_ (fun _ => Nat.le_of_ble_eq_true rfl) ?_
        · exact .sub' (Nat.le_of_ble_eq_true rfl) (.cons rfl (.cons rfl .nil))
        · intro e5 x6 h7;refine pw_seq ?_;refine pw_so ?_;refine po_all ?_;(conv=>whnf);refine pw_cond ?_;(conv=>whnf);refine pbr_oite h7 (fun _ h7 => ?_) (fun _ h7 => ?_)
          · (conv=>whnf);refine pw_skip ?_;(conv=>whnf);refine pw_seq ?_;refine pw_block ?_;refine pw_so ?_;refine po_all ?_;(conv=>whnf);refine pbr_ogrd h7 (fun _ h7 => ?_);(conv=>whnf);refine nth_o (l := a0) h7 (fun x8 _ h7 => ?_);(conv=>whnf);obtain ⟨y9, h10, h7⟩ := obnd_some h7;refine (c32 h10).go ?_;(conv=>whnf);refine pw_so ?_;refine po_all ?_;(conv=>whnf);refine pw_cond ?_;(conv=>whnf);refine pbr_oite h7 (fun _ h7 => ?_) (fun _ h7 => ?_)
            · (conv=>whnf);refine pw_so ?_;refine po_all ?_;(conv=>whnf);refine pw_ret ?_;(conv=>whnf);cases h7;refine ⟨_, rfl, ?_⟩; rintro rfl;(conv=>whnf);obtain rfl := h4 _ rfl; rfl
            · (conv=>whnf);refine pw_skip ?_;(conv=>whnf);refine pw_ops ?_;refine po_all ?_;(conv=>whnf);cases h7;refine ⟨_, rfl, ?_⟩;exact .sub' (Nat.le_of_ble_eq_true rfl) (.cons rfl (.cons rfl .nil))
          · (conv=>whnf);refine pw_exit ?_;(conv=>whnf);cases h7;refine ⟨_, rfl, ?_⟩; rintro rfl;(conv=>whnf);exact ⟨_, rfl, ⟨.nil, rfl⟩⟩
      · intro r13 hr; have H := h3 _ hr;refine pw_so ?_;refine po_all ?_;(conv=>whnf);refine pw_ret ?_;(conv=>whnf);cases H; rfl

/-- guidevane/guidevaneref09.rest -/
noncomputable def f192  (a0 : Int) (a1 : Int) (a2 : Int) (a3 : Int) (a4 : Int) (a5 : Int) (a6 : Int) (a7 : Int) (a8 : Int) : Option Int :=
  obnd (f34 a6 a7 a8) fun (y1 : Int × Int × Int × Int × Int) =>
  obnd (
   some ()
    ) fun (_ : Unit) =>
  some (IntKind.i64.wrap ((IntKind.i64.wrap ((IntKind.i64.wrap ((IntKind.i64.wrap ((IntKind.i64.wrap ((IntKind.i64.wrap (a0 * a8)) - (IntKind.i64.wrap (a1 * y1.1)))) - (IntKind.i64.wrap (a2 * y1.2.1)))) - (IntKind.i64.wrap (a3 * y1.2.2.1)))) - (IntKind.i64.wrap (a4 * y1.2.2.2.1)))) - (IntKind.i64.wrap (a5 * y1.2.2.2.2))))
set_option maxHeartbeats 1000000 in
theorem c192  {a0 : Int} {a1 : Int} {a2 : Int} {a3 : Int} {a4 : Int} {a5 : Int} {a6 : Int} {a7 : Int} {a8 : Int} {x : Int} (H : f192 a0 a1 a2 a3 a4 a5 a6 a7 a8 = some x) : ICalls E 192 [(.agg ⟨[(.int .i64 a0), (.int .i64 a1), (.int .i64 a2), (.int .i64 a3), (.int .i64 a4), (.int .i64 a5)]⟩), (.agg ⟨[(.int .i64 a6), (.int .i64 a7), (.int .i64 a8)]⟩)] AHeap.none fun v _ => v = (.int .i64 x) := by
  refine icalls_fn (pfnw rfl ?_); unfold f192 at H;(conv=>whnf);refine pw_so ?_;refine po_all ?_;(conv=>whnf);refine pw_so ?_;refine po_all ?_;(conv=>whnf);obtain ⟨y1, h2, H⟩ := obnd_some H;refine (c34 h2).go ?_;(conv=>whnf);refine pw_so ?_;refine po_all ?_;(conv=>whnf);obtain ⟨r3, h4, H⟩ := obnd_some H;refine pw_join (ρ := Unit) (fun e => ⟨[(6, (.int .i64 (IntKind.i64.wrap ((IntKind.i64.wrap ((IntKind.i64.wrap ((IntKind.i64.wrap ((IntKind.i64.wrap ((IntKind.i64.wrap (a0 * a8)) - (IntKind.i64.wrap (a1 * y1.1)))) - (IntKind.i64.wrap (a2 * y1.2.1)))) - (IntKind.i64.wrap (a3 * y1.2.2.1)))) - (IntKind.i64.wrap (a4 * y1.2.2.2.1)))) - (IntKind.i64.wrap (a5 * y1.2.2.2.2))))))], ⟨3, [(2, .rw [(.int .i64 y1.1), (.int .i64 y1.2.1), (.int .i64 y1.2.2.1), (.int .i64 y1.2.2.2.1), (.int .i64 y1.2.2.2.2)]), (1, .rw [(.int .i64 a6), (.int .i64 a7), (.int .i64 a8)]), (0, .rw [(.int .i64 a0), (.int .i64 a1), (.int .i64 a2), (.int .i64 a3), (.int .i64 a4), (.int .i64 a5)])], false⟩⟩) r3 ?_ ?_
  · refine pw_so ?_;refine po_all ?_;(conv=>whnf);refine pw_block ?_;refine pw_unroll 6 ?_;(conv=>whnf);refine pw_seq ?_;refine pw_so ?_;refine po_all ?_;(conv=>whnf);refine pw_cond ?_;(conv=>whnf);refine pw_skip ?_;(conv=>whnf);refine pw_seq ?_;refine pw_block ?_;refine pw_draw ?_;(conv=>whnf);refine ⟨?_, trivial⟩;(conv=>whnf);refine ⟨by repeat (first | exact trivial | refine And.intro rfl ?_), ?_⟩;(conv=>whnf);refine pw_ops ?_;refine po_all ?_;(conv=>whnf);refine ⟨_, .refl, Nat.le_of_ble_eq_true rfl, ?_⟩;(conv=>whnf);refine pw_seq ?_;refine pw_so ?_;refine po_all ?_;(conv=>whnf);refine pw_cond ?_;(conv=>whnf)
    refine pw_skip ?_;(conv=>whnf);refine pw_seq ?_;refine pw_block ?_;refine pw_draw ?_;(conv=>whnf);refine ⟨?_, trivial⟩;(conv=>whnf);refine ⟨by repeat (first | exact trivial | refine And.intro rfl ?_), ?_⟩;(conv=>whnf);refine pw_ops ?_;refine po_all ?_;(conv=>whnf);refine ⟨_, .refl, Nat.le_of_ble_eq_true rfl, ?_⟩;(conv=>whnf);refine pw_seq ?_;refine pw_so ?_;refine po_all ?_;(conv=>whnf);refine pw_cond ?_;(conv=>whnf);refine pw_skip ?_;(conv=>whnf);refine pw_seq ?_;refine pw_block ?_;refine pw_draw ?_;(conv=>whnf);refine ⟨?_, trivial⟩;(conv=>whnf);refine ⟨by repeat (first | exact trivial | refine And.intro rfl ?_), ?_⟩
    (conv=>whnf);refine pw_ops ?_;refine po_all ?_;(conv=>whnf);refine ⟨_, .refl, Nat.le_of_ble_eq_true rfl, ?_⟩;(conv=>whnf);refine pw_seq ?_;refine pw_so ?_;refine po_all ?_;(conv=>whnf);refine pw_cond ?_;(conv=>whnf);refine pw_skip ?_;(conv=>whnf);refine pw_seq ?_;refine pw_block ?_;refine pw_draw ?_;(conv=>whnf);refine ⟨?_, trivial⟩;(conv=>whnf);refine ⟨by repeat (first | exact trivial | refine And.intro rfl ?_), ?_⟩;(conv=>whnf);refine pw_ops ?_;refine po_all ?_;(conv=>whnf);refine ⟨_, .refl, Nat.le_of_ble_eq_true rfl, ?_⟩;(conv=>whnf);refine pw_seq ?_;refine pw_so ?_;refine po_all ?_;(conv=>whnf);refine pw_cond ?_
    (conv=>whnf);refine pw_skip ?_;(conv=>whnf);refine pw_seq ?_;refine pw_block ?_;refine pw_draw ?_;(conv=>whnf);refine ⟨?_, trivial⟩;(conv=>whnf);refine ⟨by repeat (first | exact trivial | refine And.intro rfl ?_), ?_⟩;(conv=>whnf);refine pw_ops ?_;refine po_all ?_;(conv=>whnf);refine ⟨_, .refl, Nat.le_of_ble_eq_true rfl, ?_⟩;(conv=>whnf);refine pw_seq ?_;refine pw_so ?_;refine po_all ?_;(conv=>whnf);refine pw_cond ?_;(conv=>whnf);refine pw_exit ?_;(conv=>whnf);cases h4;exact ⟨(.cons rfl .nil), rfl⟩
  · refine pw_so ?_;refine po_all ?_;(conv=>whnf);refine pw_ret ?_;(conv=>whnf);cases H; rfl

/-- guidevane/guidevaneref09.Residuals -/
noncomputable def f182  (a0 : List (Int × Int × Int)) (a1 : Int) (a2 : Int) (a3 : Int) (a4 : Int) (a5 : Int) (a6 : Int) : Option ((List (Int × Int))) :=
  obnd (
   oloop (τ := (List (Int × Int)) × Int) (ρ := (List (Int × Int))) (fun e5 =>
    oite ((ilt e5.2 ((a0.map e_III).length : Int))) (
     ogrd ((ile 0 e5.2)) (
     obnd (a0[e5.2.toNat]?) fun (x8 : Int × Int × Int) =>
     obnd (f192 a1 a2 a3 a4 a5 a6 x8.1 x8.2.1 x8.2.2) fun (y9 : Int) =>
     obnd (f190 y9 a1) fun (y11 : Int × Int) =>
     ogrd (fits 16 (e5.1.length + ([(y11.1, y11.2)] : List (Int × Int)).length)) (
     some (.inl (((e5.1 ++ ([(y11.1, y11.2)] : List (Int × Int))), (IntKind.i64.wrap (e5.2 + (1 : Int))))))
     )
     )
      ) (
     some (.inr (e5.1))
      )
     ) ((([] : List (Int × Int)), (0 : Int)))
    ) fun (r1 : (List (Int × Int))) =>
  some r1
set_option maxHeartbeats 1000000 in
theorem c182  {a0 : List (Int × Int × Int)} {a1 : Int} {a2 : Int} {a3 : Int} {a4 : Int} {a5 : Int} {a6 : Int} {x : (List (Int × Int))} (H : f182 a0 a1 a2 a3 a4 a5 a6 = some x) : ICalls E 182 [(VS 3 (a0.map e_III)), (.agg ⟨[(.int .i64 a1), (.int .i64 a2), (.int .i64 a3), (.int .i64 a4), (.int .i64 a5), (.int .i64 a6)]⟩)] AHeap.none fun v _ => v = (VS 2 (x.map e_II)) := by
  refine ICalls.frz ?_;refine icalls_fn (pfnw rfl ?_); unfold f182 at H;(conv=>whnf);refine pw_so ?_;refine po_all ?_;(conv=>whnf);refine pw_so ?_;refine po_all ?_;(conv=>whnf);obtain ⟨r1, h2, H⟩ := obnd_some H;refine pw_join (ρ := (List (Int × Int))) (fun e => ⟨[(5, (VT 2 (e.map e_II) 1))], ⟨2, [(1, .tail (e.map e_II).length 2), (0, .rw [(.int .i64 a1), (.int .i64 a2), (.int .i64 a3), (.int .i64 a4), (.int .i64 a5), (.int .i64 a6)])], false⟩⟩) r1 ?_ ?_
  · refine pw_so ?_;refine po_all ?_;(conv=>whnf);refine pw_block ?_;refine pw_loop (τ := (List (Int × Int)) × Int) (fun e => ⟨[(0, (VS 3 (a0.map e_III))), (3, (.pointer (some ⟨0, 0, none⟩))), (5, (VT 2 (e.1.map e_II) 1)), (6, (.int .i64 e.2))], ⟨2, [(1, .tail (e.1.map e_II).length 2), (0, .rw [(.int .i64 a1), (.int .i64 a2), (.int .i64 a3), (.int .i64 a4), (.int .i64 a5), (.int .i64 a6)])], false⟩⟩) h2 ?_ (fun _ => Nat.le_of_ble_eq_true rfl) ?_
    · exact Recast.nilTs 2 (Nat.le_of_ble_eq_true rfl) (.same rfl (.same rfl (.turn rfl (.same rfl .nil))))
    · intro e5 x6 h7;refine pw_seq ?_;refine pw_so ?_;refine po_all ?_;(conv=>whnf);refine pw_cond ?_;(conv=>whnf);refine pbr_oite h7 (fun _ h7 => ?_) (fun _ h7 => ?_)
      · (conv=>whnf);refine pw_skip ?_;(conv=>whnf);refine pw_seq ?_;refine pw_block ?_;refine pw_draw ?_;(conv=>whnf);refine pbr_ogrd h7 (fun _ h7 => ?_);(conv=>whnf);refine nth_o (l := a0) h7 (fun x8 _ h7 => ?_);(conv=>whnf);refine ⟨?_, trivial⟩;(conv=>whnf);obtain ⟨y9, h10, h7⟩ := obnd_some h7;refine (c192 h10).go ?_;(conv=>whnf);refine ⟨by repeat (first | exact trivial | refine And.intro rfl ?_), ?_⟩;(conv=>whnf);refine ⟨?_, trivial⟩;(conv=>whnf);obtain ⟨y11, h12, h7⟩ := obnd_some h7;refine (c190 h12).go ?_;(conv=>whnf);refine ⟨by repeat (first | exact trivial | refine And.intro rfl ?_), ?_⟩;(conv=>whnf)
        refine ⟨?_, trivial⟩;(conv=>whnf);refine ⟨by repeat (first | exact trivial | refine And.intro rfl ?_), ?_⟩;(conv=>whnf);refine ⟨?_, trivial⟩;(conv=>whnf);refine app_o (l := e5.1) (m := ([(y11.1, y11.2)] : List (Int × Int))) (f := e_II) h7 (by rfl) (by rfl) (by rfl) (fun h7 => ?_);(conv=>whnf);refine ⟨by repeat (first | exact trivial | refine And.intro rfl ?_), ?_⟩;(conv=>whnf);refine ⟨?_, trivial⟩;(conv=>whnf);refine ⟨by repeat (first | exact trivial | refine And.intro rfl ?_), ?_⟩;(conv=>whnf);refine pw_ops ?_;refine po_all ?_;(conv=>whnf);cases h7;refine ⟨_, rfl, ?_⟩;refine Recast.trunc (Nat.le_of_ble_eq_true rfl) ?_ ?_
        · repeat (first | exact .nil | refine .cons rfl (by first | exact OBnd.rwc (Nat.le_of_ble_eq_true rfl) rfl | exact OBnd.tail (Nat.le_of_ble_eq_true rfl) | trivial) ?_)
        · repeat (first | exact .nil | refine .cons rfl (by first | exact Bnd.ptr (Nat.le_of_ble_eq_true rfl) | exact Bnd.vt (Nat.le_of_ble_eq_true rfl) | exact Bnd.cl) ?_)
      · (conv=>whnf);refine pw_exit ?_;(conv=>whnf);cases h7;refine ⟨_, rfl, ?_⟩; rintro rfl;(conv=>whnf);exact ⟨(.cons rfl .nil), rfl⟩
  · refine pw_so ?_;refine po_all ?_;(conv=>whnf);refine pw_ret ?_;(conv=>whnf);cases H; show ∃ D, Fz _ D 0 (VT 2 _ 1) _;exact ⟨fun _ => false, .vtc⟩

/-- guidevane/guidevanebase.Ranges -/
noncomputable def f58  (a0 : List (Int × Int)) (a1 : List (Int × Int)) : Option Bool :=
  oite ((!(ieq ((a0.map e_II).length : Int) ((a1.map e_II).length : Int)))) (
   some false
    ) (
   obndS (
    oloop (τ := Int) (ρ := (Unit) ⊕ Bool) (fun e5 =>
     oite ((ilt e5 ((a0.map e_II).length : Int))) (
      ogrd ((ile 0 e5)) (
      obnd (a0[e5.toNat]?) fun (x8 : Int × Int) =>
      obnd (a1[e5.toNat]?) fun (x9 : Int × Int) =>
      oite ((!((ieq x8.1 x9.1) && ((ieq x8.2 x9.2) && true)))) (
       some (.inr (.inr (false)))
        ) (
       some (.inl (IntKind.i64.wrap (e5 + (1 : Int))))
        )
      )
       ) (
      some (.inr (.inl ()))
       )
      ) (0 : Int)
     ) fun (_ : Unit) =>
   some true
    )
set_option maxHeartbeats 1000000 in
theorem c58  {a0 : List (Int × Int)} {a1 : List (Int × Int)} {x : Bool} (H : f58 a0 a1 = some x) : ICalls E 58 [(VS 2 (a0.map e_II)), (VS 2 (a1.map e_II))] AHeap.none fun v _ => v = (.bool x) := by
  refine icalls_fn (pfnw rfl ?_); unfold f58 at H;(conv=>whnf);refine pw_so ?_;refine po_all ?_;(conv=>whnf);refine pw_seq ?_;refine pw_so ?_;refine po_all ?_;(conv=>whnf);refine pw_cond ?_;(conv=>whnf);refine pbr_oite H (fun _ H => ?_) (fun _ H => ?_)
  · (conv=>whnf);refine pw_so ?_;refine po_all ?_;(conv=>whnf);refine pw_ret ?_;(conv=>whnf);cases H; rfl
  · (conv=>whnf);refine pw_skip ?_;(conv=>whnf);obtain ⟨r1, h2, h3, h4⟩ := obndS_some H;refine pw_joinS (ρ := Unit) (fun e => ⟨[], ⟨0, [], false⟩⟩) r1 ?_ ?_
    · refine pw_so ?_;refine po_all ?_;(conv=>whnf);refine pw_block ?_;refine pw_loop (τ := Int) (fun e => ⟨[(0, (VS 2 (a0.map e_II))), (1, (VS 2 (a1.map e_II))), (5, (.int .i64 e))], ⟨0, [], false⟩⟩) h2 ?_ (fun _ => Nat.le_of_ble_eq_true rfl) ?_
      · exact .sub' (Nat.le_of_ble_eq_true rfl) (.cons rfl (.cons rfl (.cons rfl .nil)))
      · intro e5 x6 h7;refine pw_seq ?_;refine pw_so ?_;refine po_all ?_;(conv=>whnf);refine pw_cond ?_;(conv=>whnf);refine pbr_oite h7 (fun _ h7 => ?_) (fun _ h7 => ?_)
        · (conv=>whnf);refine pw_skip ?_;(conv=>whnf);refine pw_seq ?_;refine pw_block ?_;refine pw_sd ?_;(conv=>whnf);refine pbr_ogrd h7 (fun _ h7 => ?_);(conv=>whnf);refine nth_o (l := a0) h7 (fun x8 _ h7 => ?_);(conv=>whnf);refine pbr_t (by assumption) ?_;(conv=>whnf);refine nth_o (l := a1) h7 (fun x9 _ h7 => ?_);(conv=>whnf);refine pw_cond ?_;(conv=>whnf);refine pbr_oite h7 (fun _ h7 => ?_) (fun _ h7 => ?_)
          · (conv=>whnf);refine pw_so ?_;refine po_all ?_;(conv=>whnf);refine pw_ret ?_;(conv=>whnf);cases h7;refine ⟨_, rfl, ?_⟩; rintro rfl;(conv=>whnf);obtain rfl := h4 _ rfl; rfl
          · (conv=>whnf);refine pw_skip ?_;(conv=>whnf);refine pw_ops ?_;refine po_all ?_;(conv=>whnf);cases h7;refine ⟨_, rfl, ?_⟩;exact .sub' (Nat.le_of_ble_eq_true rfl) (.cons rfl (.cons rfl (.cons rfl .nil)))
        · (conv=>whnf);refine pw_exit ?_;(conv=>whnf);cases h7;refine ⟨_, rfl, ?_⟩; rintro rfl;(conv=>whnf);exact ⟨_, rfl, ⟨.nil, rfl⟩⟩
    · intro r12 hr; have H := h3 _ hr;refine pw_so ?_;refine po_all ?_;(conv=>whnf);refine pw_ret ?_;(conv=>whnf);cases H; rfl

/-- guidevane/guidevanebase.Size -/
noncomputable def f109  (a0 : Int) : Option Int :=
  some (imax a0 (IntKind.i64.wrap (0 - a0)))
set_option maxHeartbeats 1000000 in
theorem c109  {a0 : Int} {x : Int} (H : f109 a0 = some x) : ICalls E 109 [(.int .i64 a0)] AHeap.none fun v _ => v = (.int .i64 x) := by
  refine icalls_fn (pfnw rfl ?_); unfold f109 at H;(conv=>whnf);refine pw_so ?_;refine po_all ?_;(conv=>whnf);refine pw_so ?_;refine po_all ?_;(conv=>whnf);refine pw_ret ?_;(conv=>whnf);cases H; rfl

/-- guidevane/guidevaneref09.Spread -/
noncomputable def f183  (a0 : List (Int × Int × Int)) (a1 : Int) (a2 : Int) (a3 : Int) (a4 : Int) (a5 : Int) (a6 : Int) : Option Int :=
  obnd (f182 a0 a1 a2 a3 a4 a5 a6) fun (y1 : (List (Int × Int))) =>
  obnd (
   oloop (τ := Int × Int) (ρ := Int) (fun e7 =>
    oite ((ilt e7.2 ((y1.map e_II).length : Int))) (
     ogrd ((ile 0 e7.2)) (
     obnd (y1[e7.2.toNat]?) fun (x10 : Int × Int) =>
     obnd (y1[e7.2.toNat]?) fun (x11 : Int × Int) =>
     obnd (f109 x10.1) fun (y12 : Int) =>
     obnd (f109 x11.2) fun (y14 : Int) =>
     some (.inl (((imax (imax e7.1 y12) y14), (IntKind.i64.wrap (e7.2 + (1 : Int))))))
     )
      ) (
     some (.inr (e7.1))
      )
     ) (((0 : Int), (0 : Int)))
    ) fun (r3 : Int) =>
  some r3
set_option maxHeartbeats 1000000 in
theorem c183  {a0 : List (Int × Int × Int)} {a1 : Int} {a2 : Int} {a3 : Int} {a4 : Int} {a5 : Int} {a6 : Int} {x : Int} (H : f183 a0 a1 a2 a3 a4 a5 a6 = some x) : ICalls E 183 [(VS 3 (a0.map e_III)), (.agg ⟨[(.int .i64 a1), (.int .i64 a2), (.int .i64 a3), (.int .i64 a4), (.int .i64 a5), (.int .i64 a6)]⟩)] AHeap.none fun v _ => v = (.int .i64 x) := by
  refine icalls_fn (pfnw rfl ?_); unfold f183 at H;(conv=>whnf);refine pw_so ?_;refine po_all ?_;(conv=>whnf);refine pw_so ?_;refine po_all ?_;(conv=>whnf);refine pw_so ?_;refine po_all ?_;(conv=>whnf);obtain ⟨y1, h2, H⟩ := obnd_some H;refine (c182 h2).go ?_;(conv=>whnf);obtain ⟨r3, h4, H⟩ := obnd_some H;refine pw_join (ρ := Int) (fun e => ⟨[(5, (.int .i64 e))], ⟨1, [(0, .rw [(.int .i64 a1), (.int .i64 a2), (.int .i64 a3), (.int .i64 a4), (.int .i64 a5), (.int .i64 a6)])], false⟩⟩) r3 ?_ ?_
  · refine pw_so ?_;refine po_all ?_;(conv=>whnf);refine pw_block ?_;refine pw_loop (τ := Int × Int) (fun e => ⟨[(5, (.int .i64 e.1)), (6, (VS 2 (y1.map e_II))), (7, (.int .i64 e.2))], ⟨1, [(0, .rw [(.int .i64 a1), (.int .i64 a2), (.int .i64 a3), (.int .i64 a4), (.int .i64 a5), (.int .i64 a6)])], false⟩⟩) h4 ?_ (fun _ => Nat.le_of_ble_eq_true rfl) ?_
    · exact .sub' (Nat.le_of_ble_eq_true rfl) (.cons rfl (.cons rfl (.cons rfl .nil)))
    · intro e7 x8 h9;refine pw_seq ?_;refine pw_so ?_;refine po_all ?_;(conv=>whnf);refine pw_cond ?_;(conv=>whnf);refine pbr_oite h9 (fun _ h9 => ?_) (fun _ h9 => ?_)
      · (conv=>whnf);refine pw_skip ?_;(conv=>whnf);refine pw_seq ?_;refine pw_block ?_;refine pw_draw ?_;(conv=>whnf);refine pbr_ogrd h9 (fun _ h9 => ?_);(conv=>whnf);refine nth_o (l := y1) h9 (fun x10 _ h9 => ?_);(conv=>whnf);refine pbr_t (by assumption) ?_;(conv=>whnf);refine nth_o (l := y1) h9 (fun x11 _ h9 => ?_);(conv=>whnf);refine ⟨?_, trivial⟩;(conv=>whnf);obtain ⟨y12, h13, h9⟩ := obnd_some h9;refine (c109 h13).go ?_;(conv=>whnf);refine ⟨by repeat (first | exact trivial | refine And.intro rfl ?_), ?_⟩;(conv=>whnf);refine ⟨?_, trivial⟩;(conv=>whnf);obtain ⟨y14, h15, h9⟩ := obnd_some h9;refine (c109 h15).go ?_
        (conv=>whnf);refine ⟨by repeat (first | exact trivial | refine And.intro rfl ?_), ?_⟩;(conv=>whnf);refine ⟨?_, trivial⟩;(conv=>whnf);refine ⟨by repeat (first | exact trivial | refine And.intro rfl ?_), ?_⟩;(conv=>whnf);refine pw_ops ?_;refine po_all ?_;(conv=>whnf);cases h9;refine ⟨_, rfl, ?_⟩;exact .sub' (Nat.le_of_ble_eq_true rfl) (.cons rfl (.cons rfl (.cons rfl .nil)))
      · (conv=>whnf);refine pw_exit ?_;(conv=>whnf);cases h9;refine ⟨_, rfl, ?_⟩; rintro rfl;(conv=>whnf);exact ⟨(.cons rfl .nil), rfl⟩
  · refine pw_so ?_;refine po_all ?_;(conv=>whnf);refine pw_ret ?_;(conv=>whnf);cases H; rfl

/-- guidevane/guidevaneref09.Forecast -/
noncomputable def f184  (a0 : List (Int × Int × Int)) (a1 : Int) (a2 : Int) (a3 : Int) (a4 : Int) (a5 : Int) (a6 : Int) (a7 : Int) (a8 : Int) (a9 : Int) : Option (Int × Int) :=
  obnd (
   obnd (f191 a1 a2 a3 a4 a5 a6 a7 a8 a9 (31 : Int)) fun (y5 : Int) =>
   obnd (f190 y5 a1) fun (y7 : Int × Int) =>
   obnd (f183 a0 a1 a2 a3 a4 a5 a6) fun (y9 : Int) =>
   some (y9, y7.1, y7.2)
    ) fun (r1 : Int × Int × Int) =>
  some ((IntKind.i64.wrap (r1.2.1 - r1.1)), (IntKind.i64.wrap (r1.2.2 + r1.1)))
set_option maxHeartbeats 1000000 in
theorem c184  {a0 : List (Int × Int × Int)} {a1 : Int} {a2 : Int} {a3 : Int} {a4 : Int} {a5 : Int} {a6 : Int} {a7 : Int} {a8 : Int} {a9 : Int} {x : Int × Int} (H : f184 a0 a1 a2 a3 a4 a5 a6 a7 a8 a9 = some x) : ICalls E 184 [(VS 3 (a0.map e_III)), (.agg ⟨[(.int .i64 a1), (.int .i64 a2), (.int .i64 a3), (.int .i64 a4), (.int .i64 a5), (.int .i64 a6)]⟩), (.agg ⟨[(.int .i64 a7), (.int .i64 a8), (.int .i64 a9)]⟩)] AHeap.none fun v _ => v = (.agg ⟨[(.int .i64 x.1), (.int .i64 x.2)]⟩) := by
  refine icalls_fn (pfnw rfl ?_); unfold f184 at H;(conv=>whnf);refine pw_so ?_;refine po_all ?_;(conv=>whnf);obtain ⟨r1, h2, H⟩ := obnd_some H;refine pw_join (ρ := Int × Int × Int) (fun e => ⟨[(6, (.pointer (some ⟨2, 0, none⟩))), (7, (.pointer (some ⟨3, 0, none⟩))), (8, (.int .i64 e.1))], ⟨4, [(3, .rw [(.int .i64 e.2.1), (.int .i64 e.2.2)]), (2, .rw [(.int .i64 0), (.int .i64 0)]), (1, .rw [(.int .i64 a7), (.int .i64 a8), (.int .i64 a9)]), (0, .rw [(.int .i64 a1), (.int .i64 a2), (.int .i64 a3), (.int .i64 a4), (.int .i64 a5), (.int .i64 a6)])], false⟩⟩) r1 ?_ ?_
  · refine pw_draw ?_;(conv=>whnf);refine ⟨?_, ?_⟩
    · (conv=>whnf);obtain ⟨y5, h6, h2⟩ := obnd_some h2;refine (c191 h6).go ?_;(conv=>whnf);refine ⟨by repeat (first | exact trivial | refine And.intro rfl ?_), ?_⟩;(conv=>whnf);refine ⟨?_, ?_⟩
      · (conv=>whnf);obtain ⟨y7, h8, h2⟩ := obnd_some h2;refine (c190 h8).go ?_;(conv=>whnf);refine ⟨by repeat (first | exact trivial | refine And.intro rfl ?_), ?_⟩;(conv=>whnf);refine ⟨?_, ?_⟩
        · (conv=>whnf);obtain ⟨y9, h10, h2⟩ := obnd_some h2;refine (c183 h10).go ?_;(conv=>whnf);refine ⟨by repeat (first | exact trivial | refine And.intro rfl ?_), ?_⟩;(conv=>whnf);refine ⟨?_, trivial⟩;(conv=>whnf);refine ⟨by repeat (first | exact trivial | refine And.intro rfl ?_), ?_⟩;(conv=>whnf);refine ⟨?_, trivial⟩;(conv=>whnf);refine ⟨by repeat (first | exact trivial | refine And.intro rfl ?_), ?_⟩;(conv=>whnf);cases h2;exact ⟨(.cons rfl (.cons rfl (.cons rfl .nil))), rfl⟩
        · obtain ⟨y9, h10, h2⟩ := obnd_some h2;(conv=>whnf);refine ⟨?_, trivial⟩;(conv=>whnf);refine ⟨by repeat (first | exact trivial | refine And.intro rfl ?_), ?_⟩;(conv=>whnf);refine ⟨?_, trivial⟩;(conv=>whnf);refine (c183 h10).go ?_;(conv=>whnf);refine ⟨by repeat (first | exact trivial | refine And.intro rfl ?_), ?_⟩;(conv=>whnf);refine ⟨?_, trivial⟩;(conv=>whnf);refine ⟨by repeat (first | exact trivial | refine And.intro rfl ?_), ?_⟩;(conv=>whnf);cases h2;exact ⟨(.cons rfl (.cons rfl (.cons rfl .nil))), rfl⟩
      · obtain ⟨y7, h8, h2⟩ := obnd_some h2;obtain ⟨y9, h10, h2⟩ := obnd_some h2;(conv=>whnf);refine ⟨?_, trivial⟩;(conv=>whnf);refine ⟨by repeat (first | exact trivial | refine And.intro rfl ?_), ?_⟩;(conv=>whnf);refine ⟨?_, trivial⟩;(conv=>whnf);refine (c190 h8).go ?_;(conv=>whnf);refine ⟨by repeat (first | exact trivial | refine And.intro rfl ?_), ?_⟩;(conv=>whnf);refine ⟨?_, trivial⟩;(conv=>whnf);refine (c183 h10).go ?_;(conv=>whnf);refine ⟨by repeat (first | exact trivial | refine And.intro rfl ?_), ?_⟩;(conv=>whnf);refine ⟨?_, trivial⟩;(conv=>whnf);refine ⟨by repeat (first | exact trivial | refine And.intro rfl ?_), ?_⟩
        (conv=>whnf);cases h2;exact ⟨(.cons rfl (.cons rfl (.cons rfl .nil))), rfl⟩
    · obtain ⟨y5, h6, h2⟩ := obnd_some h2;obtain ⟨y7, h8, h2⟩ := obnd_some h2;obtain ⟨y9, h10, h2⟩ := obnd_some h2;(conv=>whnf);refine ⟨?_, trivial⟩;(conv=>whnf);refine ⟨by repeat (first | exact trivial | refine And.intro rfl ?_), ?_⟩;(conv=>whnf);refine ⟨?_, trivial⟩;(conv=>whnf);refine (c191 h6).go ?_;(conv=>whnf);refine ⟨by repeat (first | exact trivial | refine And.intro rfl ?_), ?_⟩;(conv=>whnf);refine ⟨?_, trivial⟩;(conv=>whnf);refine (c190 h8).go ?_;(conv=>whnf);refine ⟨by repeat (first | exact trivial | refine And.intro rfl ?_), ?_⟩;(conv=>whnf);refine ⟨?_, trivial⟩;(conv=>whnf);refine (c183 h10).go ?_
      (conv=>whnf);refine ⟨by repeat (first | exact trivial | refine And.intro rfl ?_), ?_⟩;(conv=>whnf);refine ⟨?_, trivial⟩;(conv=>whnf);refine ⟨by repeat (first | exact trivial | refine And.intro rfl ?_), ?_⟩;(conv=>whnf);cases h2;exact ⟨(.cons rfl (.cons rfl (.cons rfl .nil))), rfl⟩
  · refine pw_so ?_;refine po_all ?_;(conv=>whnf);refine pw_ret ?_;(conv=>whnf);cases H; rfl

/-- guidevane/guidevanelaw09.DamResiduals -/
noncomputable def f167  (a0 : List (Int × Int × Int)) (a1 : Int) (a2 : Int) (a3 : Int) (a4 : Int) (a5 : Int) (a6 : Int) (a7 : Int) (a8 : Int) (a9 : Int) : Option Bool :=
  obnd (f10) fun (y1 : Bool) =>
  oite (!y1) (
   some false
    ) (
   obnd (f178 a0) fun (y3 : Bool) =>
   oite (!y3) (
    some true
     ) (
    obnd (f53 a0) fun (y5 : (List (Int × Int × Int))) =>
    obnd (f56 y5 a1 a2 a3 a4 a5 a6) fun (y7 : (List (Int × Int)) × Int) =>
    obnd (f53 a0) fun (y9 : (List (Int × Int × Int))) =>
    obnd (f57 y9 a1 a2 a3 a4 a5 a6) fun (y11 : Int × Int) =>
    obnd (
     obnd (f53 a0) fun (y17 : (List (Int × Int × Int))) =>
     obnd (f59 y17 a1 a2 a3 a4 a5 a6 a7 a8 a9) fun (y19 : Int × Int × Int) =>
     some (y19.2.2, y19.1, y19.2.1)
      ) fun (r13 : Int × Int × Int) =>
    obnd (f179 a1 a2 a3 a4 a5 a6 a7 a8 a9) fun (y21 : Int × Int × Int × Int × Int × Int × Int) =>
    obnd (f180 a1 a2 a3 a4 a5 a6) fun (y23 : Int) =>
    obnd (f32 a7 a8 a9) fun (y25 : Int) =>
    obnd (
     oite ((ieq y23 (0 : Int))) (
      some y25
       ) (
      some y23
       )
      ) fun (r27 : Int) =>
    obnd (
     oite ((!(ieq r27 (0 : Int)))) (
      oite ((!(ieq y21.2.2.2.2.2.2 r27))) (
       some true
        ) (
       oite ((!(((ieq y21.1 (0 : Int)) && ((ieq y21.2.1 (0 : Int)) && true)) && (((ieq y21.2.2.1 (0 : Int)) && ((ieq y21.2.2.2.1 (0 : Int)) && true)) && (((ieq y21.2.2.2.2.1 (0 : Int)) && ((ieq y21.2.2.2.2.2.1 (0 : Int)) && true)) && true))))) (
        some true
         ) (
        oite ((ieq r27 (0 : Int))) (
         oite ((!(ieq y21.2.2.2.2.2.2 (0 : Int)))) (
          some true
           ) (
          obnd (f181 a1 a2 a3 a4 a5 a6 a7 a8 a9) fun (y35 : Int × Int × Int × Int × Int × Int) =>
          some (!(((ieq y21.1 y35.1) && ((ieq y21.2.1 y35.2.1) && true)) && (((ieq y21.2.2.1 y35.2.2.1) && ((ieq y21.2.2.2.1 y35.2.2.2.1) && true)) && (((ieq y21.2.2.2.2.1 y35.2.2.2.2.1) && ((ieq y21.2.2.2.2.2.1 y35.2.2.2.2.2) && true)) && true))))
           )
          ) (
         some false
          )
         )
        )
       ) (
      oite ((ieq r27 (0 : Int))) (
       oite ((!(ieq y21.2.2.2.2.2.2 (0 : Int)))) (
        some true
         ) (
        obnd (f181 a1 a2 a3 a4 a5 a6 a7 a8 a9) fun (y37 : Int × Int × Int × Int × Int × Int) =>
        some (!(((ieq y21.1 y37.1) && ((ieq y21.2.1 y37.2.1) && true)) && (((ieq y21.2.2.1 y37.2.2.1) && ((ieq y21.2.2.2.1 y37.2.2.2.1) && true)) && (((ieq y21.2.2.2.2.1 y37.2.2.2.2.1) && ((ieq y21.2.2.2.2.2.1 y37.2.2.2.2.2) && true)) && true))))
         )
        ) (
       some false
        )
       )
      ) fun (r31 : Bool) =>
    oite r31 (
     some false
      ) (
     obnd (
      obnd (f51 a0) fun (y43 : Int) =>
      oite ((ieq y43 (0 : Int))) (
       some y23
        ) (
       some y43
        )
       ) fun (r39 : Int) =>
     oite ((!(ieq r39 (0 : Int)))) (
      obnd (
       oite ((ieq y7.2 r39)) (
        some (ieq ((y7.1.map e_II).length : Int) (0 : Int))
         ) (
        some false
         )
        ) fun (r45 : Bool) =>
      obnd (
       oite r45 (
        some (ieq y11.2 r39)
         ) (
        some false
         )
        ) fun (r47 : Bool) =>
      obnd (
       oite r47 (
        some (ieq y11.1 (0 : Int))
         ) (
        some false
         )
        ) fun (r49 : Bool) =>
      obnd (
       oite r49 (
        some (ieq r13.1 r39)
         ) (
        some false
         )
        ) fun (r51 : Bool) =>
      obnd (
       oite r51 (
        some ((ieq r13.2.1 (0 : Int)) && ((ieq r13.2.2 (0 : Int)) && true))
         ) (
        some false
         )
        ) fun (r53 : Bool) =>
      some r53
       ) (
      obnd (
       obnd (
        oite ((!(ieq y7.2 (0 : Int)))) (
         some true
          ) (
         obnd (f182 a0 a1 a2 a3 a4 a5 a6) fun (y61 : (List (Int × Int))) =>
         obnd (f58 y7.1 y61) fun (y63 : Bool) =>
         some (!y63)
          )
         ) fun (r59 : Bool) =>
       obnd (
        oite r59 (
         some true
          ) (
         some (!(ieq y11.2 (0 : Int)))
          )
         ) fun (r65 : Bool) =>
       oite r65 (
        some true
         ) (
        obnd (f183 a0 a1 a2 a3 a4 a5 a6) fun (y67 : Int) =>
        some (!(ieq y11.1 y67))
         )
        ) fun (r55 : Bool) =>
      oite r55 (
       some false
        ) (
       oite ((!(ieq y25 (0 : Int)))) (
        obnd (
         oite ((ieq r13.1 y25)) (
          some ((ieq r13.2.1 (0 : Int)) && ((ieq r13.2.2 (0 : Int)) && true))
           ) (
          some false
           )
          ) fun (r69 : Bool) =>
        some r69
         ) (
        oite ((ieq r13.1 (0 : Int))) (
         obnd (f184 a0 a1 a2 a3 a4 a5 a6 a7 a8 a9) fun (y71 : Int × Int) =>
         some ((ieq r13.2.1 y71.1) && ((ieq r13.2.2 y71.2) && true))
          ) (
         some false
          )
         )
        )
       )
      )
     )
    )
set_option maxHeartbeats 1000000 in
theorem c167  {a0 : List (Int × Int × Int)} {a1 : Int} {a2 : Int} {a3 : Int} {a4 : Int} {a5 : Int} {a6 : Int} {a7 : Int} {a8 : Int} {a9 : Int} {x : Bool} (H : f167 a0 a1 a2 a3 a4 a5 a6 a7 a8 a9 = some x) : ICalls E 167 [(VS 3 (a0.map e_III)), (.agg ⟨[(.int .i64 a1), (.int .i64 a2), (.int .i64 a3), (.int .i64 a4), (.int .i64 a5), (.int .i64 a6)]⟩), (.agg ⟨[(.int .i64 a7), (.int .i64 a8), (.int .i64 a9)]⟩)] AHeap.none fun v _ => v = (.bool x) := by
  refine icalls_fn (pfnw rfl ?_); unfold f167 at H;(conv=>whnf);refine pw_so ?_;refine po_all ?_;(conv=>whnf);refine pw_seq ?_;refine pw_so ?_;refine po_all ?_;(conv=>whnf);obtain ⟨y1, h2, H⟩ := obnd_some H;refine (c10 h2).go ?_;(conv=>whnf);refine pw_cond ?_;(conv=>whnf);refine pbr_oite H (fun _ H => ?_) (fun _ H => ?_)
  · (conv=>whnf);refine pw_so ?_;refine po_all ?_;(conv=>whnf);refine pw_ret ?_;(conv=>whnf);cases H; rfl
  · (conv=>whnf);refine pw_skip ?_;(conv=>whnf);refine pw_seq ?_;refine pw_so ?_;refine po_all ?_;(conv=>whnf);obtain ⟨y3, h4, H⟩ := obnd_some H;refine (c178 h4).go ?_;(conv=>whnf);refine pw_cond ?_;(conv=>whnf);refine pbr_oite H (fun _ H => ?_) (fun _ H => ?_)
    · (conv=>whnf);refine pw_so ?_;refine po_all ?_;(conv=>whnf);refine pw_ret ?_;(conv=>whnf);cases H; rfl
    · (conv=>whnf);refine pw_skip ?_;(conv=>whnf);refine pw_sd ?_;(conv=>whnf);refine ⟨?_, trivial⟩;(conv=>whnf);obtain ⟨y5, h6, H⟩ := obnd_some H;refine (c53 h6).go ?_;(conv=>whnf);refine ⟨by repeat (first | exact trivial | refine And.intro rfl ?_), ?_⟩;(conv=>whnf);refine ⟨?_, trivial⟩;(conv=>whnf);obtain ⟨y7, h8, H⟩ := obnd_some H;refine (c56 h8).go ?_;(conv=>whnf);refine ⟨by repeat (first | exact trivial | refine And.intro rfl ?_), ?_⟩;(conv=>whnf);refine pw_sd ?_;(conv=>whnf);refine ⟨?_, trivial⟩;(conv=>whnf);obtain ⟨y9, h10, H⟩ := obnd_some H;refine (c53 h10).go ?_;(conv=>whnf);refine ⟨by repeat (first | exact trivial | refine And.intro rfl ?_), ?_⟩
      (conv=>whnf);refine ⟨?_, trivial⟩;(conv=>whnf);obtain ⟨y11, h12, H⟩ := obnd_some H;refine (c57 h12).go ?_;(conv=>whnf);refine ⟨by repeat (first | exact trivial | refine And.intro rfl ?_), ?_⟩;(conv=>whnf);obtain ⟨r13, h14, H⟩ := obnd_some H;refine pw_join (ρ := Int × Int × Int) (fun e => ⟨[(0, (VS 3 (a0.map e_III))), (4, (.pointer (some ⟨0, 0, none⟩))), (5, (.pointer (some ⟨1, 0, none⟩))), (7, (VS 2 (y7.1.map e_II))), (8, (.int .i64 y7.2)), (9, (.int .i64 y11.1)), (10, (.int .i64 y11.2)), (11, (.pointer (some ⟨2, 0, none⟩))), (12, (.int .i64 e.1))], ⟨3, [(2, .rw [(.int .i64 e.2.1), (.int .i64 e.2.2)]), (1, .rw [(.int .i64 a7), (.int .i64 a8), (.int .i64 a9)]), (0, .rw [(.int .i64 a1), (.int .i64 a2), (.int .i64 a3), (.int .i64 a4), (.int .i64 a5), (.int .i64 a6)])], false⟩⟩) r13 ?_ ?_
      · refine pw_draw ?_;(conv=>whnf);refine ⟨?_, ?_⟩
        · (conv=>whnf);obtain ⟨y17, h18, h14⟩ := obnd_some h14;refine (c53 h18).go ?_;(conv=>whnf);refine ⟨by repeat (first | exact trivial | refine And.intro rfl ?_), ?_⟩;(conv=>whnf);refine ⟨?_, ?_⟩
          · (conv=>whnf);obtain ⟨y19, h20, h14⟩ := obnd_some h14;refine (c59 h20).go ?_;(conv=>whnf);refine ⟨by repeat (first | exact trivial | refine And.intro rfl ?_), ?_⟩;(conv=>whnf);refine ⟨?_, trivial⟩;(conv=>whnf);refine ⟨by repeat (first | exact trivial | refine And.intro rfl ?_), ?_⟩;(conv=>whnf);refine ⟨?_, trivial⟩;(conv=>whnf);refine ⟨by repeat (first | exact trivial | refine And.intro rfl ?_), ?_⟩;(conv=>whnf);cases h14;exact ⟨(.cons rfl (.cons rfl (.cons rfl (.cons rfl (.cons rfl (.cons rfl (.cons rfl (.cons rfl (.cons rfl .nil))))))))), rfl⟩
          · obtain ⟨y19, h20, h14⟩ := obnd_some h14;(conv=>whnf);refine ⟨?_, trivial⟩;(conv=>whnf);refine ⟨by repeat (first | exact trivial | refine And.intro rfl ?_), ?_⟩;(conv=>whnf);refine ⟨?_, trivial⟩;(conv=>whnf);refine (c59 h20).go ?_;(conv=>whnf);refine ⟨by repeat (first | exact trivial | refine And.intro rfl ?_), ?_⟩;(conv=>whnf);refine ⟨?_, trivial⟩;(conv=>whnf);refine ⟨by repeat (first | exact trivial | refine And.intro rfl ?_), ?_⟩;(conv=>whnf);cases h14;exact ⟨(.cons rfl (.cons rfl (.cons rfl (.cons rfl (.cons rfl (.cons rfl (.cons rfl (.cons rfl (.cons rfl .nil))))))))), rfl⟩
        · obtain ⟨y17, h18, h14⟩ := obnd_some h14;obtain ⟨y19, h20, h14⟩ := obnd_some h14;(conv=>whnf);refine ⟨?_, trivial⟩;(conv=>whnf);refine ⟨by repeat (first | exact trivial | refine And.intro rfl ?_), ?_⟩;(conv=>whnf);refine ⟨?_, trivial⟩;(conv=>whnf);refine (c53 h18).go ?_;(conv=>whnf);refine ⟨by repeat (first | exact trivial | refine And.intro rfl ?_), ?_⟩;(conv=>whnf);refine ⟨?_, trivial⟩;(conv=>whnf);refine (c59 h20).go ?_;(conv=>whnf);refine ⟨by repeat (first | exact trivial | refine And.intro rfl ?_), ?_⟩;(conv=>whnf);refine ⟨?_, trivial⟩;(conv=>whnf);refine ⟨by repeat (first | exact trivial | refine And.intro rfl ?_), ?_⟩
          (conv=>whnf);cases h14;exact ⟨(.cons rfl (.cons rfl (.cons rfl (.cons rfl (.cons rfl (.cons rfl (.cons rfl (.cons rfl (.cons rfl .nil))))))))), rfl⟩
      · refine pw_so ?_;refine po_all ?_;(conv=>whnf);obtain ⟨y21, h22, H⟩ := obnd_some H;refine (c179 h22).go ?_;(conv=>whnf);refine pw_sd ?_;(conv=>whnf);refine ⟨?_, trivial⟩;(conv=>whnf);obtain ⟨y23, h24, H⟩ := obnd_some H;refine (c180 h24).go ?_;(conv=>whnf);refine ⟨by repeat (first | exact trivial | refine And.intro rfl ?_), ?_⟩;(conv=>whnf);refine ⟨?_, trivial⟩;(conv=>whnf);obtain ⟨y25, h26, H⟩ := obnd_some H;refine (c32 h26).go ?_;(conv=>whnf);refine ⟨by repeat (first | exact trivial | refine And.intro rfl ?_), ?_⟩;(conv=>whnf);refine pw_so ?_;refine po_all ?_;(conv=>whnf);obtain ⟨r27, h28, H⟩ := obnd_some H
        refine pw_join (ρ := Int) (fun e => ⟨[(0, (VS 3 (a0.map e_III))), (4, (.pointer (some ⟨0, 0, none⟩))), (5, (.pointer (some ⟨1, 0, none⟩))), (7, (VS 2 (y7.1.map e_II))), (8, (.int .i64 y7.2)), (9, (.int .i64 y11.1)), (10, (.int .i64 y11.2)), (11, (.pointer (some ⟨2, 0, none⟩))), (12, (.int .i64 r13.1)), (13, (.pointer (some ⟨3, 0, none⟩))), (14, (.int .i64 y21.2.2.2.2.2.2)), (15, (.int .i64 y23)), (16, (.int .i64 y25)), (17, (.int .i64 e))], ⟨4, [(3, .rw [(.int .i64 y21.1), (.int .i64 y21.2.1), (.int .i64 y21.2.2.1), (.int .i64 y21.2.2.2.1), (.int .i64 y21.2.2.2.2.1), (.int .i64 y21.2.2.2.2.2.1)]), (2, .rw [(.int .i64 r13.2.1), (.int .i64 r13.2.2)]), (1, .rw [(.int .i64 a7), (.int .i64 a8), (.int .i64 a9)]), (0, .rw [(.int .i64 a1), (.int .i64 a2), (.int .i64 a3), (.int .i64 a4), (.int .i64 a5), (.int .i64 a6)])], false⟩⟩) r27 ?_ ?_
        · refine pw_so ?_;refine po_all ?_;(conv=>whnf);refine pw_cond ?_;(conv=>whnf);refine pbr_oite h28 (fun _ h28 => ?_) (fun _ h28 => ?_)
          · (conv=>whnf);refine pw_ops ?_;refine po_all ?_;(conv=>whnf);cases h28;exact ⟨(.cons rfl (.cons rfl (.cons rfl (.cons rfl (.cons rfl (.cons rfl (.cons rfl (.cons rfl (.cons rfl (.cons rfl (.cons rfl (.cons rfl (.cons rfl (.cons rfl .nil)))))))))))))), rfl⟩
          · (conv=>whnf);refine pw_skip ?_;(conv=>whnf);cases h28;exact ⟨(.cons rfl (.cons rfl (.cons rfl (.cons rfl (.cons rfl (.cons rfl (.cons rfl (.cons rfl (.cons rfl (.cons rfl (.cons rfl (.cons rfl (.cons rfl (.cons rfl .nil)))))))))))))), rfl⟩
        · refine pw_seq ?_;obtain ⟨r31, h32, H⟩ := obnd_some H;refine pw_join (ρ := Bool) (fun e => ⟨[(0, (VS 3 (a0.map e_III))), (4, (.pointer (some ⟨0, 0, none⟩))), (5, (.pointer (some ⟨1, 0, none⟩))), (7, (VS 2 (y7.1.map e_II))), (8, (.int .i64 y7.2)), (9, (.int .i64 y11.1)), (10, (.int .i64 y11.2)), (11, (.pointer (some ⟨2, 0, none⟩))), (12, (.int .i64 r13.1)), (15, (.int .i64 y23)), (16, (.int .i64 y25)), (85, (.bool e))], ⟨4, [(3, .rw [(.int .i64 y21.1), (.int .i64 y21.2.1), (.int .i64 y21.2.2.1), (.int .i64 y21.2.2.2.1), (.int .i64 y21.2.2.2.2.1), (.int .i64 y21.2.2.2.2.2.1)]), (2, .rw [(.int .i64 r13.2.1), (.int .i64 r13.2.2)]), (1, .rw [(.int .i64 a7), (.int .i64 a8), (.int .i64 a9)]), (0, .rw [(.int .i64 a1), (.int .i64 a2), (.int .i64 a3), (.int .i64 a4), (.int .i64 a5), (.int .i64 a6)])], false⟩⟩) r31 ?_ ?_
          · refine pw_draw ?_;(conv=>whnf);refine pbr_oite h32 (fun _ h32 => ?_) (fun _ h32 => ?_)
            · (conv=>whnf);refine pbr_t (by assumption) ?_;(conv=>whnf);refine pbr_t (by assumption) ?_;(conv=>whnf);refine pbr_t (by assumption) ?_;(conv=>whnf);refine pbr_oite h32 (fun _ h32 => ?_) (fun _ h32 => ?_)
              · (conv=>whnf);refine pbr_t (by assumption) ?_;(conv=>whnf);refine pbr_t (by assumption) ?_;(conv=>whnf);refine pbr_t (by assumption) ?_;(conv=>whnf);refine pbr_t (by assumption) ?_;(conv=>whnf);refine pbr_t (by assumption) ?_;(conv=>whnf);refine ⟨?_, trivial⟩;(conv=>whnf);cases h32;exact ⟨(.cons rfl (.cons rfl (.cons rfl (.cons rfl (.cons rfl (.cons rfl (.cons rfl (.cons rfl (.cons rfl (.cons rfl (.cons rfl (.cons rfl .nil)))))))))))), rfl⟩
              · (conv=>whnf);refine pbr_f (by assumption) ?_;(conv=>whnf);refine pbr_f (by assumption) ?_;(conv=>whnf);refine pbr_t (by assumption) ?_;(conv=>whnf);refine pbr_f (by assumption) ?_;(conv=>whnf);refine pbr_t (by assumption) ?_;(conv=>whnf);refine pbr_oite h32 (fun _ h32 => ?_) (fun _ h32 => ?_)
                · (conv=>whnf);refine pbr_t (by assumption) ?_;(conv=>whnf);refine pbr_t (by assumption) ?_;(conv=>whnf);refine ⟨?_, trivial⟩;(conv=>whnf);refine pbr_t (by assumption) ?_;(conv=>whnf);refine pbr_t (by assumption) ?_;(conv=>whnf);cases h32;exact ⟨(.cons rfl (.cons rfl (.cons rfl (.cons rfl (.cons rfl (.cons rfl (.cons rfl (.cons rfl (.cons rfl (.cons rfl (.cons rfl (.cons rfl .nil)))))))))))), rfl⟩
                · (conv=>whnf);refine pbr_f (by assumption) ?_;(conv=>whnf);refine pbr_f (by assumption) ?_;(conv=>whnf);refine pbr_oite h32 (fun _ h32 => ?_) (fun _ h32 => ?_)
                  · (conv=>whnf);refine pbr_t (by assumption) ?_;(conv=>whnf);refine pbr_t (by assumption) ?_;(conv=>whnf);refine pbr_oite h32 (fun _ h32 => ?_) (fun _ h32 => ?_)
                    · (conv=>whnf);refine pbr_t (by assumption) ?_;(conv=>whnf);refine pbr_t (by assumption) ?_;(conv=>whnf);refine ⟨?_, trivial⟩;(conv=>whnf);refine pbr_t (by assumption) ?_;(conv=>whnf);refine pbr_t (by assumption) ?_;(conv=>whnf);refine pbr_t (by assumption) ?_;(conv=>whnf);refine pbr_t (by assumption) ?_;(conv=>whnf);refine pbr_f (by assumption) ?_;(conv=>whnf);refine pbr_t (by assumption) ?_;(conv=>whnf);refine pbr_f (by assumption) ?_;(conv=>whnf);cases h32;exact ⟨(.cons rfl (.cons rfl (.cons rfl (.cons rfl (.cons rfl (.cons rfl (.cons rfl (.cons rfl (.cons rfl (.cons rfl (.cons rfl (.cons rfl .nil)))))))))))), rfl⟩
                    · (conv=>whnf);refine pbr_f (by assumption) ?_;(conv=>whnf);refine pbr_f (by assumption) ?_;(conv=>whnf);refine ⟨?_, trivial⟩;(conv=>whnf);refine pbr_f (by assumption) ?_;(conv=>whnf);obtain ⟨y35, h36, h32⟩ := obnd_some h32;refine (c181 h36).go ?_;(conv=>whnf);refine ⟨by repeat (first | exact trivial | refine And.intro rfl ?_), ?_⟩;(conv=>whnf);refine pbr_f (by assumption) ?_;(conv=>whnf);refine pbr_t (by assumption) ?_;(conv=>whnf);refine pbr_f (by assumption) ?_;(conv=>whnf);refine pbr_f (by assumption) ?_;(conv=>whnf);refine pbr_t (by assumption) ?_;(conv=>whnf);refine pbr_f (by assumption) ?_
                      (conv=>whnf);cases h32;exact ⟨(.cons rfl (.cons rfl (.cons rfl (.cons rfl (.cons rfl (.cons rfl (.cons rfl (.cons rfl (.cons rfl (.cons rfl (.cons rfl (.cons rfl .nil)))))))))))), rfl⟩
                  · (conv=>whnf);refine pbr_f (by assumption) ?_;(conv=>whnf);refine pbr_f (by assumption) ?_;(conv=>whnf);refine ⟨?_, trivial⟩;(conv=>whnf);refine pbr_f (by assumption) ?_;(conv=>whnf);refine pbr_f (by assumption) ?_;(conv=>whnf);refine pbr_f (by assumption) ?_;(conv=>whnf);refine pbr_f (by assumption) ?_;(conv=>whnf);cases h32;exact ⟨(.cons rfl (.cons rfl (.cons rfl (.cons rfl (.cons rfl (.cons rfl (.cons rfl (.cons rfl (.cons rfl (.cons rfl (.cons rfl (.cons rfl .nil)))))))))))), rfl⟩
            · (conv=>whnf);refine pbr_f (by assumption) ?_;(conv=>whnf);refine pbr_f (by assumption) ?_;(conv=>whnf);refine pbr_f (by assumption) ?_;(conv=>whnf);refine pbr_f (by assumption) ?_;(conv=>whnf);refine pbr_f (by assumption) ?_;(conv=>whnf);refine pbr_oite h32 (fun _ h32 => ?_) (fun _ h32 => ?_)
              · (conv=>whnf);refine pbr_t (by assumption) ?_;(conv=>whnf);refine pbr_t (by assumption) ?_;(conv=>whnf);refine pbr_oite h32 (fun _ h32 => ?_) (fun _ h32 => ?_)
                · (conv=>whnf);refine pbr_t (by assumption) ?_;(conv=>whnf);refine pbr_t (by assumption) ?_;(conv=>whnf);refine ⟨?_, trivial⟩;(conv=>whnf);refine pbr_t (by assumption) ?_;(conv=>whnf);refine pbr_t (by assumption) ?_;(conv=>whnf);refine pbr_t (by assumption) ?_;(conv=>whnf);refine pbr_t (by assumption) ?_;(conv=>whnf);refine pbr_t (by assumption) ?_;(conv=>whnf);cases h32;exact ⟨(.cons rfl (.cons rfl (.cons rfl (.cons rfl (.cons rfl (.cons rfl (.cons rfl (.cons rfl (.cons rfl (.cons rfl (.cons rfl (.cons rfl .nil)))))))))))), rfl⟩
                · (conv=>whnf);refine pbr_f (by assumption) ?_;(conv=>whnf);refine pbr_f (by assumption) ?_;(conv=>whnf);refine ⟨?_, trivial⟩;(conv=>whnf);refine pbr_f (by assumption) ?_;(conv=>whnf);obtain ⟨y37, h38, h32⟩ := obnd_some h32;refine (c181 h38).go ?_;(conv=>whnf);refine ⟨by repeat (first | exact trivial | refine And.intro rfl ?_), ?_⟩;(conv=>whnf);refine pbr_f (by assumption) ?_;(conv=>whnf);refine pbr_t (by assumption) ?_;(conv=>whnf);refine pbr_f (by assumption) ?_;(conv=>whnf);refine pbr_t (by assumption) ?_;(conv=>whnf);cases h32;exact ⟨(.cons rfl (.cons rfl (.cons rfl (.cons rfl (.cons rfl (.cons rfl (.cons rfl (.cons rfl (.cons rfl (.cons rfl (.cons rfl (.cons rfl .nil)))))))))))), rfl⟩
              · (conv=>whnf);refine pbr_f (by assumption) ?_;(conv=>whnf);refine pbr_f (by assumption) ?_;(conv=>whnf);refine ⟨?_, trivial⟩;(conv=>whnf);refine pbr_f (by assumption) ?_;(conv=>whnf);refine pbr_f (by assumption) ?_;(conv=>whnf);cases h32;exact ⟨(.cons rfl (.cons rfl (.cons rfl (.cons rfl (.cons rfl (.cons rfl (.cons rfl (.cons rfl (.cons rfl (.cons rfl (.cons rfl (.cons rfl .nil)))))))))))), rfl⟩
          · refine pw_cond ?_;(conv=>whnf);refine pbr_oite H (fun _ H => ?_) (fun _ H => ?_)
            · (conv=>whnf);refine pw_so ?_;refine po_all ?_;(conv=>whnf);refine pw_ret ?_;(conv=>whnf);cases H; rfl
            · (conv=>whnf);refine pw_skip ?_;(conv=>whnf);obtain ⟨r39, h40, H⟩ := obnd_some H;refine pw_join (ρ := Int) (fun e => ⟨[(0, (VS 3 (a0.map e_III))), (4, (.pointer (some ⟨0, 0, none⟩))), (5, (.pointer (some ⟨1, 0, none⟩))), (7, (VS 2 (y7.1.map e_II))), (8, (.int .i64 y7.2)), (9, (.int .i64 y11.1)), (10, (.int .i64 y11.2)), (11, (.pointer (some ⟨2, 0, none⟩))), (12, (.int .i64 r13.1)), (16, (.int .i64 y25)), (17, (.int .i64 e))], ⟨4, [(3, .rw [(.int .i64 y21.1), (.int .i64 y21.2.1), (.int .i64 y21.2.2.1), (.int .i64 y21.2.2.2.1), (.int .i64 y21.2.2.2.2.1), (.int .i64 y21.2.2.2.2.2.1)]), (2, .rw [(.int .i64 r13.2.1), (.int .i64 r13.2.2)]), (1, .rw [(.int .i64 a7), (.int .i64 a8), (.int .i64 a9)]), (0, .rw [(.int .i64 a1), (.int .i64 a2), (.int .i64 a3), (.int .i64 a4), (.int .i64 a5), (.int .i64 a6)])], false⟩⟩) r39 ?_ ?_
              · refine pw_so ?_;refine po_all ?_;(conv=>whnf);obtain ⟨y43, h44, h40⟩ := obnd_some h40;refine (c51 h44).go ?_;(conv=>whnf);refine pw_so ?_;refine po_all ?_;(conv=>whnf);refine pw_cond ?_;(conv=>whnf);refine pbr_oite h40 (fun _ h40 => ?_) (fun _ h40 => ?_)
                · (conv=>whnf);refine pw_ops ?_;refine po_all ?_;(conv=>whnf);cases h40;exact ⟨(.cons rfl (.cons rfl (.cons rfl (.cons rfl (.cons rfl (.cons rfl (.cons rfl (.cons rfl (.cons rfl (.cons rfl (.cons rfl .nil))))))))))), rfl⟩
                · (conv=>whnf);refine pw_skip ?_;(conv=>whnf);cases h40;exact ⟨(.cons rfl (.cons rfl (.cons rfl (.cons rfl (.cons rfl (.cons rfl (.cons rfl (.cons rfl (.cons rfl (.cons rfl (.cons rfl .nil))))))))))), rfl⟩
              · refine pw_seq ?_;refine pw_so ?_;refine po_all ?_;(conv=>whnf);refine pw_cond ?_;(conv=>whnf);refine pbr_oite H (fun _ H => ?_) (fun _ H => ?_)
                · (conv=>whnf);refine pw_so ?_;refine po_ops 4 ?_;(conv=>whnf);obtain ⟨r45, h46, H⟩ := obnd_some H;refine po_seg (τ := Bool) 4 (fun e => ⟨[(9, (.int .i64 y11.1)), (10, (.int .i64 y11.2)), (11, (.pointer (some ⟨2, 0, none⟩))), (12, (.int .i64 r13.1)), (17, (.int .i64 r39)), (100, (.bool e))], ⟨4, [(3, .rw [(.int .i64 y21.1), (.int .i64 y21.2.1), (.int .i64 y21.2.2.1), (.int .i64 y21.2.2.2.1), (.int .i64 y21.2.2.2.2.1), (.int .i64 y21.2.2.2.2.2.1)]), (2, .rw [(.int .i64 r13.2.1), (.int .i64 r13.2.2)]), (1, .rw [(.int .i64 a7), (.int .i64 a8), (.int .i64 a9)]), (0, .rw [(.int .i64 a1), (.int .i64 a2), (.int .i64 a3), (.int .i64 a4), (.int .i64 a5), (.int .i64 a6)])], false⟩⟩) r45 ?_ ?_
                  · refine po_all ?_;(conv=>whnf);refine pbr_oite h46 (fun _ h46 => ?_) (fun _ h46 => ?_)
                    · (conv=>whnf);refine pbr_t (by assumption) ?_;(conv=>whnf);refine pbr_t (by assumption) ?_;(conv=>whnf);refine pbr_t (by assumption) ?_;(conv=>whnf);cases h46;exact ⟨(.cons rfl (.cons rfl (.cons rfl (.cons rfl (.cons rfl (.cons rfl .nil)))))), rfl⟩
                    · (conv=>whnf);refine pbr_f (by assumption) ?_;(conv=>whnf);refine pbr_f (by assumption) ?_;(conv=>whnf);refine pbr_f (by assumption) ?_;(conv=>whnf);cases h46;exact ⟨(.cons rfl (.cons rfl (.cons rfl (.cons rfl (.cons rfl (.cons rfl .nil)))))), rfl⟩
                  · refine po_ops 1 ?_;(conv=>whnf);obtain ⟨r47, h48, H⟩ := obnd_some H;refine po_seg (τ := Bool) 4 (fun e => ⟨[(9, (.int .i64 y11.1)), (11, (.pointer (some ⟨2, 0, none⟩))), (12, (.int .i64 r13.1)), (17, (.int .i64 r39)), (105, (.bool e))], ⟨4, [(3, .rw [(.int .i64 y21.1), (.int .i64 y21.2.1), (.int .i64 y21.2.2.1), (.int .i64 y21.2.2.2.1), (.int .i64 y21.2.2.2.2.1), (.int .i64 y21.2.2.2.2.2.1)]), (2, .rw [(.int .i64 r13.2.1), (.int .i64 r13.2.2)]), (1, .rw [(.int .i64 a7), (.int .i64 a8), (.int .i64 a9)]), (0, .rw [(.int .i64 a1), (.int .i64 a2), (.int .i64 a3), (.int .i64 a4), (.int .i64 a5), (.int .i64 a6)])], false⟩⟩) r47 ?_ ?_
                    · refine po_all ?_;(conv=>whnf);refine pbr_oite h48 (fun _ h48 => ?_) (fun _ h48 => ?_)
                      · (conv=>whnf);refine pbr_t (by assumption) ?_;(conv=>whnf);refine pbr_t (by assumption) ?_;(conv=>whnf);refine pbr_t (by assumption) ?_;(conv=>whnf);cases h48;exact ⟨(.cons rfl (.cons rfl (.cons rfl (.cons rfl (.cons rfl .nil))))), rfl⟩
                      · (conv=>whnf);refine pbr_f (by assumption) ?_;(conv=>whnf);refine pbr_f (by assumption) ?_;(conv=>whnf);refine pbr_f (by assumption) ?_;(conv=>whnf);cases h48;exact ⟨(.cons rfl (.cons rfl (.cons rfl (.cons rfl (.cons rfl .nil))))), rfl⟩
                    · refine po_ops 1 ?_;(conv=>whnf);obtain ⟨r49, h50, H⟩ := obnd_some H;refine po_seg (τ := Bool) 3 (fun e => ⟨[(11, (.pointer (some ⟨2, 0, none⟩))), (12, (.int .i64 r13.1)), (17, (.int .i64 r39)), (109, (.bool e))], ⟨4, [(3, .rw [(.int .i64 y21.1), (.int .i64 y21.2.1), (.int .i64 y21.2.2.1), (.int .i64 y21.2.2.2.1), (.int .i64 y21.2.2.2.2.1), (.int .i64 y21.2.2.2.2.2.1)]), (2, .rw [(.int .i64 r13.2.1), (.int .i64 r13.2.2)]), (1, .rw [(.int .i64 a7), (.int .i64 a8), (.int .i64 a9)]), (0, .rw [(.int .i64 a1), (.int .i64 a2), (.int .i64 a3), (.int .i64 a4), (.int .i64 a5), (.int .i64 a6)])], false⟩⟩) r49 ?_ ?_
                      · refine po_all ?_;(conv=>whnf);refine pbr_oite h50 (fun _ h50 => ?_) (fun _ h50 => ?_)
                        · (conv=>whnf);refine pbr_t (by assumption) ?_;(conv=>whnf);refine pbr_t (by assumption) ?_;(conv=>whnf);cases h50;exact ⟨(.cons rfl (.cons rfl (.cons rfl (.cons rfl .nil)))), rfl⟩
                        · (conv=>whnf);refine pbr_f (by assumption) ?_;(conv=>whnf);refine pbr_f (by assumption) ?_;(conv=>whnf);cases h50;exact ⟨(.cons rfl (.cons rfl (.cons rfl (.cons rfl .nil)))), rfl⟩
                      · refine po_ops 1 ?_;(conv=>whnf);obtain ⟨r51, h52, H⟩ := obnd_some H;refine po_seg (τ := Bool) 4 (fun e => ⟨[(11, (.pointer (some ⟨2, 0, none⟩))), (114, (.bool e))], ⟨4, [(3, .rw [(.int .i64 y21.1), (.int .i64 y21.2.1), (.int .i64 y21.2.2.1), (.int .i64 y21.2.2.2.1), (.int .i64 y21.2.2.2.2.1), (.int .i64 y21.2.2.2.2.2.1)]), (2, .rw [(.int .i64 r13.2.1), (.int .i64 r13.2.2)]), (1, .rw [(.int .i64 a7), (.int .i64 a8), (.int .i64 a9)]), (0, .rw [(.int .i64 a1), (.int .i64 a2), (.int .i64 a3), (.int .i64 a4), (.int .i64 a5), (.int .i64 a6)])], false⟩⟩) r51 ?_ ?_
                        · refine po_all ?_;(conv=>whnf);refine pbr_oite h52 (fun _ h52 => ?_) (fun _ h52 => ?_)
                          · (conv=>whnf);refine pbr_t (by assumption) ?_;(conv=>whnf);refine pbr_t (by assumption) ?_;(conv=>whnf);refine pbr_t (by assumption) ?_;(conv=>whnf);cases h52;exact ⟨(.cons rfl (.cons rfl .nil)), rfl⟩
                          · (conv=>whnf);refine pbr_f (by assumption) ?_;(conv=>whnf);refine pbr_f (by assumption) ?_;(conv=>whnf);refine pbr_f (by assumption) ?_;(conv=>whnf);cases h52;exact ⟨(.cons rfl (.cons rfl .nil)), rfl⟩
                        · refine po_ops 1 ?_;(conv=>whnf);obtain ⟨r53, h54, H⟩ := obnd_some H;refine po_seg (τ := Bool) 4 (fun e => ⟨[(119, (.bool e))], ⟨4, [(3, .rw [(.int .i64 y21.1), (.int .i64 y21.2.1), (.int .i64 y21.2.2.1), (.int .i64 y21.2.2.2.1), (.int .i64 y21.2.2.2.2.1), (.int .i64 y21.2.2.2.2.2.1)]), (2, .rw [(.int .i64 r13.2.1), (.int .i64 r13.2.2)]), (1, .rw [(.int .i64 a7), (.int .i64 a8), (.int .i64 a9)]), (0, .rw [(.int .i64 a1), (.int .i64 a2), (.int .i64 a3), (.int .i64 a4), (.int .i64 a5), (.int .i64 a6)])], false⟩⟩) r53 ?_ ?_
                          · refine po_all ?_;(conv=>whnf);refine pbr_oite h54 (fun _ h54 => ?_) (fun _ h54 => ?_)
                            · (conv=>whnf);refine pbr_t (by assumption) ?_;(conv=>whnf);refine pbr_t (by assumption) ?_;(conv=>whnf);refine pbr_t (by assumption) ?_;(conv=>whnf);cases h54;exact ⟨(.cons rfl .nil), rfl⟩
                            · (conv=>whnf);refine pbr_f (by assumption) ?_;(conv=>whnf);refine pbr_f (by assumption) ?_;(conv=>whnf);refine pbr_f (by assumption) ?_;(conv=>whnf);cases h54;exact ⟨(.cons rfl .nil), rfl⟩
                          · refine po_all ?_;(conv=>whnf);refine pw_ret ?_;(conv=>whnf);cases H; rfl
                · (conv=>whnf);refine pw_skip ?_;(conv=>whnf);refine pw_seq ?_;obtain ⟨r55, h56, H⟩ := obnd_some H;refine pw_join (ρ := Bool) (fun e => ⟨[(0, (VS 3 (a0.map e_III))), (4, (.pointer (some ⟨0, 0, none⟩))), (5, (.pointer (some ⟨1, 0, none⟩))), (11, (.pointer (some ⟨2, 0, none⟩))), (12, (.int .i64 r13.1)), (16, (.int .i64 y25)), (140, (.bool e))], ⟨4, [(3, .rw [(.int .i64 y21.1), (.int .i64 y21.2.1), (.int .i64 y21.2.2.1), (.int .i64 y21.2.2.2.1), (.int .i64 y21.2.2.2.2.1), (.int .i64 y21.2.2.2.2.2.1)]), (2, .rw [(.int .i64 r13.2.1), (.int .i64 r13.2.2)]), (1, .rw [(.int .i64 a7), (.int .i64 a8), (.int .i64 a9)]), (0, .rw [(.int .i64 a1), (.int .i64 a2), (.int .i64 a3), (.int .i64 a4), (.int .i64 a5), (.int .i64 a6)])], false⟩⟩) r55 ?_ ?_
                  · refine pw_ops ?_;refine po_ops 3 ?_;(conv=>whnf);obtain ⟨r59, h60, h56⟩ := obnd_some h56;refine po_seg (τ := Bool) 7 (fun e => ⟨[(0, (VS 3 (a0.map e_III))), (4, (.pointer (some ⟨0, 0, none⟩))), (5, (.pointer (some ⟨1, 0, none⟩))), (9, (.int .i64 y11.1)), (10, (.int .i64 y11.2)), (11, (.pointer (some ⟨2, 0, none⟩))), (12, (.int .i64 r13.1)), (16, (.int .i64 y25)), (129, (.bool e))], ⟨4, [(3, .rw [(.int .i64 y21.1), (.int .i64 y21.2.1), (.int .i64 y21.2.2.1), (.int .i64 y21.2.2.2.1), (.int .i64 y21.2.2.2.2.1), (.int .i64 y21.2.2.2.2.2.1)]), (2, .rw [(.int .i64 r13.2.1), (.int .i64 r13.2.2)]), (1, .rw [(.int .i64 a7), (.int .i64 a8), (.int .i64 a9)]), (0, .rw [(.int .i64 a1), (.int .i64 a2), (.int .i64 a3), (.int .i64 a4), (.int .i64 a5), (.int .i64 a6)])], false⟩⟩) r59 ?_ ?_
                    · refine po_all ?_;(conv=>whnf);refine pbr_oite h60 (fun _ h60 => ?_) (fun _ h60 => ?_)
                      · (conv=>whnf);refine pbr_t (by assumption) ?_;(conv=>whnf);refine pbr_t (by assumption) ?_;(conv=>whnf);refine pbr_t (by assumption) ?_;(conv=>whnf);refine pbr_t (by assumption) ?_;(conv=>whnf);refine pbr_t (by assumption) ?_;(conv=>whnf);refine pbr_t (by assumption) ?_;(conv=>whnf);cases h60;exact ⟨(.cons rfl (.cons rfl (.cons rfl (.cons rfl (.cons rfl (.cons rfl (.cons rfl (.cons rfl (.cons rfl .nil))))))))), rfl⟩
                      · (conv=>whnf);refine pbr_f (by assumption) ?_;(conv=>whnf);refine pbr_f (by assumption) ?_;(conv=>whnf);refine pbr_f (by assumption) ?_;(conv=>whnf);obtain ⟨y61, h62, h60⟩ := obnd_some h60;refine (c182 h62).go ?_;(conv=>whnf);refine pbr_f (by assumption) ?_;(conv=>whnf);obtain ⟨y63, h64, h60⟩ := obnd_some h60;refine (c58 h64).go ?_;(conv=>whnf);refine pbr_f (by assumption) ?_;(conv=>whnf);refine pbr_f (by assumption) ?_;(conv=>whnf);cases h60;exact ⟨(.cons rfl (.cons rfl (.cons rfl (.cons rfl (.cons rfl (.cons rfl (.cons rfl (.cons rfl (.cons rfl .nil))))))))), rfl⟩
                    · refine po_ops 1 ?_;(conv=>whnf);obtain ⟨r65, h66, h56⟩ := obnd_some h56;refine po_seg (τ := Bool) 3 (fun e => ⟨[(0, (VS 3 (a0.map e_III))), (4, (.pointer (some ⟨0, 0, none⟩))), (5, (.pointer (some ⟨1, 0, none⟩))), (9, (.int .i64 y11.1)), (11, (.pointer (some ⟨2, 0, none⟩))), (12, (.int .i64 r13.1)), (16, (.int .i64 y25)), (133, (.bool e))], ⟨4, [(3, .rw [(.int .i64 y21.1), (.int .i64 y21.2.1), (.int .i64 y21.2.2.1), (.int .i64 y21.2.2.2.1), (.int .i64 y21.2.2.2.2.1), (.int .i64 y21.2.2.2.2.2.1)]), (2, .rw [(.int .i64 r13.2.1), (.int .i64 r13.2.2)]), (1, .rw [(.int .i64 a7), (.int .i64 a8), (.int .i64 a9)]), (0, .rw [(.int .i64 a1), (.int .i64 a2), (.int .i64 a3), (.int .i64 a4), (.int .i64 a5), (.int .i64 a6)])], false⟩⟩) r65 ?_ ?_
                      · refine po_all ?_;(conv=>whnf);refine pbr_oite h66 (fun _ h66 => ?_) (fun _ h66 => ?_)
                        · (conv=>whnf);refine pbr_t (by assumption) ?_;(conv=>whnf);refine pbr_t (by assumption) ?_;(conv=>whnf);cases h66;exact ⟨(.cons rfl (.cons rfl (.cons rfl (.cons rfl (.cons rfl (.cons rfl (.cons rfl (.cons rfl .nil)))))))), rfl⟩
                        · (conv=>whnf);refine pbr_f (by assumption) ?_;(conv=>whnf);refine pbr_f (by assumption) ?_;(conv=>whnf);cases h66;exact ⟨(.cons rfl (.cons rfl (.cons rfl (.cons rfl (.cons rfl (.cons rfl (.cons rfl (.cons rfl .nil)))))))), rfl⟩
                      · refine po_all ?_;(conv=>whnf);refine pbr_oite h56 (fun _ h56 => ?_) (fun _ h56 => ?_)
                        · (conv=>whnf);refine pbr_t (by assumption) ?_;(conv=>whnf);refine pbr_t (by assumption) ?_;(conv=>whnf);refine pbr_t (by assumption) ?_;(conv=>whnf);refine pbr_t (by assumption) ?_;(conv=>whnf);refine pbr_t (by assumption) ?_;(conv=>whnf);cases h56;exact ⟨(.cons rfl (.cons rfl (.cons rfl (.cons rfl (.cons rfl (.cons rfl (.cons rfl .nil))))))), rfl⟩
                        · (conv=>whnf);refine pbr_f (by assumption) ?_;(conv=>whnf);refine pbr_f (by assumption) ?_;(conv=>whnf);refine pbr_f (by assumption) ?_;(conv=>whnf);obtain ⟨y67, h68, h56⟩ := obnd_some h56;refine (c183 h68).go ?_;(conv=>whnf);refine pbr_f (by assumption) ?_;(conv=>whnf);refine pbr_f (by assumption) ?_;(conv=>whnf);cases h56;exact ⟨(.cons rfl (.cons rfl (.cons rfl (.cons rfl (.cons rfl (.cons rfl (.cons rfl .nil))))))), rfl⟩
                  · refine pw_cond ?_;(conv=>whnf);refine pbr_oite H (fun _ H => ?_) (fun _ H => ?_)
                    · (conv=>whnf);refine pw_so ?_;refine po_all ?_;(conv=>whnf);refine pw_ret ?_;(conv=>whnf);cases H; rfl
                    · (conv=>whnf);refine pw_skip ?_;(conv=>whnf);refine pw_seq ?_;refine pw_so ?_;refine po_all ?_;(conv=>whnf);refine pw_cond ?_;(conv=>whnf);refine pbr_oite H (fun _ H => ?_) (fun _ H => ?_)
                      · (conv=>whnf);refine pw_so ?_;refine po_ops 4 ?_;(conv=>whnf);obtain ⟨r69, h70, H⟩ := obnd_some H;refine po_seg (τ := Bool) 4 (fun e => ⟨[(150, (.bool e))], ⟨4, [(3, .rw [(.int .i64 y21.1), (.int .i64 y21.2.1), (.int .i64 y21.2.2.1), (.int .i64 y21.2.2.2.1), (.int .i64 y21.2.2.2.2.1), (.int .i64 y21.2.2.2.2.2.1)]), (2, .rw [(.int .i64 r13.2.1), (.int .i64 r13.2.2)]), (1, .rw [(.int .i64 a7), (.int .i64 a8), (.int .i64 a9)]), (0, .rw [(.int .i64 a1), (.int .i64 a2), (.int .i64 a3), (.int .i64 a4), (.int .i64 a5), (.int .i64 a6)])], false⟩⟩) r69 ?_ ?_
                        · refine po_all ?_;(conv=>whnf);refine pbr_oite h70 (fun _ h70 => ?_) (fun _ h70 => ?_)
                          · (conv=>whnf);refine pbr_t (by assumption) ?_;(conv=>whnf);refine pbr_t (by assumption) ?_;(conv=>whnf);refine pbr_t (by assumption) ?_;(conv=>whnf);cases h70;exact ⟨(.cons rfl .nil), rfl⟩
                          · (conv=>whnf);refine pbr_f (by assumption) ?_;(conv=>whnf);refine pbr_f (by assumption) ?_;(conv=>whnf);refine pbr_f (by assumption) ?_;(conv=>whnf);cases h70;exact ⟨(.cons rfl .nil), rfl⟩
                        · refine po_all ?_;(conv=>whnf);refine pw_ret ?_;(conv=>whnf);cases H; rfl
                      · (conv=>whnf);refine pw_skip ?_;(conv=>whnf);refine pw_sd ?_;(conv=>whnf);refine pbr_oite H (fun _ H => ?_) (fun _ H => ?_)
                        · (conv=>whnf);refine pbr_t (by assumption) ?_;(conv=>whnf);refine pbr_t (by assumption) ?_;(conv=>whnf);refine pbr_t (by assumption) ?_;(conv=>whnf);refine ⟨?_, trivial⟩;(conv=>whnf);refine pbr_t (by assumption) ?_;(conv=>whnf);obtain ⟨y71, h72, H⟩ := obnd_some H;refine (c184 h72).go ?_;(conv=>whnf);refine ⟨by repeat (first | exact trivial | refine And.intro rfl ?_), ?_⟩;(conv=>whnf);refine pbr_t (by assumption) ?_;(conv=>whnf);refine pbr_t (by assumption) ?_;(conv=>whnf);refine pw_ret ?_;(conv=>whnf);cases H; rfl
                        · (conv=>whnf);refine pbr_f (by assumption) ?_;(conv=>whnf);refine pbr_f (by assumption) ?_;(conv=>whnf);refine pbr_f (by assumption) ?_;(conv=>whnf);refine ⟨?_, trivial⟩;(conv=>whnf);refine pbr_f (by assumption) ?_;(conv=>whnf);refine pbr_f (by assumption) ?_;(conv=>whnf);refine pbr_f (by assumption) ?_;(conv=>whnf);refine pw_ret ?_;(conv=>whnf);cases H; rfl

end Go.Proofs.YtfdapegcngmknaaGreat.AM
