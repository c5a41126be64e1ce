/- Computations of functions, and that the functions do them (printed by tools/lift.py). Conditions: none. -/
import Derived.Test.YtfdapegcngmknaaGreatAmLf0
namespace Go.Proofs.YtfdapegcngmknaaGreat.AM
set_option linter.unusedSimpArgs false
set_option linter.unusedVariables false
open Go Go.RowKit
attribute [local irreducible] ICallV ICalls Recast
/-- guidevane/dam.gaugesErr -/
noncomputable def f186  (a0 : List (ByteArray × Int × Int × Int × Int)) : Option Int :=
  obnd (f64 ((ilt (0 : Int) ((a0.map e_SIIII).length : Int))) (10 : Int)) fun (y1 : Int) =>
  obnd (f64 ((ile ((a0.map e_SIIII).length : Int) (12 : Int))) (8 : Int)) fun (y3 : Int) =>
  obnd (f63 ([y1, y3] : List Int)) fun (y5 : Int) =>
  oite ((!(ieq y5 (0 : Int)))) (
   some y5
    ) (
   obndS (
    oloop (τ := Int) (ρ := (Unit) ⊕ Int) (fun e11 =>
     oite ((ilt e11 ((a0.map e_SIIII).length : Int))) (
      ogrd ((ile 0 e11)) (
      obnd (a0[e11.toNat]?) fun (x14 : ByteArray × Int × Int × Int × Int) =>
      obnd (oslH a0 e11) fun (m15 : List (ByteArray × Int × Int × Int × Int)) =>
      obnd (f193 (fun (z0 : ByteArray) (z1 : Int) (z2 : Int) (z3 : Int) (z4 : Int) => f194 z0 z1 z2 z3 z4 x14.1 x14.2.1 x14.2.2.1 x14.2.2.2.1 x14.2.2.2.2) m15) fun (y18 : Bool) =>
      obnd (f84 x14.2.1) fun (y20 : Bool) =>
      obnd (
       oite y20 (
        obnd (f84 x14.2.2.1) fun (y24 : Bool) =>
        some y24
         ) (
        some false
         )
        ) fun (r22 : Bool) =>
      obnd (
       oite r22 (
        obnd (f84 x14.2.2.2.1) fun (y28 : Bool) =>
        some y28
         ) (
        some false
         )
        ) fun (r26 : Bool) =>
      obnd (
       oite r26 (
        obnd (f84 x14.2.2.2.2) fun (y32 : Bool) =>
        some y32
         ) (
        some false
         )
        ) fun (r30 : Bool) =>
      obnd (
       oite ((ile x14.2.1 x14.2.2.1)) (
        some (ile x14.2.2.2.1 x14.2.2.2.2)
         ) (
        some false
         )
        ) fun (r34 : Bool) =>
      obnd (f88 x14.1) fun (y36 : Bool) =>
      obnd (f64 y36 (4 : Int)) fun (y38 : Int) =>
      obnd (f64 (!y18) (5 : Int)) fun (y40 : Int) =>
      obnd (f64 r30 (2 : Int)) fun (y42 : Int) =>
      obnd (f64 r34 (9 : Int)) fun (y44 : Int) =>
      obnd (f63 ([y38, y40, y42, y44] : List Int)) fun (y46 : Int) =>
      oite ((!(ieq y46 (0 : Int)))) (
       some (.inr (.inr (y46)))
        ) (
       some (.inl (IntKind.i64.wrap (e11 + (1 : Int))))
        )
      )
       ) (
      some (.inr (.inl ()))
       )
      ) (0 : Int)
     ) fun (_ : Unit) =>
   some (0 : Int)
    )
set_option maxHeartbeats 1000000 in
theorem c186  {a0 : List (ByteArray × Int × Int × Int × Int)} {x : Int} (H : f186 a0 = some x) : ICalls E 186 [(VS 5 (a0.map e_SIIII))] AHeap.none fun v _ => v = (.int .i64 x) := by
  refine icalls_fn (pfnw rfl ?_); unfold f186 at H; (conv => whnf); refine pw_so ?_; refine po_all ?_; (conv => whnf); refine pw_seq ?_; refine pw_so ?_; refine po_all ?_; (conv => whnf); obtain ⟨y1, h2, H⟩ := obnd_some H; refine (c64 h2).go ?_; (conv => whnf); obtain ⟨y3, h4, H⟩ := obnd_some H; refine (c64 h4).go ?_; (conv => whnf); obtain ⟨y5, h6, H⟩ := obnd_some H; refine ICalls.goW (c63 h6) (.cons (.vt _ _ _) .nil) ?_; (conv => whnf); refine pw_so ?_; refine po_all ?_; (conv => whnf); refine pw_cond ?_; (conv => whnf); refine pbr_oite H (fun _ H => ?_) (fun _ H => ?_)
  · (conv => whnf); refine pw_so ?_; refine po_all ?_; (conv => whnf); refine pw_ret ?_; (conv => whnf); cases H; rfl
  · (conv => whnf); refine pw_skip ?_; (conv => whnf); obtain ⟨r7, h8, h9, h10⟩ := obndS_some H; refine pw_joinS (ρ := Unit) (fun e => ⟨[], ⟨1, [(0, .tail 2 1)], false⟩⟩) r7 ?_ ?_
    · refine pw_so ?_; refine po_all ?_; (conv => whnf); refine pw_block ?_; refine pw_loop (τ := Int) (fun e => ⟨[(0, (VS 5 (a0.map e_SIIII))), (23, (VS 5 (a0.map e_SIIII))), (24, (.int .i64 ((a0.map e_SIIII).length : Int))), (25, (.int .i64 e))], ⟨1, [(0, .tail 2 1)], false⟩⟩) h8 ?_ (fun _ => Nat.le_of_ble_eq_true rfl) ?_
      · exact .sub' (Nat.le_of_ble_eq_true rfl) (.cons rfl (.cons rfl (.cons rfl (.cons rfl .nil))))
      · intro e11 x12 h13; refine pw_so ?_; refine po_all ?_; (conv => whnf); refine pw_seq ?_; refine pw_cond ?_; (conv => whnf); refine pbr_oite h13 (fun _ h13 => ?_) (fun _ h13 => ?_)
        · (conv => whnf); refine pw_skip ?_; (conv => whnf); refine pw_seq ?_; refine pw_block ?_; refine pw_so ?_; refine po_all ?_; (conv => whnf); refine pbr_ogrd h13 (fun _ h13 => ?_); (conv => whnf); refine nth_o (l := a0) h13 (fun x14 _ h13 => ?_); (conv => whnf); refine pw_so ?_; refine po_all ?_; (conv => whnf); refine oslH_o (f := e_SIIII) h13 (fun m15 _ h13 h16 h17 => ?_); refine pbr_t (ile_t h16.1) ?_; (conv => whnf); refine pbr_t (ile_t (by rw [List.length_map]; exact h16.2)) ?_; rw [h17]; (conv => whnf); obtain ⟨y18, h19, h13⟩ := obnd_some h13; refine ICalls.goD (c193 (fun _ _ _ _ _ _ h => (c194 h)) h19) (.cons .cl (.cons (.func .nil (.cons (.ptr rfl (by intro v hv; simp only [List.mem_cons, List.not_mem_nil, or_false] at hv; rcases hv with rfl | rfl | rfl | rfl | rfl <;> rfl)) .nil)) .nil)) rfl ?_
          (conv => whnf); refine pw_so ?_; refine po_ops 5 ?_; (conv => whnf); obtain ⟨y20, h21, h13⟩ := obnd_some h13; refine (c84 h21).go ?_; (conv => whnf); obtain ⟨r22, h23, h13⟩ := obnd_some h13; refine po_seg (τ := Bool) 5 (fun e => ⟨[(0, (VS 5 (a0.map e_SIIII))), (5, (.pointer (some ⟨1, 0, none⟩))), (6, (.bool y18)), (23, (VS 5 (a0.map e_SIIII))), (24, (.int .i64 ((a0.map e_SIIII).length : Int))), (25, (.int .i64 e11)), (44, (.bool e))], ⟨2, [(1, .rw [(.string x14.1), (.int .i64 x14.2.1), (.int .i64 x14.2.2.1), (.int .i64 x14.2.2.2.1), (.int .i64 x14.2.2.2.2)]), (0, .tail 2 1)], false⟩⟩) r22 ?_ ?_
          · refine po_all ?_; (conv => whnf); refine pbr_oite h23 (fun _ h23 => ?_) (fun _ h23 => ?_)
            · (conv => whnf); refine pbr_t (by assumption) ?_; (conv => whnf); refine pbr_t (by assumption) ?_; (conv => whnf); refine pbr_t (by assumption) ?_; (conv => whnf); obtain ⟨y24, h25, h23⟩ := obnd_some h23; refine (c84 h25).go ?_; (conv => whnf); refine pbr_t (by assumption) ?_; (conv => whnf); cases h23; exact ⟨(.cons rfl (.cons rfl (.cons rfl (.cons rfl (.cons rfl (.cons rfl (.cons rfl .nil))))))), rfl⟩
            · (conv => whnf); refine pbr_f (by assumption) ?_; (conv => whnf); refine pbr_f (by assumption) ?_; (conv => whnf); refine pbr_f (by assumption) ?_; (conv => whnf); refine pbr_f (by assumption) ?_; (conv => whnf); cases h23; exact ⟨(.cons rfl (.cons rfl (.cons rfl (.cons rfl (.cons rfl (.cons rfl (.cons rfl .nil))))))), rfl⟩
          · refine po_ops 1 ?_; (conv => whnf); obtain ⟨r26, h27, h13⟩ := obnd_some h13; refine po_seg (τ := Bool) 5 (fun e => ⟨[(0, (VS 5 (a0.map e_SIIII))), (5, (.pointer (some ⟨1, 0, none⟩))), (6, (.bool y18)), (23, (VS 5 (a0.map e_SIIII))), (24, (.int .i64 ((a0.map e_SIIII).length : Int))), (25, (.int .i64 e11)), (50, (.bool e))], ⟨2, [(1, .rw [(.string x14.1), (.int .i64 x14.2.1), (.int .i64 x14.2.2.1), (.int .i64 x14.2.2.2.1), (.int .i64 x14.2.2.2.2)]), (0, .tail 2 1)], false⟩⟩) r26 ?_ ?_
            · refine po_all ?_; (conv => whnf); refine pbr_oite h27 (fun _ h27 => ?_) (fun _ h27 => ?_)
              · (conv => whnf); refine pbr_t (by assumption) ?_; (conv => whnf); refine pbr_t (by assumption) ?_; (conv => whnf); refine pbr_t (by assumption) ?_; (conv => whnf); obtain ⟨y28, h29, h27⟩ := obnd_some h27; refine (c84 h29).go ?_; (conv => whnf); refine pbr_t (by assumption) ?_; (conv => whnf); cases h27; exact ⟨(.cons rfl (.cons rfl (.cons rfl (.cons rfl (.cons rfl (.cons rfl (.cons rfl .nil))))))), rfl⟩
              · (conv => whnf); refine pbr_f (by assumption) ?_; (conv => whnf); refine pbr_f (by assumption) ?_; (conv => whnf); refine pbr_f (by assumption) ?_; (conv => whnf); refine pbr_f (by assumption) ?_; (conv => whnf); cases h27; exact ⟨(.cons rfl (.cons rfl (.cons rfl (.cons rfl (.cons rfl (.cons rfl (.cons rfl .nil))))))), rfl⟩
            · refine po_ops 1 ?_; (conv => whnf); obtain ⟨r30, h31, h13⟩ := obnd_some h13; refine po_seg (τ := Bool) 5 (fun e => ⟨[(0, (VS 5 (a0.map e_SIIII))), (5, (.pointer (some ⟨1, 0, none⟩))), (6, (.bool y18)), (23, (VS 5 (a0.map e_SIIII))), (24, (.int .i64 ((a0.map e_SIIII).length : Int))), (25, (.int .i64 e11)), (56, (.bool e))], ⟨2, [(1, .rw [(.string x14.1), (.int .i64 x14.2.1), (.int .i64 x14.2.2.1), (.int .i64 x14.2.2.2.1), (.int .i64 x14.2.2.2.2)]), (0, .tail 2 1)], false⟩⟩) r30 ?_ ?_
              · refine po_all ?_; (conv => whnf); refine pbr_oite h31 (fun _ h31 => ?_) (fun _ h31 => ?_)
                · (conv => whnf); refine pbr_t (by assumption) ?_; (conv => whnf); refine pbr_t (by assumption) ?_; (conv => whnf); refine pbr_t (by assumption) ?_; (conv => whnf); obtain ⟨y32, h33, h31⟩ := obnd_some h31; refine (c84 h33).go ?_; (conv => whnf); refine pbr_t (by assumption) ?_; (conv => whnf); cases h31; exact ⟨(.cons rfl (.cons rfl (.cons rfl (.cons rfl (.cons rfl (.cons rfl (.cons rfl .nil))))))), rfl⟩
                · (conv => whnf); refine pbr_f (by assumption) ?_; (conv => whnf); refine pbr_f (by assumption) ?_; (conv => whnf); refine pbr_f (by assumption) ?_; (conv => whnf); refine pbr_f (by assumption) ?_; (conv => whnf); cases h31; exact ⟨(.cons rfl (.cons rfl (.cons rfl (.cons rfl (.cons rfl (.cons rfl (.cons rfl .nil))))))), rfl⟩
              · refine po_all ?_; (conv => whnf); refine pw_so ?_; refine po_ops 8 ?_; (conv => whnf); obtain ⟨r34, h35, h13⟩ := obnd_some h13; refine po_seg (τ := Bool) 8 (fun e => ⟨[(0, (VS 5 (a0.map e_SIIII))), (5, (.pointer (some ⟨1, 0, none⟩))), (6, (.bool y18)), (7, (.bool r30)), (23, (VS 5 (a0.map e_SIIII))), (24, (.int .i64 ((a0.map e_SIIII).length : Int))), (25, (.int .i64 e11)), (72, (.bool e))], ⟨2, [(1, .rw [(.string x14.1), (.int .i64 x14.2.1), (.int .i64 x14.2.2.1), (.int .i64 x14.2.2.2.1), (.int .i64 x14.2.2.2.2)]), (0, .tail 2 1)], false⟩⟩) r34 ?_ ?_
                · refine po_all ?_; (conv => whnf); refine pbr_oite h35 (fun _ h35 => ?_) (fun _ h35 => ?_)
                  · (conv => whnf); refine pbr_t (by assumption) ?_; (conv => whnf); refine pbr_t (by assumption) ?_; (conv => whnf); refine pbr_t (by assumption) ?_; (conv => whnf); refine pbr_t (by assumption) ?_; (conv => whnf); refine pbr_t (by assumption) ?_; (conv => whnf); refine pbr_t (by assumption) ?_; (conv => whnf); refine pbr_t (by assumption) ?_; (conv => whnf); cases h35; exact ⟨(.cons rfl (.cons rfl (.cons rfl (.cons rfl (.cons rfl (.cons rfl (.cons rfl (.cons rfl .nil)))))))), rfl⟩
                  · (conv => whnf); refine pbr_f (by assumption) ?_; (conv => whnf); refine pbr_f (by assumption) ?_; (conv => whnf); refine pbr_f (by assumption) ?_; (conv => whnf); refine pbr_f (by assumption) ?_; (conv => whnf); refine pbr_f (by assumption) ?_; (conv => whnf); refine pbr_f (by assumption) ?_; (conv => whnf); refine pbr_f (by assumption) ?_; (conv => whnf); cases h35; exact ⟨(.cons rfl (.cons rfl (.cons rfl (.cons rfl (.cons rfl (.cons rfl (.cons rfl (.cons rfl .nil)))))))), rfl⟩
                · refine po_all ?_; (conv => whnf); refine pw_so ?_; refine po_all ?_; (conv => whnf); obtain ⟨y36, h37, h13⟩ := obnd_some h13; refine (c88 h37).go ?_; (conv => whnf); obtain ⟨y38, h39, h13⟩ := obnd_some h13; refine (c64 h39).go ?_; (conv => whnf); obtain ⟨y40, h41, h13⟩ := obnd_some h13; refine (c64 h41).go ?_; (conv => whnf); obtain ⟨y42, h43, h13⟩ := obnd_some h13; refine (c64 h43).go ?_; (conv => whnf); obtain ⟨y44, h45, h13⟩ := obnd_some h13; refine (c64 h45).go ?_; (conv => whnf); obtain ⟨y46, h47, h13⟩ := obnd_some h13; refine ICalls.goW (c63 h47) (.cons (.vt _ _ _) .nil) ?_; (conv => whnf); refine pw_so ?_; refine po_all ?_; (conv => whnf)
                  refine pw_cond ?_; (conv => whnf); refine pbr_oite h13 (fun _ h13 => ?_) (fun _ h13 => ?_)
                  · (conv => whnf); refine pw_so ?_; refine po_all ?_; (conv => whnf); refine pw_ret ?_; (conv => whnf); cases h13; refine ⟨_, rfl, ?_⟩; rintro rfl; (conv => whnf); obtain rfl := h10 _ rfl; rfl
                  · (conv => whnf); refine pw_skip ?_; (conv => whnf); refine pw_ops ?_; refine po_all ?_; (conv => whnf); cases h13; refine ⟨_, rfl, ?_⟩; refine Recast.trunc (Nat.le_of_ble_eq_true rfl) ?_ ?_
                    · repeat (first | exact .nil | refine .cons rfl (by first | exact OBnd.rwc (Nat.le_of_ble_eq_true rfl) rfl | exact OBnd.tail (Nat.le_of_ble_eq_true rfl) | trivial) ?_)
                    · repeat (first | exact .nil | refine .cons rfl (by first | exact Bnd.ptr (Nat.le_of_ble_eq_true rfl) | exact Bnd.vt (Nat.le_of_ble_eq_true rfl) | exact Bnd.cl) ?_)
        · (conv => whnf); refine pw_exit ?_; (conv => whnf); cases h13; refine ⟨_, rfl, ?_⟩; rintro rfl; (conv => whnf); exact ⟨_, rfl, ⟨.nil, rfl⟩⟩
    · intro r50 hr; have H := h9 _ hr; refine pw_so ?_; refine po_all ?_; (conv => whnf); refine pw_ret ?_; (conv => whnf); cases H; rfl

/-- guidevane/dam.agreed -/
noncomputable def f187  (a0 : List (ByteArray × Int × Int × Int × Int)) : Option (Int × Int × Bool) :=
  obnd (
   oloop (τ := Int × Int × Int) (ρ := Int × Int) (fun e5 =>
    oite ((ilt e5.2.2 ((a0.map e_SIIII).length : Int))) (
     ogrd ((ile 0 e5.2.2)) (
     obnd (a0[e5.2.2.toNat]?) fun (x8 : ByteArray × Int × Int × Int × Int) =>
     some (.inl (((imax e5.1 (IntKind.i64.wrap (x8.2.1 - x8.2.2.2.2))), (imin e5.2.1 (IntKind.i64.wrap (x8.2.2.1 - x8.2.2.2.1))), (IntKind.i64.wrap (e5.2.2 + (1 : Int))))))
     )
      ) (
     some (.inr ((e5.1, e5.2.1)))
      )
     ) (((-2000000 : Int), (2000000 : Int), (0 : Int)))
    ) fun (r1 : Int × Int) =>
  some (r1.1, r1.2, (ile r1.1 r1.2))
set_option maxHeartbeats 1000000 in
theorem c187  {a0 : List (ByteArray × Int × Int × Int × Int)} {x : Int × Int × Bool} (H : f187 a0 = some x) : ICalls E 187 [(VS 5 (a0.map e_SIIII))] AHeap.none fun v _ => v = (.tuple ⟨[(.agg ⟨[(.int .i64 x.1), (.int .i64 x.2.1)]⟩), (.bool x.2.2)]⟩) := by
  refine icalls_fn (pfnw rfl ?_); unfold f187 at H; (conv => whnf); refine pw_so ?_; refine po_all ?_; (conv => whnf); refine pw_so ?_; refine po_all ?_; (conv => whnf); obtain ⟨r1, h2, H⟩ := obnd_some H; refine pw_join (ρ := Int × Int) (fun e => ⟨[(2, (.pointer (some ⟨0, 0, none⟩))), (4, (.pointer (some ⟨1, 0, none⟩)))], ⟨2, [(1, .rw [(.int .i64 e.1), (.int .i64 e.2)]), (0, .rw [(.int .i64 0), (.int .i64 0)])], false⟩⟩) r1 ?_ ?_
  · refine pw_so ?_; refine po_all ?_; (conv => whnf); refine pw_block ?_; refine pw_loop (τ := Int × Int × Int) (fun e => ⟨[(2, (.pointer (some ⟨0, 0, none⟩))), (4, (.pointer (some ⟨1, 0, none⟩))), (8, (VS 5 (a0.map e_SIIII))), (9, (.int .i64 ((a0.map e_SIIII).length : Int))), (10, (.int .i64 e.2.2))], ⟨2, [(1, .rw [(.int .i64 e.1), (.int .i64 e.2.1)]), (0, .rw [(.int .i64 0), (.int .i64 0)])], false⟩⟩) h2 ?_ (fun _ => Nat.le_of_ble_eq_true rfl) ?_
    · exact .sub' (Nat.le_of_ble_eq_true rfl) (.cons rfl (.cons rfl (.cons rfl (.cons rfl (.cons rfl .nil)))))
    · intro e5 x6 h7; refine pw_so ?_; refine po_all ?_; (conv => whnf); refine pw_seq ?_; refine pw_cond ?_; (conv => whnf); refine pbr_oite h7 (fun _ h7 => ?_) (fun _ h7 => ?_)
      · (conv => whnf); refine pw_skip ?_; (conv => whnf); refine pw_seq ?_; refine pw_block ?_; refine pw_so ?_; refine po_all ?_; (conv => whnf); refine pbr_ogrd h7 (fun _ h7 => ?_); (conv => whnf); refine nth_o (l := a0) h7 (fun x8 _ h7 => ?_); (conv => whnf); refine pw_ops ?_; refine po_all ?_; (conv => whnf); refine pw_ops ?_; refine po_all ?_; (conv => whnf); cases h7; refine ⟨_, rfl, ?_⟩; refine Recast.trunc (Nat.le_of_ble_eq_true rfl) ?_ ?_
        · repeat (first | exact .nil | refine .cons rfl (by first | exact OBnd.rwc (Nat.le_of_ble_eq_true rfl) rfl | exact OBnd.tail (Nat.le_of_ble_eq_true rfl) | trivial) ?_)
        · repeat (first | exact .nil | refine .cons rfl (by first | exact Bnd.ptr (Nat.le_of_ble_eq_true rfl) | exact Bnd.vt (Nat.le_of_ble_eq_true rfl) | exact Bnd.cl) ?_)
      · (conv => whnf); refine pw_exit ?_; (conv => whnf); cases h7; refine ⟨_, rfl, ?_⟩; rintro rfl; (conv => whnf); exact ⟨(.cons rfl (.cons rfl .nil)), rfl⟩
  · refine pw_sd ?_; (conv => whnf); refine ⟨?_, trivial⟩; (conv => whnf); (first | refine ⟨trivial, ?_⟩ | refine ⟨⟨rfl, trivial⟩, ?_⟩ | refine ⟨⟨rfl, rfl, trivial⟩, ?_⟩ | refine ⟨⟨rfl, rfl, rfl, trivial⟩, ?_⟩ | refine ⟨⟨rfl, rfl, rfl, rfl, trivial⟩, ?_⟩ | refine ⟨⟨rfl, rfl, rfl, rfl, rfl, trivial⟩, ?_⟩ | refine ⟨⟨rfl, rfl, rfl, rfl, rfl, rfl, trivial⟩, ?_⟩); (conv => whnf); refine pw_ret ?_; (conv => whnf); cases H; rfl

/-- guidevane/dam.AgreedOf -/
noncomputable def f172  (a0 : List (ByteArray × Int × Int × Int × Int)) : Option (Int × Int × Int) :=
  obnd (f186 a0) fun (y1 : Int) =>
  oite ((!(ieq y1 (0 : Int)))) (
   some ((0 : Int), (0 : Int), y1)
    ) (
   obnd (f187 a0) fun (y3 : Int × Int × Bool) =>
   oite (!y3.2.2) (
    some ((0 : Int), (0 : Int), (13 : Int))
     ) (
    some (y3.1, y3.2.1, (0 : Int))
     )
    )
set_option maxHeartbeats 1000000 in
theorem c172  {a0 : List (ByteArray × Int × Int × Int × Int)} {x : Int × Int × Int} (H : f172 a0 = some x) : ICalls E 172 [(VS 5 (a0.map e_SIIII))] AHeap.none fun v _ => v = (.tuple ⟨[(.agg ⟨[(.int .i64 x.1), (.int .i64 x.2.1)]⟩), (.int .i64 x.2.2)]⟩) := by
  refine icalls_fn (pfnw rfl ?_); unfold f172 at H; (conv => whnf); refine pw_so ?_; refine po_all ?_; (conv => whnf); refine pw_seq ?_; refine pw_so ?_; refine po_all ?_; (conv => whnf); obtain ⟨y1, h2, H⟩ := obnd_some H; refine (c186 h2).go ?_; (conv => whnf); refine pw_so ?_; refine po_all ?_; (conv => whnf); refine pw_cond ?_; (conv => whnf); refine pbr_oite H (fun _ H => ?_) (fun _ H => ?_)
  · (conv => whnf); refine pw_so ?_; refine po_all ?_; (conv => whnf); refine pw_ret ?_; (conv => whnf); cases H; rfl
  · (conv => whnf); refine pw_skip ?_; (conv => whnf); refine pw_so ?_; refine po_all ?_; (conv => whnf); obtain ⟨y3, h4, H⟩ := obnd_some H; refine (c187 h4).go ?_; (conv => whnf); refine pw_seq ?_; refine pw_so ?_; refine po_all ?_; (conv => whnf); refine pw_cond ?_; (conv => whnf); refine pbr_oite H (fun _ H => ?_) (fun _ H => ?_)
    · (conv => whnf); refine pw_so ?_; refine po_all ?_; (conv => whnf); refine pw_ret ?_; (conv => whnf); cases H; rfl
    · (conv => whnf); refine pw_skip ?_; (conv => whnf); refine pw_so ?_; refine po_all ?_; (conv => whnf); refine pw_ret ?_; (conv => whnf); cases H; rfl

/-- guidevane/dam.Contradicting -/
noncomputable def f174  (a0 : List (ByteArray × Int × Int × Int × Int)) : Option (ByteArray × ByteArray × Int) :=
  obnd (f186 a0) fun (y1 : Int) =>
  oite ((!(ieq y1 (0 : Int)))) (
   some ((⟨#[]⟩ : ByteArray), (⟨#[]⟩ : ByteArray), y1)
    ) (
   obndS (
    oloop (τ := Int) (ρ := (Unit) ⊕ (ByteArray × ByteArray × Int)) (fun e7 =>
     oite ((ilt e7 ((a0.map e_SIIII).length : Int))) (
      obndS (
       ogrd ((ile 0 e7)) (
       obnd (a0[e7.toNat]?) fun (x14 : ByteArray × Int × Int × Int × Int) =>
       obnd (oslL a0 (IntKind.i64.wrap (e7 + (1 : Int)))) fun (m15 : List (ByteArray × Int × Int × Int × Int)) =>
       oloop (τ := Int) (ρ := (ByteArray × Int × Int × Int × Int) ⊕ ((Int) ⊕ ((Unit) ⊕ (ByteArray × ByteArray × Int)))) (fun e18 =>
        oite ((ilt e18 ((m15.map e_SIIII).length : Int))) (
         ogrd ((ile 0 e18)) (
         obnd (m15[e18.toNat]?) fun (x21 : ByteArray × Int × Int × Int × Int) =>
         obnd (f187 (([(x14.1, x14.2.1, x14.2.2.1, x14.2.2.2.1, x14.2.2.2.2), (x21.1, x21.2.1, x21.2.2.1, x21.2.2.2.1, x21.2.2.2.2)] : List (ByteArray × Int × Int × Int × Int)))) fun (y22 : Int × Int × Bool) =>
         oite (!y22.2.2) (
          some (.inr (.inr (.inr (.inr ((x14.1, x21.1, (0 : Int)))))))
           ) (
          some (.inl (IntKind.i64.wrap (e18 + (1 : Int))))
           )
         )
          ) (
         some (.inr (.inl (x14.1, x14.2.1, x14.2.2.1, x14.2.2.2.1, x14.2.2.2.2)))
          )
         ) (0 : Int)
       )
        ) fun (_ : ByteArray × Int × Int × Int × Int) =>
      some (.inl (IntKind.i64.wrap (e7 + (1 : Int))))
       ) (
      some (.inr (.inl ()))
       )
      ) (0 : Int)
     ) fun (_ : Unit) =>
   some ((⟨#[]⟩ : ByteArray), (⟨#[]⟩ : ByteArray), (12 : Int))
    )
set_option maxHeartbeats 1000000 in
theorem c174  {a0 : List (ByteArray × Int × Int × Int × Int)} {x : ByteArray × ByteArray × Int} (H : f174 a0 = some x) : ICalls E 174 [(VS 5 (a0.map e_SIIII))] AHeap.none fun v _ => v = (.tuple ⟨[(.agg ⟨[(.string x.1), (.string x.2.1)]⟩), (.int .i64 x.2.2)]⟩) := by
  refine icalls_fn (pfnw rfl ?_); unfold f174 at H; (conv => whnf); refine pw_so ?_; refine po_all ?_; (conv => whnf); refine pw_seq ?_; refine pw_so ?_; refine po_all ?_; (conv => whnf); obtain ⟨y1, h2, H⟩ := obnd_some H; refine (c186 h2).go ?_; (conv => whnf); refine pw_so ?_; refine po_all ?_; (conv => whnf); refine pw_cond ?_; (conv => whnf); refine pbr_oite H (fun _ H => ?_) (fun _ H => ?_)
  · (conv => whnf); refine pw_so ?_; refine po_all ?_; (conv => whnf); refine pw_ret ?_; (conv => whnf); cases H; rfl
  · (conv => whnf); refine pw_skip ?_; (conv => whnf); obtain ⟨r3, h4, h5, h6⟩ := obndS_some H; refine pw_joinS (ρ := Unit) (fun e => ⟨[(2, (.pointer (some ⟨0, 0, none⟩)))], ⟨1, [(0, .rw [(.string (⟨#[]⟩ : ByteArray)), (.string (⟨#[]⟩ : ByteArray))])], false⟩⟩) r3 ?_ ?_
    · refine pw_so ?_; refine po_all ?_; (conv => whnf); refine pw_block ?_; refine pw_loop (τ := Int) (fun e => ⟨[(0, (VS 5 (a0.map e_SIIII))), (2, (.pointer (some ⟨0, 0, none⟩))), (17, (VS 5 (a0.map e_SIIII))), (18, (.int .i64 ((a0.map e_SIIII).length : Int))), (19, (.int .i64 e))], ⟨1, [(0, .rw [(.string (⟨#[]⟩ : ByteArray)), (.string (⟨#[]⟩ : ByteArray))])], false⟩⟩) h4 ?_ (fun _ => Nat.le_of_ble_eq_true rfl) ?_
      · exact .sub' (Nat.le_of_ble_eq_true rfl) (.cons rfl (.cons rfl (.cons rfl (.cons rfl (.cons rfl .nil)))))
      · intro e7 x8 h9; refine pw_so ?_; refine po_all ?_; (conv => whnf); refine pw_seq ?_; refine pw_cond ?_; (conv => whnf); refine pbr_oite h9 (fun _ h9 => ?_) (fun _ h9 => ?_)
        · (conv => whnf); refine pw_skip ?_; (conv => whnf); obtain ⟨r10, h11, h12, h13⟩ := obndS_some h9; refine pw_joinS (ρ := ByteArray × Int × Int × Int × Int) (fun e => ⟨[(0, (VS 5 (a0.map e_SIIII))), (2, (.pointer (some ⟨0, 0, none⟩))), (17, (VS 5 (a0.map e_SIIII))), (18, (.int .i64 ((a0.map e_SIIII).length : Int))), (19, (.int .i64 e7))], ⟨2, [(1, .rw [(.string e.1), (.int .i64 e.2.1), (.int .i64 e.2.2.1), (.int .i64 e.2.2.2.1), (.int .i64 e.2.2.2.2)]), (0, .rw [(.string (⟨#[]⟩ : ByteArray)), (.string (⟨#[]⟩ : ByteArray))])], false⟩⟩) r10 ?_ ?_
          · refine pw_block ?_; refine pw_so ?_; refine po_all ?_; (conv => whnf); refine pbr_ogrd h11 (fun _ h11 => ?_); (conv => whnf); refine nth_o (l := a0) h11 (fun x14 _ h11 => ?_); (conv => whnf); refine pw_so ?_; refine po_all ?_; (conv => whnf); refine oslL_o (f := e_SIIII) h11 (fun m15 _ h11 h16 h17 => ?_); refine pbr_t (ile_t h16.1) ?_; (conv => whnf); refine pbr_t (ile_t (by rw [List.length_map]; exact h16.2)) ?_; rw [h17]; (conv => whnf); refine pw_block ?_; refine pw_loop (τ := Int) (fun e => ⟨[(0, (VS 5 (a0.map e_SIIII))), (2, (.pointer (some ⟨0, 0, none⟩))), (6, (.pointer (some ⟨1, 0, none⟩))), (17, (VS 5 (a0.map e_SIIII))), (18, (.int .i64 ((a0.map e_SIIII).length : Int))), (19, (.int .i64 e7)), (27, (VS 5 (m15.map e_SIIII))), (28, (.int .i64 ((m15.map e_SIIII).length : Int))), (29, (.int .i64 e))], ⟨2, [(1, .rw [(.string x14.1), (.int .i64 x14.2.1), (.int .i64 x14.2.2.1), (.int .i64 x14.2.2.2.1), (.int .i64 x14.2.2.2.2)]), (0, .rw [(.string (⟨#[]⟩ : ByteArray)), (.string (⟨#[]⟩ : ByteArray))])], false⟩⟩) h11 ?_ (fun _ => Nat.le_of_ble_eq_true rfl) ?_
            · exact .sub' (Nat.le_of_ble_eq_true rfl) (.cons rfl (.cons rfl (.cons rfl (.cons rfl (.cons rfl (.cons rfl (.cons rfl (.cons rfl (.cons rfl .nil)))))))))
            · intro e18 x19 h20; refine pw_so ?_; refine po_all ?_; (conv => whnf); refine pw_seq ?_; refine pw_cond ?_; (conv => whnf); refine pbr_oite h20 (fun _ h20 => ?_) (fun _ h20 => ?_)
              · (conv => whnf); refine pw_skip ?_; (conv => whnf); refine pw_seq ?_; refine pw_block ?_; refine pw_so ?_; refine po_all ?_; (conv => whnf); refine pbr_ogrd h20 (fun _ h20 => ?_); (conv => whnf); refine nth_o (l := m15) h20 (fun x21 _ h20 => ?_); (conv => whnf); refine pw_so ?_; refine po_all ?_; (conv => whnf); obtain ⟨y22, h23, h20⟩ := obnd_some h20; refine ICalls.goW (c187 h23) (.cons (.vt _ _ _) .nil) ?_; (conv => whnf); refine pw_so ?_; refine po_all ?_; (conv => whnf); refine pw_cond ?_; (conv => whnf); refine pbr_oite h20 (fun _ h20 => ?_) (fun _ h20 => ?_)
                · (conv => whnf); refine pw_so ?_; refine po_all ?_; (conv => whnf); refine pw_ret ?_; (conv => whnf); cases h20; refine ⟨_, rfl, ?_⟩; rintro rfl; (conv => whnf); obtain rfl := h13 _ rfl; refine ⟨_, rfl, ?_⟩; rintro rfl; (conv => whnf); obtain rfl := h6 _ rfl; rfl
                · (conv => whnf); refine pw_skip ?_; (conv => whnf); refine pw_ops ?_; refine po_all ?_; (conv => whnf); cases h20; refine ⟨_, rfl, ?_⟩; refine Recast.trunc (Nat.le_of_ble_eq_true rfl) ?_ ?_
                  · repeat (first | exact .nil | refine .cons rfl (by first | exact OBnd.rwc (Nat.le_of_ble_eq_true rfl) rfl | exact OBnd.tail (Nat.le_of_ble_eq_true rfl) | trivial) ?_)
                  · repeat (first | exact .nil | refine .cons rfl (by first | exact Bnd.ptr (Nat.le_of_ble_eq_true rfl) | exact Bnd.vt (Nat.le_of_ble_eq_true rfl) | exact Bnd.cl) ?_)
              · (conv => whnf); refine pw_exit ?_; (conv => whnf); cases h20; refine ⟨_, rfl, ?_⟩; rintro rfl; (conv => whnf); exact ⟨_, rfl, ⟨(.cons rfl (.cons rfl (.cons rfl (.cons rfl (.cons rfl .nil))))), rfl⟩⟩
          · intro r27 hr; have h9 := h12 _ hr; refine pw_ops ?_; refine po_all ?_; (conv => whnf); cases h9; refine ⟨_, rfl, ?_⟩; refine Recast.trunc (Nat.le_of_ble_eq_true rfl) ?_ ?_
            · repeat (first | exact .nil | refine .cons rfl (by first | exact OBnd.rwc (Nat.le_of_ble_eq_true rfl) rfl | exact OBnd.tail (Nat.le_of_ble_eq_true rfl) | trivial) ?_)
            · repeat (first | exact .nil | refine .cons rfl (by first | exact Bnd.ptr (Nat.le_of_ble_eq_true rfl) | exact Bnd.vt (Nat.le_of_ble_eq_true rfl) | exact Bnd.cl) ?_)
        · (conv => whnf); refine pw_exit ?_; (conv => whnf); cases h9; refine ⟨_, rfl, ?_⟩; rintro rfl; (conv => whnf); exact ⟨_, rfl, ⟨(.cons rfl .nil), rfl⟩⟩
    · intro r29 hr; have H := h5 _ hr; refine pw_so ?_; refine po_all ?_; (conv => whnf); refine pw_ret ?_; (conv => whnf); cases H; rfl

/-- guidevane/guidevaneref09.isValue -/
noncomputable def f188  (a0 : Int) : Option Bool :=
  obnd (f15 a0 (-1000000 : Int) (1000000 : Int)) fun (y1 : Bool) =>
  some y1
set_option maxHeartbeats 1000000 in
theorem c188  {a0 : Int} {x : Bool} (H : f188 a0 = some x) : ICalls E 188 [(.int .i64 a0)] AHeap.none fun v _ => v = (.bool x) := by
  refine icalls_fn (pfnw rfl ?_); unfold f188 at H; (conv => whnf); refine pw_so ?_; refine po_all ?_; (conv => whnf); refine pw_so ?_; refine po_all ?_; (conv => whnf); obtain ⟨y1, h2, H⟩ := obnd_some H; refine (c15 h2).go ?_; (conv => whnf); refine pw_ret ?_; (conv => whnf); cases H; rfl

/-- guidevane/guidevaneref09.GaugesErr -/
noncomputable def f175  (a0 : List (ByteArray × Int × Int × Int × Int)) : Option Int :=
  oite ((ieq ((a0.map e_SIIII).length : Int) (0 : Int))) (
   some (10 : Int)
    ) (
   oite ((ilt (12 : Int) ((a0.map e_SIIII).length : Int))) (
    some (8 : Int)
     ) (
    obndS (
     oloop (τ := Int) (ρ := (Unit) ⊕ Int) (fun e5 =>
      oite ((ilt e5 ((a0.map e_SIIII).length : Int))) (
       ogrd ((ile 0 e5)) (
       obnd (a0[e5.toNat]?) fun (x8 : ByteArray × Int × Int × Int × Int) =>
       obnd (f91 x8.1) fun (y9 : Bool) =>
       oite (!y9) (
        some (.inr (.inr ((4 : Int))))
         ) (
        obndS (
         oloop (τ := Int) (ρ := (Unit) ⊕ ((Int) ⊕ ((Unit) ⊕ Int))) (fun e16 =>
          oite ((ilt e16 e5)) (
           ogrd ((ile 0 e16)) (
           obnd (a0[e16.toNat]?) fun (x19 : ByteArray × Int × Int × Int × Int) =>
           oite ((x19.1.toList == x8.1.toList)) (
            some (.inr (.inr (.inr (.inr ((5 : Int))))))
             ) (
            some (.inl (IntKind.i64.wrap (e16 + (1 : Int))))
             )
           )
            ) (
           some (.inr (.inl ()))
            )
           ) (0 : Int)
          ) fun (_ : Unit) =>
        obnd (
         obnd (f188 x8.2.1) fun (y28 : Bool) =>
         obnd (
          oite (!y28) (
           some true
            ) (
           obnd (f188 x8.2.2.1) fun (y32 : Bool) =>
           some (!y32)
            )
           ) fun (r30 : Bool) =>
         obnd (
          oite r30 (
           some true
            ) (
           obnd (f188 x8.2.2.2.1) fun (y36 : Bool) =>
           some (!y36)
            )
           ) fun (r34 : Bool) =>
         oite r34 (
          some true
           ) (
          obnd (f188 x8.2.2.2.2) fun (y38 : Bool) =>
          some (!y38)
           )
          ) fun (r24 : Bool) =>
        oite r24 (
         some (.inr (.inr ((2 : Int))))
          ) (
         obnd (
          oite ((ilt x8.2.2.1 x8.2.1)) (
           some true
            ) (
           some (ilt x8.2.2.2.2 x8.2.2.2.1)
            )
           ) fun (r41 : Bool) =>
         oite r41 (
          some (.inr (.inr ((9 : Int))))
           ) (
          some (.inl (IntKind.i64.wrap (e5 + (1 : Int))))
           )
          )
         )
       )
        ) (
       some (.inr (.inl ()))
        )
       ) (0 : Int)
      ) fun (_ : Unit) =>
    some (0 : Int)
     )
    )
set_option maxHeartbeats 1000000 in
theorem c175  {a0 : List (ByteArray × Int × Int × Int × Int)} {x : Int} (H : f175 a0 = some x) : ICalls E 175 [(VS 5 (a0.map e_SIIII))] AHeap.none fun v _ => v = (.int .i64 x) := by
  refine icalls_fn (pfnw rfl ?_); unfold f175 at H; (conv => whnf); refine pw_so ?_; refine po_all ?_; (conv => whnf); refine pw_seq ?_; refine pw_so ?_; refine po_all ?_; (conv => whnf); refine pw_cond ?_; (conv => whnf); refine pbr_oite H (fun _ H => ?_) (fun _ H => ?_)
  · (conv => whnf); refine pw_so ?_; refine po_all ?_; (conv => whnf); refine pw_ret ?_; (conv => whnf); cases H; rfl
  · (conv => whnf); refine pw_skip ?_; (conv => whnf); refine pw_seq ?_; refine pw_so ?_; refine po_all ?_; (conv => whnf); refine pw_cond ?_; (conv => whnf); refine pbr_oite H (fun _ H => ?_) (fun _ H => ?_)
    · (conv => whnf); refine pw_so ?_; refine po_all ?_; (conv => whnf); refine pw_ret ?_; (conv => whnf); cases H; rfl
    · (conv => whnf); refine pw_skip ?_; (conv => whnf); obtain ⟨r1, h2, h3, h4⟩ := obndS_some H; refine pw_joinS (ρ := Unit) (fun e => ⟨[], ⟨0, [], false⟩⟩) r1 ?_ ?_
      · refine pw_so ?_; refine po_all ?_; (conv => whnf); refine pw_block ?_; refine pw_loop (τ := Int) (fun e => ⟨[(0, (VS 5 (a0.map e_SIIII))), (3, (.int .i64 e))], ⟨0, [], false⟩⟩) h2 ?_ (fun _ => Nat.le_of_ble_eq_true rfl) ?_
        · exact .sub' (Nat.le_of_ble_eq_true rfl) (.cons rfl (.cons rfl .nil))
        · intro e5 x6 h7; refine pw_seq ?_; refine pw_so ?_; refine po_all ?_; (conv => whnf); refine pw_cond ?_; (conv => whnf); refine pbr_oite h7 (fun _ h7 => ?_) (fun _ h7 => ?_)
          · (conv => whnf); refine pw_skip ?_; (conv => whnf); refine pw_seq ?_; refine pw_block ?_; refine pw_so ?_; refine po_all ?_; (conv => whnf); refine pbr_ogrd h7 (fun _ h7 => ?_); (conv => whnf); refine nth_o (l := a0) h7 (fun x8 _ h7 => ?_); (conv => whnf); refine pw_seq ?_; refine pw_so ?_; refine po_all ?_; (conv => whnf); obtain ⟨y9, h10, h7⟩ := obnd_some h7; refine (c91 h10).go ?_; (conv => whnf); refine pw_cond ?_; (conv => whnf); refine pbr_oite h7 (fun _ h7 => ?_) (fun _ h7 => ?_)
            · (conv => whnf); refine pw_so ?_; refine po_all ?_; (conv => whnf); refine pw_ret ?_; (conv => whnf); cases h7; refine ⟨_, rfl, ?_⟩; rintro rfl; (conv => whnf); obtain rfl := h4 _ rfl; rfl
            · (conv => whnf); refine pw_skip ?_; (conv => whnf); obtain ⟨r12, h13, h14, h15⟩ := obndS_some h7; refine pw_joinS (ρ := Unit) (fun e => ⟨[(0, (VS 5 (a0.map e_SIIII))), (3, (.int .i64 e5)), (4, (.pointer (some ⟨0, 0, none⟩)))], ⟨1, [(0, .rw [(.string x8.1), (.int .i64 x8.2.1), (.int .i64 x8.2.2.1), (.int .i64 x8.2.2.2.1), (.int .i64 x8.2.2.2.2)])], false⟩⟩) r12 ?_ ?_
              · refine pw_so ?_; refine po_all ?_; (conv => whnf); refine pw_block ?_; refine pw_loop (τ := Int) (fun e => ⟨[(0, (VS 5 (a0.map e_SIIII))), (3, (.int .i64 e5)), (4, (.pointer (some ⟨0, 0, none⟩))), (5, (.int .i64 e))], ⟨1, [(0, .rw [(.string x8.1), (.int .i64 x8.2.1), (.int .i64 x8.2.2.1), (.int .i64 x8.2.2.2.1), (.int .i64 x8.2.2.2.2)])], false⟩⟩) h13 ?_ (fun _ => Nat.le_of_ble_eq_true rfl) ?_
                · exact .sub' (Nat.le_of_ble_eq_true rfl) (.cons rfl (.cons rfl (.cons rfl (.cons rfl .nil))))
                · intro e16 x17 h18; refine pw_seq ?_; refine pw_so ?_; refine po_all ?_; (conv => whnf); refine pw_cond ?_; (conv => whnf); refine pbr_oite h18 (fun _ h18 => ?_) (fun _ h18 => ?_)
                  · (conv => whnf); refine pw_skip ?_; (conv => whnf); refine pw_seq ?_; refine pw_block ?_; refine pw_sd ?_; (conv => whnf); refine pbr_ogrd h18 (fun _ h18 => ?_); (conv => whnf); refine nth_o (l := a0) h18 (fun x19 _ h18 => ?_); (conv => whnf); refine pw_cond ?_; (conv => whnf); refine pbr_oite h18 (fun _ h18 => ?_) (fun _ h18 => ?_)
                    · (conv => whnf); refine pw_so ?_; refine po_all ?_; (conv => whnf); refine pw_ret ?_; (conv => whnf); cases h18; refine ⟨_, rfl, ?_⟩; rintro rfl; (conv => whnf); obtain rfl := h15 _ rfl; refine ⟨_, rfl, ?_⟩; rintro rfl; (conv => whnf); obtain rfl := h4 _ rfl; rfl
                    · (conv => whnf); refine pw_skip ?_; (conv => whnf); refine pw_ops ?_; refine po_all ?_; (conv => whnf); cases h18; refine ⟨_, rfl, ?_⟩; exact .sub' (Nat.le_of_ble_eq_true rfl) (.cons rfl (.cons rfl (.cons rfl (.cons rfl .nil))))
                  · (conv => whnf); refine pw_exit ?_; (conv => whnf); cases h18; refine ⟨_, rfl, ?_⟩; rintro rfl; (conv => whnf); exact ⟨_, rfl, ⟨(.cons rfl (.cons rfl (.cons rfl .nil))), rfl⟩⟩
              · intro r23 hr; have h7 := h14 _ hr; refine pw_seq ?_; obtain ⟨r24, h25, h7⟩ := obnd_some h7; refine pw_join (ρ := Bool) (fun e => ⟨[(0, (VS 5 (a0.map e_SIIII))), (3, (.int .i64 e5)), (4, (.pointer (some ⟨0, 0, none⟩))), (64, (.bool e))], ⟨1, [(0, .rw [(.string x8.1), (.int .i64 x8.2.1), (.int .i64 x8.2.2.1), (.int .i64 x8.2.2.2.1), (.int .i64 x8.2.2.2.2)])], false⟩⟩) r24 ?_ ?_
                · refine pw_ops ?_; refine po_ops 6 ?_; (conv => whnf); obtain ⟨y28, h29, h25⟩ := obnd_some h25; refine (c188 h29).go ?_; (conv => whnf); obtain ⟨r30, h31, h25⟩ := obnd_some h25; refine po_seg (τ := Bool) 6 (fun e => ⟨[(0, (VS 5 (a0.map e_SIIII))), (3, (.int .i64 e5)), (4, (.pointer (some ⟨0, 0, none⟩))), (50, (.bool e))], ⟨1, [(0, .rw [(.string x8.1), (.int .i64 x8.2.1), (.int .i64 x8.2.2.1), (.int .i64 x8.2.2.2.1), (.int .i64 x8.2.2.2.2)])], false⟩⟩) r30 ?_ ?_
                  · refine po_all ?_; (conv => whnf); refine pbr_oite h31 (fun _ h31 => ?_) (fun _ h31 => ?_)
                    · (conv => whnf); refine pbr_t (by assumption) ?_; (conv => whnf); refine pbr_t (by assumption) ?_; (conv => whnf); refine pbr_t (by assumption) ?_; (conv => whnf); refine pbr_t (by assumption) ?_; (conv => whnf); refine pbr_t (by assumption) ?_; (conv => whnf); cases h31; exact ⟨(.cons rfl (.cons rfl (.cons rfl (.cons rfl .nil)))), rfl⟩
                    · (conv => whnf); refine pbr_f (by assumption) ?_; (conv => whnf); refine pbr_f (by assumption) ?_; (conv => whnf); refine pbr_f (by assumption) ?_; (conv => whnf); obtain ⟨y32, h33, h31⟩ := obnd_some h31; refine (c188 h33).go ?_; (conv => whnf); refine pbr_f (by assumption) ?_; (conv => whnf); refine pbr_f (by assumption) ?_; (conv => whnf); cases h31; exact ⟨(.cons rfl (.cons rfl (.cons rfl (.cons rfl .nil)))), rfl⟩
                  · refine po_ops 1 ?_; (conv => whnf); obtain ⟨r34, h35, h25⟩ := obnd_some h25; refine po_seg (τ := Bool) 6 (fun e => ⟨[(0, (VS 5 (a0.map e_SIIII))), (3, (.int .i64 e5)), (4, (.pointer (some ⟨0, 0, none⟩))), (57, (.bool e))], ⟨1, [(0, .rw [(.string x8.1), (.int .i64 x8.2.1), (.int .i64 x8.2.2.1), (.int .i64 x8.2.2.2.1), (.int .i64 x8.2.2.2.2)])], false⟩⟩) r34 ?_ ?_
                    · refine po_all ?_; (conv => whnf); refine pbr_oite h35 (fun _ h35 => ?_) (fun _ h35 => ?_)
                      · (conv => whnf); refine pbr_t (by assumption) ?_; (conv => whnf); refine pbr_t (by assumption) ?_; (conv => whnf); refine pbr_t (by assumption) ?_; (conv => whnf); refine pbr_t (by assumption) ?_; (conv => whnf); refine pbr_t (by assumption) ?_; (conv => whnf); cases h35; exact ⟨(.cons rfl (.cons rfl (.cons rfl (.cons rfl .nil)))), rfl⟩
                      · (conv => whnf); refine pbr_f (by assumption) ?_; (conv => whnf); refine pbr_f (by assumption) ?_; (conv => whnf); refine pbr_f (by assumption) ?_; (conv => whnf); obtain ⟨y36, h37, h35⟩ := obnd_some h35; refine (c188 h37).go ?_; (conv => whnf); refine pbr_f (by assumption) ?_; (conv => whnf); refine pbr_f (by assumption) ?_; (conv => whnf); cases h35; exact ⟨(.cons rfl (.cons rfl (.cons rfl (.cons rfl .nil)))), rfl⟩
                    · refine po_all ?_; (conv => whnf); refine pbr_oite h25 (fun _ h25 => ?_) (fun _ h25 => ?_)
                      · (conv => whnf); refine pbr_t (by assumption) ?_; (conv => whnf); refine pbr_t (by assumption) ?_; (conv => whnf); refine pbr_t (by assumption) ?_; (conv => whnf); refine pbr_t (by assumption) ?_; (conv => whnf); refine pbr_t (by assumption) ?_; (conv => whnf); cases h25; exact ⟨(.cons rfl (.cons rfl (.cons rfl (.cons rfl .nil)))), rfl⟩
                      · (conv => whnf); refine pbr_f (by assumption) ?_; (conv => whnf); refine pbr_f (by assumption) ?_; (conv => whnf); refine pbr_f (by assumption) ?_; (conv => whnf); obtain ⟨y38, h39, h25⟩ := obnd_some h25; refine (c188 h39).go ?_; (conv => whnf); refine pbr_f (by assumption) ?_; (conv => whnf); refine pbr_f (by assumption) ?_; (conv => whnf); cases h25; exact ⟨(.cons rfl (.cons rfl (.cons rfl (.cons rfl .nil)))), rfl⟩
                · refine pw_cond ?_; (conv => whnf); refine pbr_oite h7 (fun _ h7 => ?_) (fun _ h7 => ?_)
                  · (conv => whnf); refine pw_so ?_; refine po_all ?_; (conv => whnf); refine pw_ret ?_; (conv => whnf); cases h7; refine ⟨_, rfl, ?_⟩; rintro rfl; (conv => whnf); obtain rfl := h4 _ rfl; rfl
                  · (conv => whnf); refine pw_skip ?_; (conv => whnf); obtain ⟨r41, h42, h7⟩ := obnd_some h7; refine pw_join (ρ := Bool) (fun e => ⟨[(0, (VS 5 (a0.map e_SIIII))), (3, (.int .i64 e5)), (80, (.bool e))], ⟨1, [(0, .rw [(.string x8.1), (.int .i64 x8.2.1), (.int .i64 x8.2.2.1), (.int .i64 x8.2.2.2.1), (.int .i64 x8.2.2.2.2)])], false⟩⟩) r41 ?_ ?_
                    · refine pw_ops ?_; refine po_all ?_; (conv => whnf); refine pbr_oite h42 (fun _ h42 => ?_) (fun _ h42 => ?_)
                      · (conv => whnf); refine pbr_t (by assumption) ?_; (conv => whnf); refine pbr_t (by assumption) ?_; (conv => whnf); refine pbr_t (by assumption) ?_; (conv => whnf); refine pbr_t (by assumption) ?_; (conv => whnf); refine pbr_t (by assumption) ?_; (conv => whnf); refine pbr_t (by assumption) ?_; (conv => whnf); refine pbr_t (by assumption) ?_; (conv => whnf); cases h42; exact ⟨(.cons rfl (.cons rfl (.cons rfl .nil))), rfl⟩
                      · (conv => whnf); refine pbr_f (by assumption) ?_; (conv => whnf); refine pbr_f (by assumption) ?_; (conv => whnf); refine pbr_f (by assumption) ?_; (conv => whnf); refine pbr_f (by assumption) ?_; (conv => whnf); refine pbr_f (by assumption) ?_; (conv => whnf); refine pbr_f (by assumption) ?_; (conv => whnf); refine pbr_f (by assumption) ?_; (conv => whnf); cases h42; exact ⟨(.cons rfl (.cons rfl (.cons rfl .nil))), rfl⟩
                    · refine pw_cond ?_; (conv => whnf); refine pbr_oite h7 (fun _ h7 => ?_) (fun _ h7 => ?_)
                      · (conv => whnf); refine pw_so ?_; refine po_all ?_; (conv => whnf); refine pw_ret ?_; (conv => whnf); cases h7; refine ⟨_, rfl, ?_⟩; rintro rfl; (conv => whnf); obtain rfl := h4 _ rfl; rfl
                      · (conv => whnf); refine pw_skip ?_; (conv => whnf); refine pw_ops ?_; refine po_all ?_; (conv => whnf); cases h7; refine ⟨_, rfl, ?_⟩; refine Recast.trunc (Nat.le_of_ble_eq_true rfl) ?_ ?_
                        · repeat (first | exact .nil | refine .cons rfl (by first | exact OBnd.rwc (Nat.le_of_ble_eq_true rfl) rfl | exact OBnd.tail (Nat.le_of_ble_eq_true rfl) | trivial) ?_)
                        · repeat (first | exact .nil | refine .cons rfl (by first | exact Bnd.ptr (Nat.le_of_ble_eq_true rfl) | exact Bnd.vt (Nat.le_of_ble_eq_true rfl) | exact Bnd.cl) ?_)
          · (conv => whnf); refine pw_exit ?_; (conv => whnf); cases h7; refine ⟨_, rfl, ?_⟩; rintro rfl; (conv => whnf); exact ⟨_, rfl, ⟨.nil, rfl⟩⟩
      · intro r47 hr; have H := h3 _ hr; refine pw_so ?_; refine po_all ?_; (conv => whnf); refine pw_ret ?_; (conv => whnf); cases H; rfl

/-- guidevane/guidevaneref09.True -/
noncomputable def f189  (_ : ByteArray) (a1 : Int) (a2 : Int) (a3 : Int) (a4 : Int) : Option (Int × Int) :=
  some ((IntKind.i64.wrap (a1 - a4)), (IntKind.i64.wrap (a2 - a3)))
set_option maxHeartbeats 1000000 in
theorem c189  {a0 : ByteArray} {a1 : Int} {a2 : Int} {a3 : Int} {a4 : Int} {x : Int × Int} (H : f189 a0 a1 a2 a3 a4 = some x) : ICalls E 189 [(.agg ⟨[(.string a0), (.int .i64 a1), (.int .i64 a2), (.int .i64 a3), (.int .i64 a4)]⟩)] AHeap.none fun v _ => v = (.agg ⟨[(.int .i64 x.1), (.int .i64 x.2)]⟩) := by
  refine icalls_fn (pfnw rfl ?_); unfold f189 at H; (conv => whnf); refine pw_so ?_; refine po_all ?_; (conv => whnf); refine pw_so ?_; refine po_all ?_; (conv => whnf); refine pw_ret ?_; (conv => whnf); cases H; rfl

/-- guidevane/guidevaneref09.Agreed -/
noncomputable def f176  (a0 : List (ByteArray × Int × Int × Int × Int)) : Option (Int × Int × Bool) :=
  obnd (a0[(0 : Int).toNat]?) fun (x1 : ByteArray × Int × Int × Int × Int) =>
  obnd (f189 x1.1 x1.2.1 x1.2.2.1 x1.2.2.2.1 x1.2.2.2.2) fun (y2 : Int × Int) =>
  obnd (
   oloop (τ := Int × Int × Int) (ρ := Int × Int) (fun e8 =>
    oite ((ilt e8.2.2 ((a0.map e_SIIII).length : Int))) (
     ogrd ((ile 0 e8.2.2)) (
     obnd (a0[e8.2.2.toNat]?) fun (x11 : ByteArray × Int × Int × Int × Int) =>
     obnd (f189 x11.1 x11.2.1 x11.2.2.1 x11.2.2.2.1 x11.2.2.2.2) fun (y12 : Int × Int) =>
     some (.inl (((imax e8.1 y12.1), (imin e8.2.1 y12.2), (IntKind.i64.wrap (e8.2.2 + (1 : Int))))))
     )
      ) (
     some (.inr ((e8.1, e8.2.1)))
      )
     ) (y2.1, y2.2, (1 : Int))
    ) fun (r4 : Int × Int) =>
  some (r4.1, r4.2, (ile r4.1 r4.2))
set_option maxHeartbeats 1000000 in
theorem c176  {a0 : List (ByteArray × Int × Int × Int × Int)} {x : Int × Int × Bool} (H : f176 a0 = some x) : ICalls E 176 [(VS 5 (a0.map e_SIIII))] AHeap.none fun v _ => v = (.tuple ⟨[(.agg ⟨[(.int .i64 x.1), (.int .i64 x.2.1)]⟩), (.bool x.2.2)]⟩) := by
  refine icalls_fn (pfnw rfl ?_); unfold f176 at H; (conv => whnf); refine pw_so ?_; refine po_all ?_; (conv => whnf); refine pw_so ?_; refine po_all ?_; (conv => whnf); refine nth_o (l := a0) H (fun x1 _ H => ?_); (conv => whnf); obtain ⟨y2, h3, H⟩ := obnd_some H; refine (c189 h3).go ?_; (conv => whnf); obtain ⟨r4, h5, H⟩ := obnd_some H; refine pw_join (ρ := Int × Int) (fun e => ⟨[(2, (.pointer (some ⟨0, 0, none⟩))), (4, (.pointer (some ⟨1, 0, none⟩)))], ⟨2, [(1, .rw [(.int .i64 e.1), (.int .i64 e.2)]), (0, .rw [(.int .i64 0), (.int .i64 0)])], false⟩⟩) r4 ?_ ?_
  · refine pw_so ?_; refine po_all ?_; (conv => whnf); refine pw_block ?_; refine pw_loop (τ := Int × Int × Int) (fun e => ⟨[(0, (VS 5 (a0.map e_SIIII))), (2, (.pointer (some ⟨0, 0, none⟩))), (4, (.pointer (some ⟨1, 0, none⟩))), (5, (.int .i64 e.2.2))], ⟨2, [(1, .rw [(.int .i64 e.1), (.int .i64 e.2.1)]), (0, .rw [(.int .i64 0), (.int .i64 0)])], false⟩⟩) h5 ?_ (fun _ => Nat.le_of_ble_eq_true rfl) ?_
    · exact .sub' (Nat.le_of_ble_eq_true rfl) (.cons rfl (.cons rfl (.cons rfl (.cons rfl .nil))))
    · intro e8 x9 h10; refine pw_seq ?_; refine pw_so ?_; refine po_all ?_; (conv => whnf); refine pw_cond ?_; (conv => whnf); refine pbr_oite h10 (fun _ h10 => ?_) (fun _ h10 => ?_)
      · (conv => whnf); refine pw_skip ?_; (conv => whnf); refine pw_seq ?_; refine pw_block ?_; refine pw_so ?_; refine po_all ?_; (conv => whnf); refine pbr_ogrd h10 (fun _ h10 => ?_); (conv => whnf); refine nth_o (l := a0) h10 (fun x11 _ h10 => ?_); (conv => whnf); obtain ⟨y12, h13, h10⟩ := obnd_some h10; refine (c189 h13).go ?_; (conv => whnf); refine pw_ops ?_; refine po_all ?_; (conv => whnf); refine pw_ops ?_; refine po_all ?_; (conv => whnf); cases h10; refine ⟨_, rfl, ?_⟩; refine Recast.trunc (Nat.le_of_ble_eq_true rfl) ?_ ?_
        · repeat (first | exact .nil | refine .cons rfl (by first | exact OBnd.rwc (Nat.le_of_ble_eq_true rfl) rfl | exact OBnd.tail (Nat.le_of_ble_eq_true rfl) | trivial) ?_)
        · repeat (first | exact .nil | refine .cons rfl (by first | exact Bnd.ptr (Nat.le_of_ble_eq_true rfl) | exact Bnd.vt (Nat.le_of_ble_eq_true rfl) | exact Bnd.cl) ?_)
      · (conv => whnf); refine pw_exit ?_; (conv => whnf); cases h10; refine ⟨_, rfl, ?_⟩; rintro rfl; (conv => whnf); exact ⟨(.cons rfl (.cons rfl .nil)), rfl⟩
  · refine pw_sd ?_; (conv => whnf); refine ⟨?_, trivial⟩; (conv => whnf); (first | refine ⟨trivial, ?_⟩ | refine ⟨⟨rfl, trivial⟩, ?_⟩ | refine ⟨⟨rfl, rfl, trivial⟩, ?_⟩ | refine ⟨⟨rfl, rfl, rfl, trivial⟩, ?_⟩ | refine ⟨⟨rfl, rfl, rfl, rfl, trivial⟩, ?_⟩ | refine ⟨⟨rfl, rfl, rfl, rfl, rfl, trivial⟩, ?_⟩ | refine ⟨⟨rfl, rfl, rfl, rfl, rfl, rfl, trivial⟩, ?_⟩); (conv => whnf); refine pw_ret ?_; (conv => whnf); cases H; rfl

/-- guidevane/guidevaneref09.Pair -/
noncomputable def f177  (a0 : List (ByteArray × Int × Int × Int × Int)) : Option (ByteArray × ByteArray × Bool) :=
  obndS (
   oloop (τ := Int) (ρ := (Unit) ⊕ (ByteArray × ByteArray × Bool)) (fun e5 =>
    oite ((ilt e5 ((a0.map e_SIIII).length : Int))) (
     obndS (
      oloop (τ := Int) (ρ := (Unit) ⊕ ((Int) ⊕ ((Unit) ⊕ (ByteArray × ByteArray × Bool)))) (fun e12 =>
       oite ((ilt e12 ((a0.map e_SIIII).length : Int))) (
        ogrd ((ile 0 e5)) (
        obnd (a0[e5.toNat]?) fun (x16 : ByteArray × Int × Int × Int × Int) =>
        ogrd ((ile 0 e12)) (
        obnd (a0[e12.toNat]?) fun (x17 : ByteArray × Int × Int × Int × Int) =>
        obnd (f176 (([(x16.1, x16.2.1, x16.2.2.1, x16.2.2.2.1, x16.2.2.2.2), (x17.1, x17.2.1, x17.2.2.1, x17.2.2.2.1, x17.2.2.2.2)] : List (ByteArray × Int × Int × Int × Int)))) fun (y18 : Int × Int × Bool) =>
        oite (!y18.2.2) (
         obnd (a0[e5.toNat]?) fun (x20 : ByteArray × Int × Int × Int × Int) =>
         obnd (a0[e12.toNat]?) fun (x21 : ByteArray × Int × Int × Int × Int) =>
         some (.inr (.inr (.inr (.inr ((x20.1, x21.1, true))))))
          ) (
         some (.inl (IntKind.i64.wrap (e12 + (1 : Int))))
          )
        )
        )
         ) (
        some (.inr (.inl ()))
         )
        ) (IntKind.i64.wrap (e5 + (1 : Int)))
       ) fun (_ : Unit) =>
     some (.inl (IntKind.i64.wrap (e5 + (1 : Int))))
      ) (
     some (.inr (.inl ()))
      )
     ) (0 : Int)
    ) fun (_ : Unit) =>
  some ((⟨#[]⟩ : ByteArray), (⟨#[]⟩ : ByteArray), false)
set_option maxHeartbeats 1000000 in
theorem c177  {a0 : List (ByteArray × Int × Int × Int × Int)} {x : ByteArray × ByteArray × Bool} (H : f177 a0 = some x) : ICalls E 177 [(VS 5 (a0.map e_SIIII))] AHeap.none fun v _ => v = (.tuple ⟨[(.agg ⟨[(.string x.1), (.string x.2.1)]⟩), (.bool x.2.2)]⟩) := by
  refine icalls_fn (pfnw rfl ?_); unfold f177 at H; (conv => whnf); refine pw_so ?_; refine po_all ?_; (conv => whnf); obtain ⟨r1, h2, h3, h4⟩ := obndS_some H; refine pw_joinS (ρ := Unit) (fun e => ⟨[(2, (.pointer (some ⟨0, 0, none⟩)))], ⟨1, [(0, .rw [(.string (⟨#[]⟩ : ByteArray)), (.string (⟨#[]⟩ : ByteArray))])], false⟩⟩) r1 ?_ ?_
  · refine pw_so ?_; refine po_all ?_; (conv => whnf); refine pw_block ?_; refine pw_loop (τ := Int) (fun e => ⟨[(0, (VS 5 (a0.map e_SIIII))), (2, (.pointer (some ⟨0, 0, none⟩))), (4, (.int .i64 e))], ⟨1, [(0, .rw [(.string (⟨#[]⟩ : ByteArray)), (.string (⟨#[]⟩ : ByteArray))])], false⟩⟩) h2 ?_ (fun _ => Nat.le_of_ble_eq_true rfl) ?_
    · exact .sub' (Nat.le_of_ble_eq_true rfl) (.cons rfl (.cons rfl (.cons rfl .nil)))
    · intro e5 x6 h7; refine pw_seq ?_; refine pw_so ?_; refine po_all ?_; (conv => whnf); refine pw_cond ?_; (conv => whnf); refine pbr_oite h7 (fun _ h7 => ?_) (fun _ h7 => ?_)
      · (conv => whnf); refine pw_skip ?_; (conv => whnf); obtain ⟨r8, h9, h10, h11⟩ := obndS_some h7; refine pw_joinS (ρ := Unit) (fun e => ⟨[(0, (VS 5 (a0.map e_SIIII))), (2, (.pointer (some ⟨0, 0, none⟩))), (4, (.int .i64 e5))], ⟨1, [(0, .rw [(.string (⟨#[]⟩ : ByteArray)), (.string (⟨#[]⟩ : ByteArray))])], false⟩⟩) r8 ?_ ?_
        · refine pw_block ?_; refine pw_so ?_; refine po_all ?_; (conv => whnf); refine pw_block ?_; refine pw_loop (τ := Int) (fun e => ⟨[(0, (VS 5 (a0.map e_SIIII))), (2, (.pointer (some ⟨0, 0, none⟩))), (4, (.int .i64 e5)), (5, (.int .i64 e))], ⟨1, [(0, .rw [(.string (⟨#[]⟩ : ByteArray)), (.string (⟨#[]⟩ : ByteArray))])], false⟩⟩) h9 ?_ (fun _ => Nat.le_of_ble_eq_true rfl) ?_
          · exact .sub' (Nat.le_of_ble_eq_true rfl) (.cons rfl (.cons rfl (.cons rfl (.cons rfl .nil))))
          · intro e12 x13 h14; refine pw_seq ?_; refine pw_so ?_; refine po_all ?_; (conv => whnf); refine pw_cond ?_; (conv => whnf); refine pbr_oite h14 (fun _ h14 => ?_) (fun _ h14 => ?_)
            · (conv => whnf); refine pw_skip ?_; (conv => whnf); refine pw_seq ?_; refine pw_block ?_; refine pw_sd ?_; (conv => whnf); refine pbr_ogrd h14 (fun _ h14 => ?_); (conv => whnf); refine nth_o (l := a0) h14 (fun x16 _ h14 => ?_); (conv => whnf); refine pbr_ogrd h14 (fun _ h14 => ?_); (conv => whnf); refine nth_o (l := a0) h14 (fun x17 _ h14 => ?_); (conv => whnf); refine ⟨?_, ?_⟩
              · (conv => whnf); (first | refine ⟨trivial, ?_⟩ | refine ⟨⟨rfl, trivial⟩, ?_⟩ | refine ⟨⟨rfl, rfl, trivial⟩, ?_⟩ | refine ⟨⟨rfl, rfl, rfl, trivial⟩, ?_⟩ | refine ⟨⟨rfl, rfl, rfl, rfl, trivial⟩, ?_⟩ | refine ⟨⟨rfl, rfl, rfl, rfl, rfl, trivial⟩, ?_⟩ | refine ⟨⟨rfl, rfl, rfl, rfl, rfl, rfl, trivial⟩, ?_⟩); (conv => whnf); refine ⟨?_, ?_⟩
                · (conv => whnf); obtain ⟨y18, h19, h14⟩ := obnd_some h14; refine ICalls.goW (c176 h19) (.cons (.vt _ _ _) .nil) ?_; (conv => whnf); (first | refine ⟨trivial, ?_⟩ | refine ⟨⟨rfl, trivial⟩, ?_⟩ | refine ⟨⟨rfl, rfl, trivial⟩, ?_⟩ | refine ⟨⟨rfl, rfl, rfl, trivial⟩, ?_⟩ | refine ⟨⟨rfl, rfl, rfl, rfl, trivial⟩, ?_⟩ | refine ⟨⟨rfl, rfl, rfl, rfl, rfl, trivial⟩, ?_⟩ | refine ⟨⟨rfl, rfl, rfl, rfl, rfl, rfl, trivial⟩, ?_⟩); (conv => whnf); refine ⟨?_, trivial⟩; (conv => whnf); (first | refine ⟨trivial, ?_⟩ | refine ⟨⟨rfl, trivial⟩, ?_⟩ | refine ⟨⟨rfl, rfl, trivial⟩, ?_⟩ | refine ⟨⟨rfl, rfl, rfl, trivial⟩, ?_⟩ | refine ⟨⟨rfl, rfl, rfl, rfl, trivial⟩, ?_⟩ | refine ⟨⟨rfl, rfl, rfl, rfl, rfl, trivial⟩, ?_⟩ | refine ⟨⟨rfl, rfl, rfl, rfl, rfl, rfl, trivial⟩, ?_⟩)
                  (conv => whnf); refine ⟨?_, trivial⟩; (conv => whnf); (first | refine ⟨trivial, ?_⟩ | refine ⟨⟨rfl, trivial⟩, ?_⟩ | refine ⟨⟨rfl, rfl, trivial⟩, ?_⟩ | refine ⟨⟨rfl, rfl, rfl, trivial⟩, ?_⟩ | refine ⟨⟨rfl, rfl, rfl, rfl, trivial⟩, ?_⟩ | refine ⟨⟨rfl, rfl, rfl, rfl, rfl, trivial⟩, ?_⟩ | refine ⟨⟨rfl, rfl, rfl, rfl, rfl, rfl, trivial⟩, ?_⟩); (conv => whnf); refine pw_so ?_; refine po_all ?_; (conv => whnf); refine pw_cond ?_; (conv => whnf); refine pbr_oite h14 (fun _ h14 => ?_) (fun _ h14 => ?_)
                  · (conv => whnf); refine pw_sd ?_; (conv => whnf); refine pbr_t (by assumption) ?_; (conv => whnf); refine nth_o (l := a0) h14 (fun x20 _ h14 => ?_); (conv => whnf); refine pbr_t (by assumption) ?_; (conv => whnf); refine nth_o (l := a0) h14 (fun x21 _ h14 => ?_); (conv => whnf); refine ⟨?_, trivial⟩; (conv => whnf); (first | refine ⟨trivial, ?_⟩ | refine ⟨⟨rfl, trivial⟩, ?_⟩ | refine ⟨⟨rfl, rfl, trivial⟩, ?_⟩ | refine ⟨⟨rfl, rfl, rfl, trivial⟩, ?_⟩ | refine ⟨⟨rfl, rfl, rfl, rfl, trivial⟩, ?_⟩ | refine ⟨⟨rfl, rfl, rfl, rfl, rfl, trivial⟩, ?_⟩ | refine ⟨⟨rfl, rfl, rfl, rfl, rfl, rfl, trivial⟩, ?_⟩); (conv => whnf); refine pw_ret ?_
                    (conv => whnf); cases h14; refine ⟨_, rfl, ?_⟩; rintro rfl; (conv => whnf); obtain rfl := h11 _ rfl; refine ⟨_, rfl, ?_⟩; rintro rfl; (conv => whnf); obtain rfl := h4 _ rfl; rfl
                  · (conv => whnf); refine pw_skip ?_; (conv => whnf); refine pw_ops ?_; refine po_all ?_; (conv => whnf); cases h14; refine ⟨_, rfl, ?_⟩; refine Recast.trunc (Nat.le_of_ble_eq_true rfl) ?_ ?_
                    · repeat (first | exact .nil | refine .cons rfl (by first | exact OBnd.rwc (Nat.le_of_ble_eq_true rfl) rfl | exact OBnd.tail (Nat.le_of_ble_eq_true rfl) | trivial) ?_)
                    · repeat (first | exact .nil | refine .cons rfl (by first | exact Bnd.ptr (Nat.le_of_ble_eq_true rfl) | exact Bnd.vt (Nat.le_of_ble_eq_true rfl) | exact Bnd.cl) ?_)
                · obtain ⟨y18, h19, h14⟩ := obnd_some h14; (conv => whnf); refine ⟨?_, trivial⟩; (conv => whnf); (first | refine ⟨trivial, ?_⟩ | refine ⟨⟨rfl, trivial⟩, ?_⟩ | refine ⟨⟨rfl, rfl, trivial⟩, ?_⟩ | refine ⟨⟨rfl, rfl, rfl, trivial⟩, ?_⟩ | refine ⟨⟨rfl, rfl, rfl, rfl, trivial⟩, ?_⟩ | refine ⟨⟨rfl, rfl, rfl, rfl, rfl, trivial⟩, ?_⟩ | refine ⟨⟨rfl, rfl, rfl, rfl, rfl, rfl, trivial⟩, ?_⟩); (conv => whnf); refine ⟨?_, trivial⟩; (conv => whnf); refine ICalls.goW (c176 h19) (.cons (.vt _ _ _) .nil) ?_; (conv => whnf); (first | refine ⟨trivial, ?_⟩ | refine ⟨⟨rfl, trivial⟩, ?_⟩ | refine ⟨⟨rfl, rfl, trivial⟩, ?_⟩ | refine ⟨⟨rfl, rfl, rfl, trivial⟩, ?_⟩ | refine ⟨⟨rfl, rfl, rfl, rfl, trivial⟩, ?_⟩ | refine ⟨⟨rfl, rfl, rfl, rfl, rfl, trivial⟩, ?_⟩ | refine ⟨⟨rfl, rfl, rfl, rfl, rfl, rfl, trivial⟩, ?_⟩)
                  (conv => whnf); refine ⟨?_, trivial⟩; (conv => whnf); (first | refine ⟨trivial, ?_⟩ | refine ⟨⟨rfl, trivial⟩, ?_⟩ | refine ⟨⟨rfl, rfl, trivial⟩, ?_⟩ | refine ⟨⟨rfl, rfl, rfl, trivial⟩, ?_⟩ | refine ⟨⟨rfl, rfl, rfl, rfl, trivial⟩, ?_⟩ | refine ⟨⟨rfl, rfl, rfl, rfl, rfl, trivial⟩, ?_⟩ | refine ⟨⟨rfl, rfl, rfl, rfl, rfl, rfl, trivial⟩, ?_⟩); (conv => whnf); refine pw_so ?_; refine po_all ?_; (conv => whnf); refine pw_cond ?_; (conv => whnf); refine pbr_oite h14 (fun _ h14 => ?_) (fun _ h14 => ?_)
                  · (conv => whnf); refine pw_sd ?_; (conv => whnf); refine pbr_t (by assumption) ?_; (conv => whnf); refine nth_o (l := a0) h14 (fun x24 _ h14 => ?_); (conv => whnf); refine pbr_t (by assumption) ?_; (conv => whnf); refine nth_o (l := a0) h14 (fun x25 _ h14 => ?_); (conv => whnf); refine ⟨?_, trivial⟩; (conv => whnf); (first | refine ⟨trivial, ?_⟩ | refine ⟨⟨rfl, trivial⟩, ?_⟩ | refine ⟨⟨rfl, rfl, trivial⟩, ?_⟩ | refine ⟨⟨rfl, rfl, rfl, trivial⟩, ?_⟩ | refine ⟨⟨rfl, rfl, rfl, rfl, trivial⟩, ?_⟩ | refine ⟨⟨rfl, rfl, rfl, rfl, rfl, trivial⟩, ?_⟩ | refine ⟨⟨rfl, rfl, rfl, rfl, rfl, rfl, trivial⟩, ?_⟩); (conv => whnf); refine pw_ret ?_
                    (conv => whnf); cases h14; refine ⟨_, rfl, ?_⟩; rintro rfl; (conv => whnf); obtain rfl := h11 _ rfl; refine ⟨_, rfl, ?_⟩; rintro rfl; (conv => whnf); obtain rfl := h4 _ rfl; rfl
                  · (conv => whnf); refine pw_skip ?_; (conv => whnf); refine pw_ops ?_; refine po_all ?_; (conv => whnf); cases h14; refine ⟨_, rfl, ?_⟩; refine Recast.trunc (Nat.le_of_ble_eq_true rfl) ?_ ?_
                    · repeat (first | exact .nil | refine .cons rfl (by first | exact OBnd.rwc (Nat.le_of_ble_eq_true rfl) rfl | exact OBnd.tail (Nat.le_of_ble_eq_true rfl) | trivial) ?_)
                    · repeat (first | exact .nil | refine .cons rfl (by first | exact Bnd.ptr (Nat.le_of_ble_eq_true rfl) | exact Bnd.vt (Nat.le_of_ble_eq_true rfl) | exact Bnd.cl) ?_)
              · obtain ⟨y18, h19, h14⟩ := obnd_some h14; (conv => whnf); refine ⟨?_, trivial⟩; (conv => whnf); (first | refine ⟨trivial, ?_⟩ | refine ⟨⟨rfl, trivial⟩, ?_⟩ | refine ⟨⟨rfl, rfl, trivial⟩, ?_⟩ | refine ⟨⟨rfl, rfl, rfl, trivial⟩, ?_⟩ | refine ⟨⟨rfl, rfl, rfl, rfl, trivial⟩, ?_⟩ | refine ⟨⟨rfl, rfl, rfl, rfl, rfl, trivial⟩, ?_⟩ | refine ⟨⟨rfl, rfl, rfl, rfl, rfl, rfl, trivial⟩, ?_⟩); (conv => whnf); refine ⟨?_, trivial⟩; (conv => whnf); (first | refine ⟨trivial, ?_⟩ | refine ⟨⟨rfl, trivial⟩, ?_⟩ | refine ⟨⟨rfl, rfl, trivial⟩, ?_⟩ | refine ⟨⟨rfl, rfl, rfl, trivial⟩, ?_⟩ | refine ⟨⟨rfl, rfl, rfl, rfl, trivial⟩, ?_⟩ | refine ⟨⟨rfl, rfl, rfl, rfl, rfl, trivial⟩, ?_⟩ | refine ⟨⟨rfl, rfl, rfl, rfl, rfl, rfl, trivial⟩, ?_⟩)
                (conv => whnf); refine ⟨?_, trivial⟩; (conv => whnf); refine ICalls.goW (c176 h19) (.cons (.vt _ _ _) .nil) ?_; (conv => whnf); (first | refine ⟨trivial, ?_⟩ | refine ⟨⟨rfl, trivial⟩, ?_⟩ | refine ⟨⟨rfl, rfl, trivial⟩, ?_⟩ | refine ⟨⟨rfl, rfl, rfl, trivial⟩, ?_⟩ | refine ⟨⟨rfl, rfl, rfl, rfl, trivial⟩, ?_⟩ | refine ⟨⟨rfl, rfl, rfl, rfl, rfl, trivial⟩, ?_⟩ | refine ⟨⟨rfl, rfl, rfl, rfl, rfl, rfl, trivial⟩, ?_⟩); (conv => whnf); refine ⟨?_, trivial⟩; (conv => whnf); (first | refine ⟨trivial, ?_⟩ | refine ⟨⟨rfl, trivial⟩, ?_⟩ | refine ⟨⟨rfl, rfl, trivial⟩, ?_⟩ | refine ⟨⟨rfl, rfl, rfl, trivial⟩, ?_⟩ | refine ⟨⟨rfl, rfl, rfl, rfl, trivial⟩, ?_⟩ | refine ⟨⟨rfl, rfl, rfl, rfl, rfl, trivial⟩, ?_⟩ | refine ⟨⟨rfl, rfl, rfl, rfl, rfl, rfl, trivial⟩, ?_⟩)
                (conv => whnf); refine pw_so ?_; refine po_all ?_; (conv => whnf); refine pw_cond ?_; (conv => whnf); refine pbr_oite h14 (fun _ h14 => ?_) (fun _ h14 => ?_)
                · (conv => whnf); refine pw_sd ?_; (conv => whnf); refine pbr_t (by assumption) ?_; (conv => whnf); refine nth_o (l := a0) h14 (fun x28 _ h14 => ?_); (conv => whnf); refine pbr_t (by assumption) ?_; (conv => whnf); refine nth_o (l := a0) h14 (fun x29 _ h14 => ?_); (conv => whnf); refine ⟨?_, trivial⟩; (conv => whnf); (first | refine ⟨trivial, ?_⟩ | refine ⟨⟨rfl, trivial⟩, ?_⟩ | refine ⟨⟨rfl, rfl, trivial⟩, ?_⟩ | refine ⟨⟨rfl, rfl, rfl, trivial⟩, ?_⟩ | refine ⟨⟨rfl, rfl, rfl, rfl, trivial⟩, ?_⟩ | refine ⟨⟨rfl, rfl, rfl, rfl, rfl, trivial⟩, ?_⟩ | refine ⟨⟨rfl, rfl, rfl, rfl, rfl, rfl, trivial⟩, ?_⟩); (conv => whnf); refine pw_ret ?_
                  (conv => whnf); cases h14; refine ⟨_, rfl, ?_⟩; rintro rfl; (conv => whnf); obtain rfl := h11 _ rfl; refine ⟨_, rfl, ?_⟩; rintro rfl; (conv => whnf); obtain rfl := h4 _ rfl; rfl
                · (conv => whnf); refine pw_skip ?_; (conv => whnf); refine pw_ops ?_; refine po_all ?_; (conv => whnf); cases h14; refine ⟨_, rfl, ?_⟩; refine Recast.trunc (Nat.le_of_ble_eq_true rfl) ?_ ?_
                  · repeat (first | exact .nil | refine .cons rfl (by first | exact OBnd.rwc (Nat.le_of_ble_eq_true rfl) rfl | exact OBnd.tail (Nat.le_of_ble_eq_true rfl) | trivial) ?_)
                  · repeat (first | exact .nil | refine .cons rfl (by first | exact Bnd.ptr (Nat.le_of_ble_eq_true rfl) | exact Bnd.vt (Nat.le_of_ble_eq_true rfl) | exact Bnd.cl) ?_)
            · (conv => whnf); refine pw_exit ?_; (conv => whnf); cases h14; refine ⟨_, rfl, ?_⟩; rintro rfl; (conv => whnf); exact ⟨_, rfl, ⟨(.cons rfl (.cons rfl (.cons rfl .nil))), rfl⟩⟩
        · intro r33 hr; have h7 := h10 _ hr; refine pw_ops ?_; refine po_all ?_; (conv => whnf); cases h7; refine ⟨_, rfl, ?_⟩; exact .sub' (Nat.le_of_ble_eq_true rfl) (.cons rfl (.cons rfl (.cons rfl .nil)))
      · (conv => whnf); refine pw_exit ?_; (conv => whnf); cases h7; refine ⟨_, rfl, ?_⟩; rintro rfl; (conv => whnf); exact ⟨_, rfl, ⟨(.cons rfl .nil), rfl⟩⟩
  · intro r35 hr; have H := h3 _ hr; refine pw_so ?_; refine po_all ?_; (conv => whnf); refine pw_ret ?_; (conv => whnf); cases H; rfl

/-- guidevane/guidevanelaw09.DamGauges -/
noncomputable def f166  (a0 : List (ByteArray × Int × Int × Int × Int)) : Option Bool :=
  obnd (f10) fun (y1 : Bool) =>
  oite (!y1) (
   some false
    ) (
   oite ((ilt (14 : Int) ((a0.map e_SIIII).length : Int))) (
    some true
     ) (
    obndS (
     oloop (τ := Int) (ρ := (Unit) ⊕ Bool) (fun e7 =>
      oite ((ilt e7 ((a0.map e_SIIII).length : Int))) (
       ogrd ((ile 0 e7)) (
       obnd (a0[e7.toNat]?) fun (x10 : ByteArray × Int × Int × Int × Int) =>
       oite ((ilt (30 : Int) (x10.1.size : Int))) (
        some (.inr (.inr (true)))
         ) (
        some (.inl (IntKind.i64.wrap (e7 + (1 : Int))))
         )
       )
        ) (
       some (.inr (.inl ()))
        )
       ) (0 : Int)
      ) fun (_ : Unit) =>
    obnd (f173 a0) fun (y14 : (List (ByteArray × Int × Int × Int × Int))) =>
    obnd (f172 y14) fun (y16 : Int × Int × Int) =>
    obnd (f173 a0) fun (y18 : (List (ByteArray × Int × Int × Int × Int))) =>
    obnd (f174 y18) fun (y20 : ByteArray × ByteArray × Int) =>
    obnd (f175 a0) fun (y22 : Int) =>
    oite ((!(ieq y22 (0 : Int)))) (
     obnd (
      oite ((ieq y16.2.2 y22)) (
       some ((ieq y16.1 (0 : Int)) && ((ieq y16.2.1 (0 : Int)) && true))
        ) (
       some false
        )
       ) fun (r24 : Bool) =>
     obnd (
      oite r24 (
       some (ieq y20.2.2 y22)
        ) (
       some false
        )
       ) fun (r26 : Bool) =>
     obnd (
      oite r26 (
       some ((y20.1 == (⟨#[]⟩ : ByteArray)) && ((y20.2.1 == (⟨#[]⟩ : ByteArray)) && true))
        ) (
       some false
        )
       ) fun (r28 : Bool) =>
     some r28
      ) (
     obnd (f176 a0) fun (y30 : Int × Int × Bool) =>
     obnd (f177 a0) fun (y32 : ByteArray × ByteArray × Bool) =>
     oite ((y32.2.2 == y30.2.2)) (
      some false
       ) (
      oite (!y30.2.2) (
       obnd (
        oite ((ieq y16.2.2 (13 : Int))) (
         some ((ieq y16.1 (0 : Int)) && ((ieq y16.2.1 (0 : Int)) && true))
          ) (
         some false
          )
         ) fun (r34 : Bool) =>
       obnd (
        oite r34 (
         some (ieq y20.2.2 (0 : Int))
          ) (
         some false
          )
         ) fun (r36 : Bool) =>
       obnd (
        oite r36 (
         some ((y20.1 == y32.1) && ((y20.2.1 == y32.2.1) && true))
          ) (
         some false
          )
         ) fun (r38 : Bool) =>
       some r38
        ) (
       obnd (
        obnd (
         oite ((!(ieq y16.2.2 (0 : Int)))) (
          some true
           ) (
          some (!((ieq y16.1 y30.1) && ((ieq y16.2.1 y30.2.1) && true)))
           )
          ) fun (r44 : Bool) =>
        obnd (
         oite r44 (
          some true
           ) (
          some (!(ieq y20.2.2 (12 : Int)))
           )
          ) fun (r46 : Bool) =>
        oite r46 (
         some true
          ) (
         some (!((y20.1 == (⟨#[]⟩ : ByteArray)) && ((y20.2.1 == (⟨#[]⟩ : ByteArray)) && true)))
          )
         ) fun (r40 : Bool) =>
       oite r40 (
        some false
         ) (
        oite ((ieq ((a0.map e_SIIII).length : Int) (1 : Int))) (
         some true
          ) (
         obnd (oslL a0 (1 : Int)) fun (m48 : List (ByteArray × Int × Int × Int × Int)) =>
         obnd (f173 m48) fun (y51 : (List (ByteArray × Int × Int × Int × Int))) =>
         obnd (f172 y51) fun (y53 : Int × Int × Int) =>
         obnd (
          oite ((ieq y53.2.2 (0 : Int))) (
           some (ile y53.1 y16.1)
            ) (
           some false
            )
           ) fun (r55 : Bool) =>
         obnd (
          oite r55 (
           some (ile y16.2.1 y53.2.1)
            ) (
           some false
            )
           ) fun (r57 : Bool) =>
         some r57
          )
         )
        )
       )
      )
     )
    )
set_option maxHeartbeats 1000000 in
theorem c166  {a0 : List (ByteArray × Int × Int × Int × Int)} {x : Bool} (H : f166 a0 = some x) : ICalls E 166 [(VS 5 (a0.map e_SIIII))] AHeap.none fun v _ => v = (.bool x) := by
  refine icalls_fn (pfnw rfl ?_); unfold f166 at H; (conv => whnf); refine pw_so ?_; refine po_all ?_; (conv => whnf); refine pw_seq ?_; refine pw_so ?_; refine po_all ?_; (conv => whnf); obtain ⟨y1, h2, H⟩ := obnd_some H; refine (c10 h2).go ?_; (conv => whnf); refine pw_cond ?_; (conv => whnf); refine pbr_oite H (fun _ H => ?_) (fun _ H => ?_)
  · (conv => whnf); refine pw_so ?_; refine po_all ?_; (conv => whnf); refine pw_ret ?_; (conv => whnf); cases H; rfl
  · (conv => whnf); refine pw_skip ?_; (conv => whnf); refine pw_seq ?_; refine pw_so ?_; refine po_all ?_; (conv => whnf); refine pw_cond ?_; (conv => whnf); refine pbr_oite H (fun _ H => ?_) (fun _ H => ?_)
    · (conv => whnf); refine pw_so ?_; refine po_all ?_; (conv => whnf); refine pw_ret ?_; (conv => whnf); cases H; rfl
    · (conv => whnf); refine pw_skip ?_; (conv => whnf); obtain ⟨r3, h4, h5, h6⟩ := obndS_some H; refine pw_joinS (ρ := Unit) (fun e => ⟨[(0, (VS 5 (a0.map e_SIIII)))], ⟨0, [], false⟩⟩) r3 ?_ ?_
      · refine pw_so ?_; refine po_all ?_; (conv => whnf); refine pw_block ?_; refine pw_loop (τ := Int) (fun e => ⟨[(0, (VS 5 (a0.map e_SIIII))), (3, (.int .i64 e))], ⟨0, [], false⟩⟩) h4 ?_ (fun _ => Nat.le_of_ble_eq_true rfl) ?_
        · exact .sub' (Nat.le_of_ble_eq_true rfl) (.cons rfl (.cons rfl .nil))
        · intro e7 x8 h9; refine pw_seq ?_; refine pw_so ?_; refine po_all ?_; (conv => whnf); refine pw_cond ?_; (conv => whnf); refine pbr_oite h9 (fun _ h9 => ?_) (fun _ h9 => ?_)
          · (conv => whnf); refine pw_skip ?_; (conv => whnf); refine pw_seq ?_; refine pw_block ?_; refine pw_so ?_; refine po_all ?_; (conv => whnf); refine pbr_ogrd h9 (fun _ h9 => ?_); (conv => whnf); refine nth_o (l := a0) h9 (fun x10 _ h9 => ?_); (conv => whnf); refine pw_cond ?_; (conv => whnf); refine pbr_oite h9 (fun _ h9 => ?_) (fun _ h9 => ?_)
            · (conv => whnf); refine pw_so ?_; refine po_all ?_; (conv => whnf); refine pw_ret ?_; (conv => whnf); cases h9; refine ⟨_, rfl, ?_⟩; rintro rfl; (conv => whnf); obtain rfl := h6 _ rfl; rfl
            · (conv => whnf); refine pw_skip ?_; (conv => whnf); refine pw_ops ?_; refine po_all ?_; (conv => whnf); cases h9; refine ⟨_, rfl, ?_⟩; exact .sub' (Nat.le_of_ble_eq_true rfl) (.cons rfl (.cons rfl .nil))
          · (conv => whnf); refine pw_exit ?_; (conv => whnf); cases h9; refine ⟨_, rfl, ?_⟩; rintro rfl; (conv => whnf); exact ⟨_, rfl, ⟨(.cons rfl .nil), rfl⟩⟩
      · intro r13 hr; have H := h5 _ hr; refine pw_so ?_; refine po_all ?_; (conv => whnf); obtain ⟨y14, h15, H⟩ := obnd_some H; refine (c173 h15).go ?_; (conv => whnf); obtain ⟨y16, h17, H⟩ := obnd_some H; refine (c172 h17).go ?_; (conv => whnf); refine pw_so ?_; refine po_all ?_; (conv => whnf); obtain ⟨y18, h19, H⟩ := obnd_some H; refine (c173 h19).go ?_; (conv => whnf); obtain ⟨y20, h21, H⟩ := obnd_some H; refine (c174 h21).go ?_; (conv => whnf); refine pw_seq ?_; refine pw_so ?_; refine po_all ?_; (conv => whnf); obtain ⟨y22, h23, H⟩ := obnd_some H; refine (c175 h23).go ?_; (conv => whnf); refine pw_so ?_; refine po_all ?_; (conv => whnf); refine pw_cond ?_
        (conv => whnf); refine pbr_oite H (fun _ H => ?_) (fun _ H => ?_)
        · (conv => whnf); refine pw_so ?_; refine po_ops 4 ?_; (conv => whnf); obtain ⟨r24, h25, H⟩ := obnd_some H; refine po_seg (τ := Bool) 4 (fun e => ⟨[(6, (.pointer (some ⟨1, 0, none⟩))), (7, (.int .i64 y20.2.2)), (8, (.int .i64 y22)), (56, (.bool e))], ⟨2, [(1, .rw [(.string y20.1), (.string y20.2.1)]), (0, .rw [(.int .i64 y16.1), (.int .i64 y16.2.1)])], false⟩⟩) r24 ?_ ?_
          · refine po_all ?_; (conv => whnf); refine pbr_oite h25 (fun _ h25 => ?_) (fun _ h25 => ?_)
            · (conv => whnf); refine pbr_t (by assumption) ?_; (conv => whnf); refine pbr_t (by assumption) ?_; (conv => whnf); refine pbr_t (by assumption) ?_; (conv => whnf); cases h25; exact ⟨(.cons rfl (.cons rfl (.cons rfl (.cons rfl .nil)))), rfl⟩
            · (conv => whnf); refine pbr_f (by assumption) ?_; (conv => whnf); refine pbr_f (by assumption) ?_; (conv => whnf); refine pbr_f (by assumption) ?_; (conv => whnf); cases h25; exact ⟨(.cons rfl (.cons rfl (.cons rfl (.cons rfl .nil)))), rfl⟩
          · refine po_ops 1 ?_; (conv => whnf); obtain ⟨r26, h27, H⟩ := obnd_some H; refine po_seg (τ := Bool) 4 (fun e => ⟨[(6, (.pointer (some ⟨1, 0, none⟩))), (61, (.bool e))], ⟨2, [(1, .rw [(.string y20.1), (.string y20.2.1)]), (0, .rw [(.int .i64 y16.1), (.int .i64 y16.2.1)])], false⟩⟩) r26 ?_ ?_
            · refine po_all ?_; (conv => whnf); refine pbr_oite h27 (fun _ h27 => ?_) (fun _ h27 => ?_)
              · (conv => whnf); refine pbr_t (by assumption) ?_; (conv => whnf); refine pbr_t (by assumption) ?_; (conv => whnf); refine pbr_t (by assumption) ?_; (conv => whnf); cases h27; exact ⟨(.cons rfl (.cons rfl .nil)), rfl⟩
              · (conv => whnf); refine pbr_f (by assumption) ?_; (conv => whnf); refine pbr_f (by assumption) ?_; (conv => whnf); refine pbr_f (by assumption) ?_; (conv => whnf); cases h27; exact ⟨(.cons rfl (.cons rfl .nil)), rfl⟩
            · refine po_ops 1 ?_; (conv => whnf); obtain ⟨r28, h29, H⟩ := obnd_some H; refine po_seg (τ := Bool) 4 (fun e => ⟨[(66, (.bool e))], ⟨2, [(1, .rw [(.string y20.1), (.string y20.2.1)]), (0, .rw [(.int .i64 y16.1), (.int .i64 y16.2.1)])], false⟩⟩) r28 ?_ ?_
              · refine po_all ?_; (conv => whnf); refine pbr_oite h29 (fun _ h29 => ?_) (fun _ h29 => ?_)
                · (conv => whnf); refine pbr_t (by assumption) ?_; (conv => whnf); refine pbr_t (by assumption) ?_; (conv => whnf); refine pbr_t (by assumption) ?_; (conv => whnf); cases h29; exact ⟨(.cons rfl .nil), rfl⟩
                · (conv => whnf); refine pbr_f (by assumption) ?_; (conv => whnf); refine pbr_f (by assumption) ?_; (conv => whnf); refine pbr_f (by assumption) ?_; (conv => whnf); cases h29; exact ⟨(.cons rfl .nil), rfl⟩
              · refine po_all ?_; (conv => whnf); refine pw_ret ?_; (conv => whnf); cases H; rfl
        · (conv => whnf); refine pw_skip ?_; (conv => whnf); refine pw_so ?_; refine po_all ?_; (conv => whnf); obtain ⟨y30, h31, H⟩ := obnd_some H; refine (c176 h31).go ?_; (conv => whnf); refine pw_so ?_; refine po_all ?_; (conv => whnf); obtain ⟨y32, h33, H⟩ := obnd_some H; refine (c177 h33).go ?_; (conv => whnf); refine pw_seq ?_; refine pw_so ?_; refine po_all ?_; (conv => whnf); refine pw_cond ?_; (conv => whnf); refine pbr_oite H (fun _ H => ?_) (fun _ H => ?_)
          · (conv => whnf); refine pw_so ?_; refine po_all ?_; (conv => whnf); refine pw_ret ?_; (conv => whnf); cases H; rfl
          · (conv => whnf); refine pw_skip ?_; (conv => whnf); refine pw_seq ?_; refine pw_so ?_; refine po_all ?_; (conv => whnf); refine pw_cond ?_; (conv => whnf); refine pbr_oite H (fun _ H => ?_) (fun _ H => ?_)
            · (conv => whnf); refine pw_so ?_; refine po_ops 3 ?_; (conv => whnf); obtain ⟨r34, h35, H⟩ := obnd_some H; refine po_seg (τ := Bool) 4 (fun e => ⟨[(6, (.pointer (some ⟨1, 0, none⟩))), (7, (.int .i64 y20.2.2)), (11, (.pointer (some ⟨3, 0, none⟩))), (88, (.bool e))], ⟨4, [(3, .rw [(.string y32.1), (.string y32.2.1)]), (2, .rw [(.int .i64 y30.1), (.int .i64 y30.2.1)]), (1, .rw [(.string y20.1), (.string y20.2.1)]), (0, .rw [(.int .i64 y16.1), (.int .i64 y16.2.1)])], false⟩⟩) r34 ?_ ?_
              · refine po_all ?_; (conv => whnf); refine pbr_oite h35 (fun _ h35 => ?_) (fun _ h35 => ?_)
                · (conv => whnf); refine pbr_t (by assumption) ?_; (conv => whnf); refine pbr_t (by assumption) ?_; (conv => whnf); refine pbr_t (by assumption) ?_; (conv => whnf); cases h35; exact ⟨(.cons rfl (.cons rfl (.cons rfl (.cons rfl .nil)))), rfl⟩
                · (conv => whnf); refine pbr_f (by assumption) ?_; (conv => whnf); refine pbr_f (by assumption) ?_; (conv => whnf); refine pbr_f (by assumption) ?_; (conv => whnf); cases h35; exact ⟨(.cons rfl (.cons rfl (.cons rfl (.cons rfl .nil)))), rfl⟩
              · refine po_ops 1 ?_; (conv => whnf); obtain ⟨r36, h37, H⟩ := obnd_some H; refine po_seg (τ := Bool) 3 (fun e => ⟨[(6, (.pointer (some ⟨1, 0, none⟩))), (11, (.pointer (some ⟨3, 0, none⟩))), (92, (.bool e))], ⟨4, [(3, .rw [(.string y32.1), (.string y32.2.1)]), (2, .rw [(.int .i64 y30.1), (.int .i64 y30.2.1)]), (1, .rw [(.string y20.1), (.string y20.2.1)]), (0, .rw [(.int .i64 y16.1), (.int .i64 y16.2.1)])], false⟩⟩) r36 ?_ ?_
                · refine po_all ?_; (conv => whnf); refine pbr_oite h37 (fun _ h37 => ?_) (fun _ h37 => ?_)
                  · (conv => whnf); refine pbr_t (by assumption) ?_; (conv => whnf); refine pbr_t (by assumption) ?_; (conv => whnf); cases h37; exact ⟨(.cons rfl (.cons rfl (.cons rfl .nil))), rfl⟩
                  · (conv => whnf); refine pbr_f (by assumption) ?_; (conv => whnf); refine pbr_f (by assumption) ?_; (conv => whnf); cases h37; exact ⟨(.cons rfl (.cons rfl (.cons rfl .nil))), rfl⟩
                · refine po_ops 1 ?_; (conv => whnf); obtain ⟨r38, h39, H⟩ := obnd_some H; refine po_seg (τ := Bool) 4 (fun e => ⟨[(97, (.bool e))], ⟨4, [(3, .rw [(.string y32.1), (.string y32.2.1)]), (2, .rw [(.int .i64 y30.1), (.int .i64 y30.2.1)]), (1, .rw [(.string y20.1), (.string y20.2.1)]), (0, .rw [(.int .i64 y16.1), (.int .i64 y16.2.1)])], false⟩⟩) r38 ?_ ?_
                  · refine po_all ?_; (conv => whnf); refine pbr_oite h39 (fun _ h39 => ?_) (fun _ h39 => ?_)
                    · (conv => whnf); refine pbr_t (by assumption) ?_; (conv => whnf); refine pbr_t (by assumption) ?_; (conv => whnf); refine pbr_t (by assumption) ?_; (conv => whnf); cases h39; exact ⟨(.cons rfl .nil), rfl⟩
                    · (conv => whnf); refine pbr_f (by assumption) ?_; (conv => whnf); refine pbr_f (by assumption) ?_; (conv => whnf); refine pbr_f (by assumption) ?_; (conv => whnf); cases h39; exact ⟨(.cons rfl .nil), rfl⟩
                  · refine po_all ?_; (conv => whnf); refine pw_ret ?_; (conv => whnf); cases H; rfl
            · (conv => whnf); refine pw_skip ?_; (conv => whnf); refine pw_seq ?_; obtain ⟨r40, h41, H⟩ := obnd_some H; refine pw_join (ρ := Bool) (fun e => ⟨[(0, (VS 5 (a0.map e_SIIII))), (4, (.pointer (some ⟨0, 0, none⟩))), (113, (.bool e))], ⟨4, [(3, .rw [(.string y32.1), (.string y32.2.1)]), (2, .rw [(.int .i64 y30.1), (.int .i64 y30.2.1)]), (1, .rw [(.string y20.1), (.string y20.2.1)]), (0, .rw [(.int .i64 y16.1), (.int .i64 y16.2.1)])], false⟩⟩) r40 ?_ ?_
              · refine pw_ops ?_; refine po_ops 3 ?_; (conv => whnf); obtain ⟨r44, h45, h41⟩ := obnd_some h41; refine po_seg (τ := Bool) 4 (fun e => ⟨[(0, (VS 5 (a0.map e_SIIII))), (4, (.pointer (some ⟨0, 0, none⟩))), (6, (.pointer (some ⟨1, 0, none⟩))), (7, (.int .i64 y20.2.2)), (104, (.bool e))], ⟨4, [(3, .rw [(.string y32.1), (.string y32.2.1)]), (2, .rw [(.int .i64 y30.1), (.int .i64 y30.2.1)]), (1, .rw [(.string y20.1), (.string y20.2.1)]), (0, .rw [(.int .i64 y16.1), (.int .i64 y16.2.1)])], false⟩⟩) r44 ?_ ?_
                · refine po_all ?_; (conv => whnf); refine pbr_oite h45 (fun _ h45 => ?_) (fun _ h45 => ?_)
                  · (conv => whnf); refine pbr_t (by assumption) ?_; (conv => whnf); refine pbr_t (by assumption) ?_; (conv => whnf); refine pbr_t (by assumption) ?_; (conv => whnf); cases h45; exact ⟨(.cons rfl (.cons rfl (.cons rfl (.cons rfl (.cons rfl .nil))))), rfl⟩
                  · (conv => whnf); refine pbr_f (by assumption) ?_; (conv => whnf); refine pbr_f (by assumption) ?_; (conv => whnf); refine pbr_f (by assumption) ?_; (conv => whnf); cases h45; exact ⟨(.cons rfl (.cons rfl (.cons rfl (.cons rfl (.cons rfl .nil))))), rfl⟩
                · refine po_ops 1 ?_; (conv => whnf); obtain ⟨r46, h47, h41⟩ := obnd_some h41; refine po_seg (τ := Bool) 3 (fun e => ⟨[(0, (VS 5 (a0.map e_SIIII))), (4, (.pointer (some ⟨0, 0, none⟩))), (6, (.pointer (some ⟨1, 0, none⟩))), (108, (.bool e))], ⟨4, [(3, .rw [(.string y32.1), (.string y32.2.1)]), (2, .rw [(.int .i64 y30.1), (.int .i64 y30.2.1)]), (1, .rw [(.string y20.1), (.string y20.2.1)]), (0, .rw [(.int .i64 y16.1), (.int .i64 y16.2.1)])], false⟩⟩) r46 ?_ ?_
                  · refine po_all ?_; (conv => whnf); refine pbr_oite h47 (fun _ h47 => ?_) (fun _ h47 => ?_)
                    · (conv => whnf); refine pbr_t (by assumption) ?_; (conv => whnf); refine pbr_t (by assumption) ?_; (conv => whnf); cases h47; exact ⟨(.cons rfl (.cons rfl (.cons rfl (.cons rfl .nil)))), rfl⟩
                    · (conv => whnf); refine pbr_f (by assumption) ?_; (conv => whnf); refine pbr_f (by assumption) ?_; (conv => whnf); cases h47; exact ⟨(.cons rfl (.cons rfl (.cons rfl (.cons rfl .nil)))), rfl⟩
                  · refine po_all ?_; (conv => whnf); refine pbr_oite h41 (fun _ h41 => ?_) (fun _ h41 => ?_)
                    · (conv => whnf); refine pbr_t (by assumption) ?_; (conv => whnf); refine pbr_t (by assumption) ?_; (conv => whnf); refine pbr_t (by assumption) ?_; (conv => whnf); cases h41; exact ⟨(.cons rfl (.cons rfl (.cons rfl .nil))), rfl⟩
                    · (conv => whnf); refine pbr_f (by assumption) ?_; (conv => whnf); refine pbr_f (by assumption) ?_; (conv => whnf); refine pbr_f (by assumption) ?_; (conv => whnf); cases h41; exact ⟨(.cons rfl (.cons rfl (.cons rfl .nil))), rfl⟩
              · refine pw_cond ?_; (conv => whnf); refine pbr_oite H (fun _ H => ?_) (fun _ H => ?_)
                · (conv => whnf); refine pw_so ?_; refine po_all ?_; (conv => whnf); refine pw_ret ?_; (conv => whnf); cases H; rfl
                · (conv => whnf); refine pw_skip ?_; (conv => whnf); refine pw_seq ?_; refine pw_so ?_; refine po_all ?_; (conv => whnf); refine pw_cond ?_; (conv => whnf); refine pbr_oite H (fun _ H => ?_) (fun _ H => ?_)
                  · (conv => whnf); refine pw_so ?_; refine po_all ?_; (conv => whnf); refine pw_ret ?_; (conv => whnf); cases H; rfl
                  · (conv => whnf); refine pw_skip ?_; (conv => whnf); refine pw_so ?_; refine po_all ?_; (conv => whnf); refine oslL_o (f := e_SIIII) H (fun m48 _ H h49 h50 => ?_); refine pbr_t (ile_t (by rw [List.length_map]; exact h49.2)) ?_; rw [h50]; (conv => whnf); obtain ⟨y51, h52, H⟩ := obnd_some H; refine (c173 h52).go ?_; (conv => whnf); obtain ⟨y53, h54, H⟩ := obnd_some H; refine (c172 h54).go ?_; (conv => whnf); refine pw_so ?_; refine po_ops 3 ?_; (conv => whnf); obtain ⟨r55, h56, H⟩ := obnd_some H; refine po_seg (τ := Bool) 6 (fun e => ⟨[(4, (.pointer (some ⟨0, 0, none⟩))), (13, (.pointer (some ⟨4, 0, none⟩))), (132, (.bool e))], ⟨5, [(4, .rw [(.int .i64 y53.1), (.int .i64 y53.2.1)]), (3, .rw [(.string y32.1), (.string y32.2.1)]), (2, .rw [(.int .i64 y30.1), (.int .i64 y30.2.1)]), (1, .rw [(.string y20.1), (.string y20.2.1)]), (0, .rw [(.int .i64 y16.1), (.int .i64 y16.2.1)])], false⟩⟩) r55 ?_ ?_
                    · refine po_all ?_; (conv => whnf); refine pbr_oite h56 (fun _ h56 => ?_) (fun _ h56 => ?_)
                      · (conv => whnf); refine pbr_t (by assumption) ?_; (conv => whnf); refine pbr_t (by assumption) ?_; (conv => whnf); refine pbr_t (by assumption) ?_; (conv => whnf); refine pbr_t (by assumption) ?_; (conv => whnf); refine pbr_t (by assumption) ?_; (conv => whnf); cases h56; exact ⟨(.cons rfl (.cons rfl (.cons rfl .nil))), rfl⟩
                      · (conv => whnf); refine pbr_f (by assumption) ?_; (conv => whnf); refine pbr_f (by assumption) ?_; (conv => whnf); refine pbr_f (by assumption) ?_; (conv => whnf); refine pbr_f (by assumption) ?_; (conv => whnf); refine pbr_f (by assumption) ?_; (conv => whnf); cases h56; exact ⟨(.cons rfl (.cons rfl (.cons rfl .nil))), rfl⟩
                    · refine po_ops 1 ?_; (conv => whnf); obtain ⟨r57, h58, H⟩ := obnd_some H; refine po_seg (τ := Bool) 6 (fun e => ⟨[(139, (.bool e))], ⟨5, [(4, .rw [(.int .i64 y53.1), (.int .i64 y53.2.1)]), (3, .rw [(.string y32.1), (.string y32.2.1)]), (2, .rw [(.int .i64 y30.1), (.int .i64 y30.2.1)]), (1, .rw [(.string y20.1), (.string y20.2.1)]), (0, .rw [(.int .i64 y16.1), (.int .i64 y16.2.1)])], false⟩⟩) r57 ?_ ?_
                      · refine po_all ?_; (conv => whnf); refine pbr_oite h58 (fun _ h58 => ?_) (fun _ h58 => ?_)
                        · (conv => whnf); refine pbr_t (by assumption) ?_; (conv => whnf); refine pbr_t (by assumption) ?_; (conv => whnf); refine pbr_t (by assumption) ?_; (conv => whnf); refine pbr_t (by assumption) ?_; (conv => whnf); refine pbr_t (by assumption) ?_; (conv => whnf); cases h58; exact ⟨(.cons rfl .nil), rfl⟩
                        · (conv => whnf); refine pbr_f (by assumption) ?_; (conv => whnf); refine pbr_f (by assumption) ?_; (conv => whnf); refine pbr_f (by assumption) ?_; (conv => whnf); refine pbr_f (by assumption) ?_; (conv => whnf); refine pbr_f (by assumption) ?_; (conv => whnf); cases h58; exact ⟨(.cons rfl .nil), rfl⟩
                      · refine po_all ?_; (conv => whnf); refine pw_ret ?_; (conv => whnf); cases H; rfl

end Go.Proofs.YtfdapegcngmknaaGreat.AM
