/- Computations of functions, and that the functions do them (printed by tools/lift.py). Conditions: none. -/
import Derived.Test.YtmbekcealcjabaaGreatAmMan
namespace Go.Proofs.YtmbekcealcjabaaGreat.AM
set_option linter.unusedSimpArgs false
set_option linter.unusedVariables false
open Go Go.RowKit
attribute [local irreducible] ICallV ICalls Recast rng

/-- guidevane/guidevaneref08.CopyRevisions -/
noncomputable def f334  (a0 : List (ByteArray × Int × Int)) : Option ((List (ByteArray × Int × Int))) :=
  ogrd (fits 32 (([] : List (ByteArray × Int × Int)).length + a0.length)) (
  some (([] : List (ByteArray × Int × Int)) ++ a0)
  )
set_option maxHeartbeats 1000000 in
theorem c334  {a0 : List (ByteArray × Int × Int)} {x : (List (ByteArray × Int × Int))} (H : f334 a0 = some x) : ICalls E 334 [(VS 3 (a0.map e_SII))] AHeap.none fun v _ => v = (VS 3 (x.map e_SII)) := by
  refine ICalls.frz ?_;refine icalls_fn (pfnw ?_); unfold f334 at H;(conv=>whnf);refine pwa ?_;(conv=>whnf);refine pwa ?_;(conv=>whnf);refine app_o (l := ([] : List (ByteArray × Int × Int))) (m := a0) (f := e_SII) H (by rfl) (by rfl) (by rfl) (fun H => ?_);(conv=>whnf);refine pw_ret ?_;(conv=>whnf);cases H; show ∃ D, Fz _ D 0 (VT 3 _ 0) _;exact ⟨fun _ => false, .vtc⟩

/-- slices.IndexFunc[[]guidevane/api.DispatchRevision,guidevane/api.DispatchRevision] -/
noncomputable def f259 [LO] (p0 : ByteArray → Int → Int → Option Bool) (a0 : List (ByteArray × Int × Int)) : Option Int :=
  obndS (
   oloop (τ := Int) (ρ := (Unit) ⊕ Int) (fun e5 =>
    oite ((ilt e5 ((a0.map e_SII).length : Int))) (
     ogrd ((ile 0 e5)) (
     obnd (a0[e5.toNat]?) fun (x10 : ByteArray × Int × Int) =>
     obnd (p0 x10.1 x10.2.1 x10.2.2) fun (y11 : Bool) =>
     oite y11 (
      some (.inr (.inr (e5)))
       ) (
      some (.inl (IntKind.i64.wrap (e5 + (1 : Int))))
       )
     )
      ) (
     some (.inr (.inl ()))
      )
     ) (0 : Int)
    ) fun (_ : Unit) =>
  some (-1 : Int)
set_option maxHeartbeats 1000000 in
theorem c259 [LO] {p0 : ByteArray → Int → Int → Option Bool} {a0 : List (ByteArray × Int × Int)} {g0 : Value} [Cl g0] (hp0 : ∀ y0 y1 y2 y, p0 y0 y1 y2 = some y → ICallV E g0 [(.agg ⟨[(.string y0), (.int .i64 y1), (.int .i64 y2)]⟩)] AHeap.none fun v _ => v = (.bool y)) {x : Int} (H : f259 p0 a0 = some x) : ICalls E 259 [(VS 3 (a0.map e_SII)), g0] AHeap.none fun v _ => v = (.int .i64 x) := by
  refine icalls_fn (pfnw ?_); unfold f259 at H;(conv=>whnf);refine pwa ?_;(conv=>whnf);obtain ⟨r1, h2, h3, h4⟩ := obndS_some H;refine pw_joinS (ρ := Unit) (fun e => ⟨[], ⟨0, [], false⟩⟩) r1 ?_ ?_
  · refine pwa ?_;(conv=>whnf);refine pw_block ?_;refine pw_loop (τ := Int) (fun e => ⟨[(0, (VS 3 (a0.map e_SII))), (1, g0), (7, (.int .i64 ((a0.map e_SII).length : Int))), (8, (.int .i64 e))], ⟨0, [], false⟩⟩) h2 ?_ (fun _ => nl rfl) ?_
    · exact .sub' (nl rfl) (.cons rfl (.cons rfl (.cons rfl (.cons rfl .nil))))
    · intro e5 x6 h7;refine pwa ?_;(conv=>whnf);refine pw_seq ?_;refine pw_cond ?_;(conv=>whnf);refine pbr_oite h7 (fun g8 h7 => ?_) (fun g8 h7 => ?_)
      · (conv=>whnf);refine pw_skip ?_;(conv=>whnf);refine pw_seq ?_;refine pw_block ?_;refine pwa ?_;(conv=>whnf);refine pwa ?_;(conv=>whnf);refine pbr_ogrd h7 (fun g9 h7 => ?_);(conv=>whnf);refine nth_o (l := a0) h7 (fun x10 _ h7 => ?_);(conv=>whnf);obtain ⟨y11, h12, h7⟩ := obnd_some h7;refine ICallV.go (hp0 _ _ _ _ h12) ?_;(conv=>whnf);refine pw_cond ?_;(conv=>whnf);refine pbr_oite h7 (fun g13 h7 => ?_) (fun g13 h7 => ?_)
        · (conv=>whnf);refine pwa ?_;(conv=>whnf);refine pw_ret ?_;(conv=>whnf);cases h7;refine ⟨_, rfl, ?_⟩; rintro rfl;(conv=>whnf);obtain rfl := h4 _ rfl; rfl
        · (conv=>whnf);refine pw_skip ?_;(conv=>whnf);refine pw_ops ?_;refine po_all ?_;(conv=>whnf);cases h7;refine ⟨_, rfl, ?_⟩;exact .sub' (nl rfl) (.cons rfl (.cons rfl (.cons rfl (.cons rfl .nil))))
      · (conv=>whnf);refine pw_exit ?_;(conv=>whnf);cases h7;refine ⟨_, rfl, ?_⟩; rintro rfl;(conv=>whnf);exact ⟨_, rfl, ⟨.nil, rfl⟩⟩
  · intro r16 hr; have H := h3 _ hr;refine pwa ?_;(conv=>whnf);refine pw_ret ?_;(conv=>whnf);cases H; rfl

/-- slices.ContainsFunc[[]guidevane/api.DispatchRevision,guidevane/api.DispatchRevision] -/
noncomputable def f252 [LO] (p0 : ByteArray → Int → Int → Option Bool) (a0 : List (ByteArray × Int × Int)) : Option Bool :=
  obnd (f259 p0 a0) fun (y1 : Int) =>
  some (ile (0 : Int) y1)
set_option maxHeartbeats 1000000 in
theorem c252 [LO] {p0 : ByteArray → Int → Int → Option Bool} {a0 : List (ByteArray × Int × Int)} {g0 : Value} [Cl g0] (hp0 : ∀ y0 y1 y2 y, p0 y0 y1 y2 = some y → ICallV E g0 [(.agg ⟨[(.string y0), (.int .i64 y1), (.int .i64 y2)]⟩)] AHeap.none fun v _ => v = (.bool y)) {x : Bool} (H : f252 p0 a0 = some x) : ICalls E 252 [(VS 3 (a0.map e_SII)), g0] AHeap.none fun v _ => v = (.bool x) := by
  refine icalls_fn (pfnw ?_); unfold f252 at H;(conv=>whnf);refine pwa ?_;(conv=>whnf);refine pwa ?_;(conv=>whnf);obtain ⟨y1, h2, H⟩ := obnd_some H;refine (c259 hp0 h2).go ?_;(conv=>whnf);refine pw_ret ?_;(conv=>whnf);cases H; rfl

/-- guidevane/dispatch.CheckRevisions$1 -/
noncomputable def f253  (a0 : ByteArray) (_ : Int) (_ : Int) (a3 : ByteArray) (_ : Int) (_ : Int) : Option Bool :=
  some (a0.toList == a3.toList)
set_option maxHeartbeats 1000000 in
theorem c253  {a0 : ByteArray} {a1 : Int} {a2 : Int} {a3 : ByteArray} {a4 : Int} {a5 : Int} {x : Bool} (H : f253 a0 a1 a2 a3 a4 a5 = some x) : ICallV E (.func (.func (E.id 253)) ⟨[]⟩ ⟨[(VP (.agg ⟨[(.string a3), (.int .i64 a4), (.int .i64 a5)]⟩) 0)]⟩) [(.agg ⟨[(.string a0), (.int .i64 a1), (.int .i64 a2)]⟩)] AHeap.none fun v _ => v = (.bool x) := by
  refine icallv_fn (pfnw ?_); unfold f253 at H;(conv=>whnf);refine pwa ?_;(conv=>whnf);refine pwa ?_;(conv=>whnf);refine pw_ret ?_;(conv=>whnf);cases H; rfl

/-- guidevane/dispatch.CheckRevisions -/
noncomputable def f244 [LO]  (a0 : List (ByteArray × Int × Int)) : Option (Int × Int) :=
  obnd (f214 ((ilt (0 : Int) ((a0.map e_SII).length : Int))) (10 : Int)) fun (y1 : Int) =>
  obnd (f214 ((ile ((a0.map e_SII).length : Int) (8 : Int))) (8 : Int)) fun (y3 : Int) =>
  obnd (f213 ([y1, y3] : List Int)) fun (y5 : Int) =>
  oite ((!(ieq y5 (0 : Int)))) (
   some ((0 : Int), y5)
    ) (
   obndS (
    oloop (τ := Int) (ρ := (Unit) ⊕ (Int × Int)) (fun e12 =>
     oite ((ilt e12 ((a0.map e_SII).length : Int))) (
      ogrd ((ile 0 e12)) (
      obnd (a0[e12.toNat]?) fun (x17 : ByteArray × Int × Int) =>
      obnd (oslH a0 e12) fun (m18 : List (ByteArray × Int × Int)) =>
      obnd (f252 (fun (z0 : ByteArray) (z1 : Int) (z2 : Int) => f253 z0 z1 z2 x17.1 x17.2.1 x17.2.2) m18) fun (y21 : Bool) =>
      obnd (f216 x17.2.1 (0 : Int) (100000 : Int)) fun (y23 : Bool) =>
      obnd (
       oite y23 (
        obnd (f216 x17.2.2 (1 : Int) (100000 : Int)) fun (y28 : Bool) =>
        some y28
         ) (
        some false
         )
        ) fun (r25 : Bool) =>
      obnd (f254 x17.1) fun (y30 : Bool) =>
      obnd (f214 y30 (4 : Int)) fun (y32 : Int) =>
      obnd (f214 (!y21) (5 : Int)) fun (y34 : Int) =>
      obnd (f214 r25 (2 : Int)) fun (y36 : Int) =>
      obnd (f213 ([y32, y34, y36] : List Int)) fun (y38 : Int) =>
      oite ((!(ieq y38 (0 : Int)))) (
       some (.inr (.inr ((e12, y38))))
        ) (
       some (.inl (IntKind.i64.wrap (e12 + (1 : Int))))
        )
      )
       ) (
      some (.inr (.inl ()))
       )
      ) (0 : Int)
     ) fun (_ : Unit) =>
   some ((0 : Int), (0 : Int))
    )
set_option maxHeartbeats 1000000 in
theorem c244 [LO]  {a0 : List (ByteArray × Int × Int)} {x : Int × Int} (H : f244 a0 = some x) : ICalls E 244 [(VS 3 (a0.map e_SII))] AHeap.none fun v _ => v = (.tuple ⟨[(.int .i64 x.1), (.int .i64 x.2)]⟩) := by
  refine icalls_fn (pfnw ?_); unfold f244 at H;(conv=>whnf);refine pwa ?_;(conv=>whnf);refine pw_seq ?_;refine pwa ?_;(conv=>whnf);obtain ⟨y1, h2, H⟩ := obnd_some H;refine (c214 h2).go ?_;(conv=>whnf);obtain ⟨y3, h4, H⟩ := obnd_some H;refine (c214 h4).go ?_;(conv=>whnf);obtain ⟨y5, h6, H⟩ := obnd_some H;refine ICalls.goW (c213 h6) (.cons (.vt _ _ _) .nil) ?_;(conv=>whnf);refine pwa ?_;(conv=>whnf);refine pw_cond ?_;(conv=>whnf);refine pbr_oite H (fun g7 H => ?_) (fun g7 H => ?_)
  · (conv=>whnf);refine pwa ?_;(conv=>whnf);refine pw_ret ?_;(conv=>whnf);cases H; rfl
  · (conv=>whnf);refine pw_skip ?_;(conv=>whnf);obtain ⟨r8, h9, h10, h11⟩ := obndS_some H;refine pw_joinS (ρ := Unit) (fun e => ⟨[], ⟨1, [(0, .tail 2 1)], false⟩⟩) r8 ?_ ?_
    · refine pwa ?_;(conv=>whnf);refine pw_block ?_;refine pw_loop (τ := Int) (fun e => ⟨[(0, (VS 3 (a0.map e_SII))), (23, (VS 3 (a0.map e_SII))), (24, (.int .i64 ((a0.map e_SII).length : Int))), (25, (.int .i64 e))], ⟨1, [(0, .tail 2 1)], false⟩⟩) h9 ?_ (fun _ => nl rfl) ?_
      · exact .sub' (nl rfl) (.cons rfl (.cons rfl (.cons rfl (.cons rfl .nil))))
      · intro e12 x13 h14;refine pwa ?_;(conv=>whnf);refine pw_seq ?_;refine pw_cond ?_;(conv=>whnf);refine pbr_oite h14 (fun g15 h14 => ?_) (fun g15 h14 => ?_)
        · (conv=>whnf);refine pw_skip ?_;(conv=>whnf);refine pw_seq ?_;refine pw_block ?_;refine pwa ?_;(conv=>whnf);refine pbr_ogrd h14 (fun g16 h14 => ?_);(conv=>whnf);refine nth_o (l := a0) h14 (fun x17 _ h14 => ?_);(conv=>whnf);refine pwa ?_;(conv=>whnf);refine oslH_o (f := e_SII) h14 (fun m18 _ h14 h19 h20 => ?_);refine pbr_t (ile_t h19.1) ?_;(conv=>whnf);refine pbr_t (ile_t (by simpa only [List.length_map] using h19.2)) ?_; rw [h20];(conv=>whnf);obtain ⟨y21, h22, h14⟩ := obnd_some h14;refine ICalls.goD (c252 (fun _ _ _ _ h => (c253 h)) h22) (.cons .cl (.cons (.func .nil (.cons (.ptr rfl (by intro v hv; simp only [List.mem_cons, List.not_mem_nil, or_false] at hv; rcases hv with rfl | rfl | rfl <;> rfl)) .nil)) .nil)) rfl ?_
          (conv=>whnf);refine pw_so ?_;refine po_ops 4 ?_;(conv=>whnf);obtain ⟨y23, h24, h14⟩ := obnd_some h14;refine (c216 h24).go ?_;(conv=>whnf);obtain ⟨r25, h26, h14⟩ := obnd_some h14;refine po_seg (τ := Bool) 4 (fun e => ⟨[(0, (VS 3 (a0.map e_SII))), (5, (.int .i64 e12)), (6, (.pointer (some ⟨1, 0, none⟩))), (7, (.bool y21)), (23, (VS 3 (a0.map e_SII))), (24, (.int .i64 ((a0.map e_SII).length : Int))), (25, (.int .i64 e12)), (42, (.bool e))], ⟨2, [(1, .rw [(.string x17.1), (.int .i64 x17.2.1), (.int .i64 x17.2.2)]), (0, .tail 2 1)], false⟩⟩) r25 ?_ ?_
          · refine po_all ?_;(conv=>whnf);refine pbr_oite h26 (fun g27 h26 => ?_) (fun g27 h26 => ?_)
            · (conv=>whnf);refine pbr_t g27 ?_;(conv=>whnf);refine pbr_t g27 ?_;(conv=>whnf);obtain ⟨y28, h29, h26⟩ := obnd_some h26;refine (c216 h29).go ?_;(conv=>whnf);refine pbr_t g27 ?_;(conv=>whnf);cases h26;exact ⟨(.cons rfl (.cons rfl (.cons rfl (.cons rfl (.cons rfl (.cons rfl (.cons rfl (.cons rfl .nil)))))))), rfl⟩
            · (conv=>whnf);(iterate 3 refine pbr_f g27 ?_;(conv=>whnf));cases h26;exact ⟨(.cons rfl (.cons rfl (.cons rfl (.cons rfl (.cons rfl (.cons rfl (.cons rfl (.cons rfl .nil)))))))), rfl⟩
          · refine po_all ?_;(conv=>whnf);refine pwa ?_;(conv=>whnf);obtain ⟨y30, h31, h14⟩ := obnd_some h14;refine (c254 h31).go ?_;(conv=>whnf);obtain ⟨y32, h33, h14⟩ := obnd_some h14;refine (c214 h33).go ?_;(conv=>whnf);obtain ⟨y34, h35, h14⟩ := obnd_some h14;refine (c214 h35).go ?_;(conv=>whnf);obtain ⟨y36, h37, h14⟩ := obnd_some h14;refine (c214 h37).go ?_;(conv=>whnf);obtain ⟨y38, h39, h14⟩ := obnd_some h14;refine ICalls.goW (c213 h39) (.cons (.vt _ _ _) .nil) ?_;(conv=>whnf);refine pwa ?_;(conv=>whnf);refine pw_cond ?_;(conv=>whnf);refine pbr_oite h14 (fun g40 h14 => ?_) (fun g40 h14 => ?_)
            · (conv=>whnf);refine pwa ?_;(conv=>whnf);refine pw_ret ?_;(conv=>whnf);cases h14;refine ⟨_, rfl, ?_⟩; rintro rfl;(conv=>whnf);obtain rfl := h11 _ rfl; rfl
            · (conv=>whnf);refine pw_skip ?_;(conv=>whnf);refine pw_ops ?_;refine po_all ?_;(conv=>whnf);cases h14;refine ⟨_, rfl, ?_⟩;refine Recast.trunc (nl rfl) ?_ ?_
              · repeat (first | exact .nil | refine .cons rfl (by first | exact OBnd.rwc (nl rfl) rfl | exact OBnd.tail (nl rfl) | trivial) ?_)
              · repeat (first | exact .nil | refine .cons rfl (by first | exact Bnd.ptr (nl rfl) | exact Bnd.vt (nl rfl) | exact Bnd.cl) ?_)
        · (conv=>whnf);refine pw_exit ?_;(conv=>whnf);cases h14;refine ⟨_, rfl, ?_⟩; rintro rfl;(conv=>whnf);exact ⟨_, rfl, ⟨.nil, rfl⟩⟩
    · intro r43 hr; have H := h10 _ hr;refine pwa ?_;(conv=>whnf);refine pw_ret ?_;(conv=>whnf);cases H; rfl

/-- guidevane/dispatch.openRevisions -/
noncomputable def f224 [LO]  (a0 : List (ByteArray × Int × Int)) : Option ((List (ByteArray × Int × Int)) × Int) :=
  obnd (f244 a0) fun (y1 : Int × Int) =>
  some (a0, y1.2)
set_option maxHeartbeats 1000000 in
theorem c224 [LO]  {a0 : List (ByteArray × Int × Int)} {x : (List (ByteArray × Int × Int)) × Int} (H : f224 a0 = some x) : ICalls E 224 [(VS 3 (a0.map e_SII))] AHeap.none fun v _ => v = (.tuple ⟨[(VS 3 (x.1.map e_SII)), (.int .i64 x.2)]⟩) := by
  refine ICalls.frz ?_;refine icalls_fn (pfnw ?_); unfold f224 at H;(conv=>whnf);refine pwa ?_;(conv=>whnf);refine pwa ?_;(conv=>whnf);obtain ⟨y1, h2, H⟩ := obnd_some H;refine (c244 h2).go ?_;(conv=>whnf);refine pwa ?_;(conv=>whnf);refine pw_ret ?_;(conv=>whnf);cases H; show ∃ D, Fz _ D 0 (.tuple ⟨[(VS 3 _), (.int .i64 y1.2)]⟩) _;exact ⟨fun _ => false, .tuplel (.cons .cl (.cons .cl (.nil)))⟩

/-- slices.Index[[]int,int] -/
noncomputable def f145 [LO]  (a0 : List Int) (a1 : Int) : Option Int :=
  obndS (
   oloop (τ := Int) (ρ := (Unit) ⊕ Int) (fun e5 =>
    oite ((ilt e5 ((a0.map eI).length : Int))) (
     ogrd ((ile 0 e5)) (
     obnd (a0[e5.toNat]?) fun (x10 : Int) =>
     oite ((ieq a1 x10)) (
      some (.inr (.inr (e5)))
       ) (
      some (.inl (IntKind.i64.wrap (e5 + (1 : Int))))
       )
     )
      ) (
     some (.inr (.inl ()))
      )
     ) (0 : Int)
    ) fun (_ : Unit) =>
  some (-1 : Int)
set_option maxHeartbeats 1000000 in
theorem c145 [LO]  {a0 : List Int} {a1 : Int} {x : Int} (H : f145 a0 a1 = some x) : ICalls E 145 [(VS 1 (a0.map eI)), (.int .i64 a1)] AHeap.none fun v _ => v = (.int .i64 x) := by
  refine icalls_fn (pfnw ?_); unfold f145 at H;(conv=>whnf);refine pwa ?_;(conv=>whnf);obtain ⟨r1, h2, h3, h4⟩ := obndS_some H;refine pw_joinS (ρ := Unit) (fun e => ⟨[], ⟨0, [], false⟩⟩) r1 ?_ ?_
  · refine pwa ?_;(conv=>whnf);refine pw_block ?_;refine pw_loop (τ := Int) (fun e => ⟨[(0, (VS 1 (a0.map eI))), (1, (.int .i64 a1)), (7, (.int .i64 ((a0.map eI).length : Int))), (8, (.int .i64 e))], ⟨0, [], false⟩⟩) h2 ?_ (fun _ => nl rfl) ?_
    · exact .sub' (nl rfl) (.cons rfl (.cons rfl (.cons rfl (.cons rfl .nil))))
    · intro e5 x6 h7;refine pwa ?_;(conv=>whnf);refine pw_seq ?_;refine pw_cond ?_;(conv=>whnf);refine pbr_oite h7 (fun g8 h7 => ?_) (fun g8 h7 => ?_)
      · (conv=>whnf);refine pw_skip ?_;(conv=>whnf);refine pw_seq ?_;refine pw_block ?_;refine pwa ?_;(conv=>whnf);refine pwa ?_;(conv=>whnf);refine pbr_ogrd h7 (fun g9 h7 => ?_);(conv=>whnf);refine nth_o (l := a0) h7 (fun x10 _ h7 => ?_);(conv=>whnf);refine pw_cond ?_;(conv=>whnf);refine pbr_oite h7 (fun g11 h7 => ?_) (fun g11 h7 => ?_)
        · (conv=>whnf);refine pwa ?_;(conv=>whnf);refine pw_ret ?_;(conv=>whnf);cases h7;refine ⟨_, rfl, ?_⟩; rintro rfl;(conv=>whnf);obtain rfl := h4 _ rfl; rfl
        · (conv=>whnf);refine pw_skip ?_;(conv=>whnf);refine pw_ops ?_;refine po_all ?_;(conv=>whnf);cases h7;refine ⟨_, rfl, ?_⟩;exact .sub' (nl rfl) (.cons rfl (.cons rfl (.cons rfl (.cons rfl .nil))))
      · (conv=>whnf);refine pw_exit ?_;(conv=>whnf);cases h7;refine ⟨_, rfl, ?_⟩; rintro rfl;(conv=>whnf);exact ⟨_, rfl, ⟨.nil, rfl⟩⟩
  · intro r14 hr; have H := h3 _ hr;refine pwa ?_;(conv=>whnf);refine pw_ret ?_;(conv=>whnf);cases H; rfl

/-- slices.Contains[[]int,int] -/
noncomputable def f138 [LO]  (a0 : List Int) (a1 : Int) : Option Bool :=
  obnd (f145 a0 a1) fun (y1 : Int) =>
  some (ile (0 : Int) y1)
set_option maxHeartbeats 1000000 in
theorem c138 [LO]  {a0 : List Int} {a1 : Int} {x : Bool} (H : f138 a0 a1 = some x) : ICalls E 138 [(VS 1 (a0.map eI)), (.int .i64 a1)] AHeap.none fun v _ => v = (.bool x) := by
  refine icalls_fn (pfnw ?_); unfold f138 at H;(conv=>whnf);refine pwa ?_;(conv=>whnf);refine pwa ?_;(conv=>whnf);obtain ⟨y1, h2, H⟩ := obnd_some H;refine (c145 h2).go ?_;(conv=>whnf);refine pw_ret ?_;(conv=>whnf);cases H; rfl

/-- (guidevane/dispatch.revisions).lateness -/
noncomputable def f226 [LO]  (a0 : List (ByteArray × Int × Int)) (a1 : List Int) (a2 : Int) : Option Int :=
  obnd (
   oloop (τ := Int × Int × Int) (ρ := Int) (fun e5 =>
    oite ((ilt e5.2.2 ((a1.map eI).length : Int))) (
     ogrd ((ile 0 e5.2.2)) (
     obnd (a1[e5.2.2.toNat]?) fun (x10 : Int) =>
     ogrd ((ile 0 x10)) (
     obnd (a0[x10.toNat]?) fun (x12 : ByteArray × Int × Int) =>
     obnd (a0[x10.toNat]?) fun (x13 : ByteArray × Int × Int) =>
     some (.inl (((IntKind.i64.wrap (e5.1 + x12.2.2)), (imax e5.2.1 (IntKind.i64.wrap ((IntKind.i64.wrap (e5.1 + x12.2.2)) - x13.2.1))), (IntKind.i64.wrap (e5.2.2 + (1 : Int))))))
     )
     )
      ) (
     some (.inr (e5.2.1))
      )
     ) ((a2, (-200000 : Int), (0 : Int)))
    ) fun (r1 : Int) =>
  some r1
set_option maxHeartbeats 1000000 in
theorem c226 [LO]  {a0 : List (ByteArray × Int × Int)} {a1 : List Int} {a2 : Int} {x : Int} (H : f226 a0 a1 a2 = some x) : ICalls E 226 [(VS 3 (a0.map e_SII)), (VS 1 (a1.map eI)), (.int .i64 a2)] AHeap.none fun v _ => v = (.int .i64 x) := by
  refine icalls_fn (pfnw ?_); unfold f226 at H;(conv=>whnf);refine pwa ?_;(conv=>whnf);refine pwa ?_;(conv=>whnf);obtain ⟨r1, h2, H⟩ := obnd_some H;refine pw_join (ρ := Int) (fun e => ⟨[(7, (.int .i64 e))], ⟨0, [], false⟩⟩) r1 ?_ ?_
  · refine pwa ?_;(conv=>whnf);refine pw_block ?_;refine pw_loop (τ := Int × Int × Int) (fun e => ⟨[(0, (VS 3 (a0.map e_SII))), (2, (.int .i64 e.1)), (7, (.int .i64 e.2.1)), (10, (VS 1 (a1.map eI))), (11, (.int .i64 ((a1.map eI).length : Int))), (12, (.int .i64 e.2.2))], ⟨0, [], false⟩⟩) h2 ?_ (fun _ => nl rfl) ?_
    · exact .sub' (nl rfl) (.cons rfl (.cons rfl (.cons rfl (.cons rfl (.cons rfl (.cons rfl .nil))))))
    · intro e5 x6 h7;refine pwa ?_;(conv=>whnf);refine pw_seq ?_;refine pw_cond ?_;(conv=>whnf);refine pbr_oite h7 (fun g8 h7 => ?_) (fun g8 h7 => ?_)
      · (conv=>whnf);refine pw_skip ?_;(conv=>whnf);refine pw_seq ?_;refine pw_block ?_;refine pwa ?_;(conv=>whnf);refine pbr_ogrd h7 (fun g9 h7 => ?_);(conv=>whnf);refine nth_o (l := a1) h7 (fun x10 _ h7 => ?_);(conv=>whnf);refine pwa ?_;(conv=>whnf);refine pbr_ogrd h7 (fun g11 h7 => ?_);(conv=>whnf);refine nth_o (l := a0) h7 (fun x12 _ h7 => ?_);(conv=>whnf);refine pw_ops ?_;refine po_all ?_;(conv=>whnf);refine pbr_t g11 ?_;(conv=>whnf);refine nth_o (l := a0) h7 (fun x13 _ h7 => ?_);(conv=>whnf);refine pw_ops ?_;refine po_all ?_;(conv=>whnf);cases h7;refine ⟨_, rfl, ?_⟩
        exact .sub' (nl rfl) (.cons rfl (.cons rfl (.cons rfl (.cons rfl (.cons rfl (.cons rfl .nil))))))
      · (conv=>whnf);refine pw_exit ?_;(conv=>whnf);cases h7;refine ⟨_, rfl, ?_⟩; rintro rfl;(conv=>whnf);exact ⟨(.cons rfl .nil), rfl⟩
  · refine pwa ?_;(conv=>whnf);refine pw_ret ?_;(conv=>whnf);cases H; rfl

/-- guidevane/dispatch.LatenessOf -/
noncomputable def f335 [LO]  (a0 : List (ByteArray × Int × Int)) (a1 : List Int) : Option (Int × Int) :=
  obnd (f224 a0) fun (y1 : (List (ByteArray × Int × Int)) × Int) =>
  obnd (f214 ((ieq ((a1.map eI).length : Int) ((a0.map e_SII).length : Int))) (10 : Int)) fun (y3 : Int) =>
  obnd (f213 ([y1.2, y3] : List Int)) fun (y5 : Int) =>
  oite ((!(ieq y5 (0 : Int)))) (
   some ((0 : Int), y5)
    ) (
   obndS (
    oloop (τ := Int) (ρ := (Unit) ⊕ (Int × Int)) (fun e12 =>
     oite ((ilt e12 ((a1.map eI).length : Int))) (
      ogrd ((ile 0 e12)) (
      obnd (a1[e12.toNat]?) fun (x17 : Int) =>
      obnd (oslH a1 e12) fun (m18 : List Int) =>
      obnd (f216 x17 (0 : Int) ((IntKind.i64.wrap (((a0.map e_SII).length : Int) - (1 : Int))))) fun (y21 : Bool) =>
      obnd (f214 y21 (6 : Int)) fun (y23 : Int) =>
      obnd (f138 m18 x17) fun (y25 : Bool) =>
      obnd (f214 (!y25) (23 : Int)) fun (y27 : Int) =>
      obnd (f213 ([y23, y27] : List Int)) fun (y29 : Int) =>
      oite ((!(ieq y29 (0 : Int)))) (
       some (.inr (.inr (((0 : Int), y29))))
        ) (
       some (.inl (IntKind.i64.wrap (e12 + (1 : Int))))
        )
      )
       ) (
      some (.inr (.inl ()))
       )
      ) (0 : Int)
     ) fun (_ : Unit) =>
   obnd (f226 y1.1 a1 (0 : Int)) fun (y35 : Int) =>
   some (y35, (0 : Int))
    )
set_option maxHeartbeats 1000000 in
theorem c335 [LO]  {a0 : List (ByteArray × Int × Int)} {a1 : List Int} {x : Int × Int} (H : f335 a0 a1 = some x) : ICalls E 335 [(VS 3 (a0.map e_SII)), (VS 1 (a1.map eI))] AHeap.none fun v _ => v = (.tuple ⟨[(.int .i64 x.1), (.int .i64 x.2)]⟩) := by
  refine icalls_fn (pfnw ?_); unfold f335 at H;(conv=>whnf);refine pwa ?_;(conv=>whnf);refine pwa ?_;(conv=>whnf);obtain ⟨y1, h2, H⟩ := obnd_some H;refine (c224 h2).go ?_;(conv=>whnf);refine pw_seq ?_;refine pwa ?_;(conv=>whnf);obtain ⟨y3, h4, H⟩ := obnd_some H;refine (c214 h4).go ?_;(conv=>whnf);obtain ⟨y5, h6, H⟩ := obnd_some H;refine ICalls.goW (c213 h6) (.cons (.vt _ _ _) .nil) ?_;(conv=>whnf);refine pwa ?_;(conv=>whnf);refine pw_cond ?_;(conv=>whnf);refine pbr_oite H (fun g7 H => ?_) (fun g7 H => ?_)
  · (conv=>whnf);refine pwa ?_;(conv=>whnf);refine pw_ret ?_;(conv=>whnf);cases H; rfl
  · (conv=>whnf);refine pw_skip ?_;(conv=>whnf);obtain ⟨r8, h9, h10, h11⟩ := obndS_some H;refine pw_joinS (ρ := Unit) (fun e => ⟨[(1, (VS 1 (a1.map eI))), (6, (VS 3 (y1.1.map e_SII)))], ⟨1, [(0, .tail 2 1)], false⟩⟩) r8 ?_ ?_
    · refine pwa ?_;(conv=>whnf);refine pw_block ?_;refine pw_loop (τ := Int) (fun e => ⟨[(0, (VS 3 (a0.map e_SII))), (1, (VS 1 (a1.map eI))), (6, (VS 3 (y1.1.map e_SII))), (28, (VS 1 (a1.map eI))), (29, (.int .i64 ((a1.map eI).length : Int))), (30, (.int .i64 e))], ⟨1, [(0, .tail 2 1)], false⟩⟩) h9 ?_ (fun _ => nl rfl) ?_
      · exact .sub' (nl rfl) (.cons rfl (.cons rfl (.cons rfl (.cons rfl (.cons rfl (.cons rfl .nil))))))
      · intro e12 x13 h14;refine pwa ?_;(conv=>whnf);refine pw_seq ?_;refine pw_cond ?_;(conv=>whnf);refine pbr_oite h14 (fun g15 h14 => ?_) (fun g15 h14 => ?_)
        · (conv=>whnf);refine pw_skip ?_;(conv=>whnf);refine pw_seq ?_;refine pw_block ?_;refine pwa ?_;(conv=>whnf);refine pbr_ogrd h14 (fun g16 h14 => ?_);(conv=>whnf);refine nth_o (l := a1) h14 (fun x17 _ h14 => ?_);(conv=>whnf);refine pw_sd ?_;(conv=>whnf);refine oslH_o (f := eI) h14 (fun m18 _ h14 h19 h20 => ?_);refine pbr_t (ile_t h19.1) ?_;(conv=>whnf);refine pbr_t (ile_t (by simpa only [List.length_map] using h19.2)) ?_; rw [h20];(conv=>whnf);refine ⟨?_, trivial⟩;(conv=>whnf);obtain ⟨y21, h22, h14⟩ := obnd_some h14;refine (c216 h22).go ?_;(conv=>whnf);refine ⟨by repeat (first | exact trivial | refine And.intro rfl ?_), ?_⟩
          (conv=>whnf);refine ⟨?_, trivial⟩;(conv=>whnf);obtain ⟨y23, h24, h14⟩ := obnd_some h14;refine (c214 h24).go ?_;(conv=>whnf);refine ⟨by repeat (first | exact trivial | refine And.intro rfl ?_), ?_⟩;(conv=>whnf);refine ⟨?_, trivial⟩;(conv=>whnf);obtain ⟨y25, h26, h14⟩ := obnd_some h14;refine (c138 h26).go ?_;(conv=>whnf);refine ⟨by repeat (first | exact trivial | refine And.intro rfl ?_), ?_⟩;(conv=>whnf);refine ⟨?_, trivial⟩;(conv=>whnf);obtain ⟨y27, h28, h14⟩ := obnd_some h14;refine (c214 h28).go ?_;(conv=>whnf);refine ⟨by repeat (first | exact trivial | refine And.intro rfl ?_), ?_⟩;(conv=>whnf)
          refine ⟨?_, trivial⟩;(conv=>whnf);refine ⟨by repeat (first | exact trivial | refine And.intro rfl ?_), ?_⟩;(conv=>whnf);refine ⟨?_, trivial⟩;(conv=>whnf);obtain ⟨y29, h30, h14⟩ := obnd_some h14;refine ICalls.goW (c213 h30) (.cons (.vt _ _ _) .nil) ?_;(conv=>whnf);refine ⟨by repeat (first | exact trivial | refine And.intro rfl ?_), ?_⟩;(conv=>whnf);refine pwa ?_;(conv=>whnf);refine pw_cond ?_;(conv=>whnf);refine pbr_oite h14 (fun g31 h14 => ?_) (fun g31 h14 => ?_)
          · (conv=>whnf);refine pwa ?_;(conv=>whnf);refine pw_ret ?_;(conv=>whnf);cases h14;refine ⟨_, rfl, ?_⟩; rintro rfl;(conv=>whnf);obtain rfl := h11 _ rfl; rfl
          · (conv=>whnf);refine pw_skip ?_;(conv=>whnf);refine pw_ops ?_;refine po_all ?_;(conv=>whnf);cases h14;refine ⟨_, rfl, ?_⟩;refine Recast.trunc (nl rfl) ?_ ?_
            · repeat (first | exact .nil | refine .cons rfl (by first | exact OBnd.rwc (nl rfl) rfl | exact OBnd.tail (nl rfl) | trivial) ?_)
            · repeat (first | exact .nil | refine .cons rfl (by first | exact Bnd.ptr (nl rfl) | exact Bnd.vt (nl rfl) | exact Bnd.cl) ?_)
        · (conv=>whnf);refine pw_exit ?_;(conv=>whnf);cases h14;refine ⟨_, rfl, ?_⟩; rintro rfl;(conv=>whnf);exact ⟨_, rfl, ⟨(.cons rfl (.cons rfl .nil)), rfl⟩⟩
    · intro r34 hr; have H := h10 _ hr;refine pwa ?_;(conv=>whnf);obtain ⟨y35, h36, H⟩ := obnd_some H;refine (c226 h36).go ?_;(conv=>whnf);refine pw_ret ?_;(conv=>whnf);cases H; rfl

/-- (guidevane/dispatch.revisions).every -/
noncomputable def f225 [LO]  (a0 : List (ByteArray × Int × Int)) : Option ((List Int)) :=
  obnd (
   oloop (τ := (List Int) × Int) (ρ := (List Int)) (fun e5 =>
    oite ((ilt e5.2 ((a0.map e_SII).length : Int))) (
     ogrd (fits 8 (e5.1.length + ([e5.2] : List Int).length)) (
     some (.inl (((e5.1 ++ ([e5.2] : List Int)), (IntKind.i64.wrap (e5.2 + (1 : Int))))))
     )
      ) (
     some (.inr (e5.1))
      )
     ) ((([] : List Int), (0 : Int)))
    ) fun (r1 : (List Int)) =>
  some r1
set_option maxHeartbeats 1000000 in
theorem c225 [LO]  {a0 : List (ByteArray × Int × Int)} {x : (List Int)} (H : f225 a0 = some x) : ICalls E 225 [(VS 3 (a0.map e_SII))] AHeap.none fun v _ => v = (VS 1 (x.map eI)) := by
  refine ICalls.frz ?_;refine icalls_fn (pfnw ?_); unfold f225 at H;(conv=>whnf);refine pwa ?_;(conv=>whnf);refine pwa ?_;(conv=>whnf);obtain ⟨r1, h2, H⟩ := obnd_some H;refine pw_join (ρ := (List Int)) (fun e => ⟨[(3, (VT 1 (e.map eI) 0))], ⟨1, [(0, .tail (e.map eI).length 1)], false⟩⟩) r1 ?_ ?_
  · refine pwa ?_;(conv=>whnf);refine pw_block ?_;refine pw_loop (τ := (List Int) × Int) (fun e => ⟨[(3, (VT 1 (e.1.map eI) 0)), (6, (.int .i64 ((a0.map e_SII).length : Int))), (7, (.int .i64 e.2))], ⟨1, [(0, .tail (e.1.map eI).length 1)], false⟩⟩) h2 ?_ (fun _ => nl rfl) ?_
    · exact (Recast.nilTs 1 (nl rfl) (.turn rfl (.same rfl (.same rfl .nil))))
    · intro e5 x6 h7;refine pwa ?_;(conv=>whnf);refine pw_seq ?_;refine pw_cond ?_;(conv=>whnf);refine pbr_oite h7 (fun g8 h7 => ?_) (fun g8 h7 => ?_)
      · (conv=>whnf);refine pw_skip ?_;(conv=>whnf);refine pw_seq ?_;refine pw_block ?_;refine pwa ?_;(conv=>whnf);refine pw_ops ?_;refine po_all ?_;(conv=>whnf);refine app_o (l := e5.1) (m := ([e5.2] : List Int)) (f := eI) h7 (by rfl) (by rfl) (by rfl) (fun h7 => ?_);(conv=>whnf);refine pw_ops ?_;refine po_all ?_;(conv=>whnf);cases h7;refine ⟨_, rfl, ?_⟩;refine Recast.trunc (nl rfl) ?_ ?_
        · repeat (first | exact .nil | refine .cons rfl (by first | exact OBnd.rwc (nl rfl) rfl | exact OBnd.tail (nl rfl) | trivial) ?_)
        · repeat (first | exact .nil | refine .cons rfl (by first | exact Bnd.ptr (nl rfl) | exact Bnd.vt (nl rfl) | exact Bnd.cl) ?_)
      · (conv=>whnf);refine pw_exit ?_;(conv=>whnf);cases h7;refine ⟨_, rfl, ?_⟩; rintro rfl;(conv=>whnf);exact ⟨(.cons rfl .nil), rfl⟩
  · refine pwa ?_;(conv=>whnf);refine pw_ret ?_;(conv=>whnf);cases H; show ∃ D, Fz _ D 0 (VT 1 _ 0) _;exact ⟨fun _ => false, .vtc⟩

/-- guidevane/dispatch.BestOrder -/
noncomputable def l210_1 [LO] (e14 : (List Int) × (List Int) × Int) (y1 : (List (ByteArray × Int × Int)) × Int) (y8 : Int) (e18 : Int) : Option ((Int) ⊕ (((List Int) × (List Int) × Int) ⊕ ((List Int)))) :=
  oite ((ilt e18 ((e14.1.map eI).length : Int))) (
   ogrd ((ile 0 e18)) (
   obnd (e14.1[e18.toNat]?) fun (x23 : Int) =>
   obnd (f73 e14.1) fun (y24 : (List Int)) =>
   ogrd (Nat.beq y24.length y24.length) (
   obnd (f228 y24 e18 (IntKind.i64.wrap (e18 + (1 : Int)))) fun (y27 : (List Int)) =>
   obnd (f227 y1.1 y27) fun (y29 : (List Int)) =>
   ogrd (fits 8 (([x23] : List Int).length + y29.length)) (
   obnd (f226 y1.1 (([x23] : List Int) ++ y29) e14.2.2) fun (y31 : Int) =>
   oite ((ile y31 y8)) (
    ogrd ((ile 0 x23)) (
    obnd (y1.1[x23.toNat]?) fun (x35 : ByteArray × Int × Int) =>
    ogrd (fits 8 (e14.2.1.length + ([x23] : List Int).length)) (
    some (.inr (.inl ((y27, (e14.2.1 ++ ([x23] : List Int)), (IntKind.i64.wrap (e14.2.2 + x35.2.2))))))
    )
    )
     ) (
    some (.inl (IntKind.i64.wrap (e18 + (1 : Int))))
     )
   )
   )
   )
    ) (
   some (.inr (.inl (e14.1, e14.2.1, e14.2.2)))
    )
noncomputable def l210_2 [LO] (y1 : (List (ByteArray × Int × Int)) × Int) (y8 : Int) (e14 : (List Int) × (List Int) × Int) : Option (((List Int) × (List Int) × Int) ⊕ ((List Int))) :=
  oite ((ilt (0 : Int) ((e14.1.map eI).length : Int))) (
   oloop (τ := Int) (ρ := ((List Int) × (List Int) × Int) ⊕ ((List Int))) (l210_1 e14 y1 y8) (0 : Int)
    ) (
   some (.inr (e14.2.1))
    )
noncomputable def f210 [LO]  (a0 : List (ByteArray × Int × Int)) : Option ((List Int) × Int × Int) :=
  obnd (f224 a0) fun (y1 : (List (ByteArray × Int × Int)) × Int) =>
  oite ((!(ieq y1.2 (0 : Int)))) (
   some (([] : List Int), (0 : Int), y1.2)
    ) (
   obnd (f225 y1.1) fun (y4 : (List Int)) =>
   obnd (f227 y1.1 y4) fun (y6 : (List Int)) =>
   obnd (f226 y1.1 y6 (0 : Int)) fun (y8 : Int) =>
   obnd (
    oloop (τ := (List Int) × (List Int) × Int) (ρ := (List Int)) (l210_2 y1 y8) ((y4, ([] : List Int), (0 : Int)))
     ) fun (r10 : (List Int)) =>
   some (r10, y8, (0 : Int))
    )
set_option maxHeartbeats 1000000 in
theorem c210 [LO]  {a0 : List (ByteArray × Int × Int)} {x : (List Int) × Int × Int} (H : f210 a0 = some x) : ICalls E 210 [(VS 3 (a0.map e_SII))] AHeap.none fun v _ => v = (.tuple ⟨[(VS 1 (x.1.map eI)), (.int .i64 x.2.1), (.int .i64 x.2.2)]⟩) := by
  refine ICalls.frz ?_;refine icalls_fn (pfnw ?_); unfold f210 at H;(conv=>whnf);refine pwa ?_;(conv=>whnf);refine pwa ?_;(conv=>whnf);obtain ⟨y1, h2, H⟩ := obnd_some H;refine (c224 h2).go ?_;(conv=>whnf);refine pw_seq ?_;refine pwa ?_;(conv=>whnf);refine pw_cond ?_;(conv=>whnf);refine pbr_oite H (fun g3 H => ?_) (fun g3 H => ?_)
  · (conv=>whnf);refine pwa ?_;(conv=>whnf);refine pw_ret ?_;(conv=>whnf);cases H; show ∃ D, Fz _ D 0 (.tuple ⟨[(.slice none 0 0), (.int .i64 0), (.int .i64 y1.2)]⟩) _;exact ⟨fun _ => false, .tuplel (.cons (.nil _) (.cons .cl (.cons .cl (.nil))))⟩
  · (conv=>whnf);refine pw_skip ?_;(conv=>whnf);refine pwa ?_;(conv=>whnf);obtain ⟨y4, h5, H⟩ := obnd_some H;refine (c225 h5).go ?_;(conv=>whnf);refine pwa ?_;(conv=>whnf);obtain ⟨y6, h7, H⟩ := obnd_some H;refine (c227 h7).go ?_;(conv=>whnf);obtain ⟨y8, h9, H⟩ := obnd_some H;refine (c226 h9).go ?_;(conv=>whnf);refine pwa ?_;(conv=>whnf);refine pwa ?_;(conv=>whnf);obtain ⟨r10, h11, H⟩ := obnd_some H;refine pw_join (ρ := (List Int)) (fun e => ⟨[(8, (.int .i64 y8)), (9, (VT 1 (e.map eI) 0))], ⟨1, [(0, .tail (e.map eI).length 1)], false⟩⟩) r10 ?_ ?_
    · refine pw_block ?_;refine pw_loop (τ := (List Int) × (List Int) × Int) (fun e => ⟨[(5, (VS 3 (y1.1.map e_SII))), (7, (VS 1 (e.1.map eI))), (8, (.int .i64 y8)), (9, (VT 1 (e.2.1.map eI) 0)), (10, (.int .i64 e.2.2))], ⟨1, [(0, .tail (e.2.1.map eI).length 1)], false⟩⟩) h11 ?_ (fun _ => nl rfl) ?_
      · exact (Recast.nilTs 1 (nl rfl) (.same rfl (.same rfl (.same rfl (.turn rfl (.same rfl .nil))))))
      · intro e14 x15 h16; unfold l210_2 at h16;refine pw_seq ?_;refine pwa ?_;(conv=>whnf);refine pw_cond ?_;(conv=>whnf);refine pbr_oite h16 (fun g17 h16 => ?_) (fun g17 h16 => ?_)
        · (conv=>whnf);refine pw_skip ?_;(conv=>whnf);refine pw_block ?_;refine pwa ?_;(conv=>whnf);refine pw_block ?_;refine pw_loop (τ := Int) (fun e => ⟨[(5, (VS 3 (y1.1.map e_SII))), (7, (VS 1 (e14.1.map eI))), (8, (.int .i64 y8)), (9, (VT 1 (e14.2.1.map eI) 0)), (10, (.int .i64 e14.2.2)), (32, (VS 1 (e14.1.map eI))), (33, (.int .i64 ((e14.1.map eI).length : Int))), (34, (.int .i64 e))], ⟨1, [(0, .tail (e14.2.1.map eI).length 1)], false⟩⟩) h16 ?_ (fun _ => nl rfl) ?_
          · exact .sub' (nl rfl) (.cons rfl (.cons rfl (.cons rfl (.cons rfl (.cons rfl (.cons rfl (.cons rfl (.cons rfl .nil))))))))
          · intro e18 x19 h20; unfold l210_1 at h20;refine pwa ?_;(conv=>whnf);refine pw_seq ?_;refine pw_cond ?_;(conv=>whnf);refine pbr_oite h20 (fun g21 h20 => ?_) (fun g21 h20 => ?_)
            · (conv=>whnf);refine pw_skip ?_;(conv=>whnf);refine pw_seq ?_;refine pw_block ?_;refine pwa ?_;(conv=>whnf);refine pbr_ogrd h20 (fun g22 h20 => ?_);(conv=>whnf);refine nth_o (l := e14.1) h20 (fun x23 _ h20 => ?_);(conv=>whnf);refine pwa ?_;(conv=>whnf);obtain ⟨y24, h25, h20⟩ := obnd_some h20;refine ICalls.goN (f := eI) (c73 h25) (.cons (.refl _) .nil) ?_;(conv=>whnf);obtain ⟨g26, h20⟩ := ogrd_some h20;obtain ⟨y27, h28, h20⟩ := obnd_some h20;refine c228 h28 rfl g26 ?_;(conv=>whnf);refine pwa ?_;(conv=>whnf);obtain ⟨y29, h30, h20⟩ := obnd_some h20;refine (c227 h30).go ?_
              (conv=>whnf);refine app_o (l := ([x23] : List Int)) (m := y29) (f := eI) h20 (by rfl) (by rfl) (by rfl) (fun h20 => ?_);(conv=>whnf);obtain ⟨y31, h32, h20⟩ := obnd_some h20;refine ICalls.goW (c226 h32) (.cons (.refl _) (.cons (.vt _ _ _) (.cons (.refl _) .nil))) ?_;(conv=>whnf);refine pw_cond ?_;(conv=>whnf);refine pbr_oite h20 (fun g33 h20 => ?_) (fun g33 h20 => ?_)
              · (conv=>whnf);refine pw_sd ?_;(conv=>whnf);refine pbr_ogrd h20 (fun g34 h20 => ?_);(conv=>whnf);refine nth_o (l := y1.1) h20 (fun x35 _ h20 => ?_);(conv=>whnf);refine ⟨?_, trivial⟩;(conv=>whnf);refine ⟨by repeat (first | exact trivial | refine And.intro rfl ?_), ?_⟩;(conv=>whnf);refine ⟨?_, trivial⟩;(conv=>whnf);refine app_o (l := e14.2.1) (m := ([x23] : List Int)) (f := eI) h20 (by rfl) (by rfl) (by rfl) (fun h20 => ?_);(conv=>whnf);refine ⟨by repeat (first | exact trivial | refine And.intro rfl ?_), ?_⟩;(conv=>whnf);refine ⟨?_, trivial⟩;(conv=>whnf);refine ⟨by repeat (first | exact trivial | refine And.intro rfl ?_), ?_⟩
                (conv=>whnf);refine ⟨?_, trivial⟩;(conv=>whnf);refine ⟨by repeat (first | exact trivial | refine And.intro rfl ?_), ?_⟩;(conv=>whnf);refine pw_exit ?_;(conv=>whnf);cases h20;refine ⟨_, rfl, ?_⟩; rintro rfl;(conv=>whnf);refine ⟨_, rfl, ?_⟩;refine Recast.trunc (nl rfl) ?_ ?_
                · repeat (first | exact .nil | refine .cons rfl (by first | exact OBnd.rwc (nl rfl) rfl | exact OBnd.tail (nl rfl) | trivial) ?_)
                · repeat (first | exact .nil | refine .cons rfl (by first | exact Bnd.ptr (nl rfl) | exact Bnd.vt (nl rfl) | exact Bnd.cl) ?_)
              · (conv=>whnf);refine pw_skip ?_;(conv=>whnf);refine pw_ops ?_;refine po_all ?_;(conv=>whnf);cases h20;refine ⟨_, rfl, ?_⟩;refine Recast.trunc (nl rfl) ?_ ?_
                · repeat (first | exact .nil | refine .cons rfl (by first | exact OBnd.rwc (nl rfl) rfl | exact OBnd.tail (nl rfl) | trivial) ?_)
                · repeat (first | exact .nil | refine .cons rfl (by first | exact Bnd.ptr (nl rfl) | exact Bnd.vt (nl rfl) | exact Bnd.cl) ?_)
            · (conv=>whnf);refine pw_exit ?_;(conv=>whnf);cases h20;refine ⟨_, rfl, ?_⟩; rintro rfl;(conv=>whnf);refine ⟨_, rfl, ?_⟩;exact .sub' (nl rfl) (.cons rfl (.cons rfl (.cons rfl (.cons rfl (.cons rfl .nil)))))
        · (conv=>whnf);refine pw_exit ?_;(conv=>whnf);cases h16;refine ⟨_, rfl, ?_⟩; rintro rfl;(conv=>whnf);exact ⟨(.cons rfl (.cons rfl .nil)), rfl⟩
    · refine pwa ?_;(conv=>whnf);refine pw_ret ?_;(conv=>whnf);cases H; show ∃ D, Fz _ D 0 (.tuple ⟨[(VT 1 _ 0), (.int .i64 y8), (.int .i64 0)]⟩) _;exact ⟨fun _ => false, .tuplel (.cons .vtc (.cons .cl (.cons .cl (.nil))))⟩

/-- (guidevane/dispatch.revisions).bound -/
noncomputable def f362 [LO]  (a0 : List (ByteArray × Int × Int)) (a1 : List Int) : Option Int :=
  obnd (
   oloop (τ := Int × Int × Int) (ρ := Int × Int) (fun e5 =>
    oite ((ilt e5.2.2 ((a1.map eI).length : Int))) (
     ogrd ((ile 0 e5.2.2)) (
     obnd (a1[e5.2.2.toNat]?) fun (x10 : Int) =>
     ogrd ((ile 0 x10)) (
     obnd (a0[x10.toNat]?) fun (x12 : ByteArray × Int × Int) =>
     obnd (a0[x10.toNat]?) fun (x13 : ByteArray × Int × Int) =>
     some (.inl (((IntKind.i64.wrap (e5.1 + x12.2.2)), (imax e5.2.1 x13.2.1), (IntKind.i64.wrap (e5.2.2 + (1 : Int))))))
     )
     )
      ) (
     some (.inr ((e5.1, e5.2.1)))
      )
     ) (((0 : Int), (0 : Int), (0 : Int)))
    ) fun (r1 : Int × Int) =>
  some (IntKind.i64.wrap (r1.1 - r1.2))
set_option maxHeartbeats 1000000 in
theorem c362 [LO]  {a0 : List (ByteArray × Int × Int)} {a1 : List Int} {x : Int} (H : f362 a0 a1 = some x) : ICalls E 362 [(VS 3 (a0.map e_SII)), (VS 1 (a1.map eI))] AHeap.none fun v _ => v = (.int .i64 x) := by
  refine icalls_fn (pfnw ?_); unfold f362 at H;(conv=>whnf);refine pwa ?_;(conv=>whnf);refine pwa ?_;(conv=>whnf);obtain ⟨r1, h2, H⟩ := obnd_some H;refine pw_join (ρ := Int × Int) (fun e => ⟨[(5, (.int .i64 e.1)), (6, (.int .i64 e.2))], ⟨0, [], false⟩⟩) r1 ?_ ?_
  · refine pwa ?_;(conv=>whnf);refine pw_block ?_;refine pw_loop (τ := Int × Int × Int) (fun e => ⟨[(0, (VS 3 (a0.map e_SII))), (5, (.int .i64 e.1)), (6, (.int .i64 e.2.1)), (9, (VS 1 (a1.map eI))), (10, (.int .i64 ((a1.map eI).length : Int))), (11, (.int .i64 e.2.2))], ⟨0, [], false⟩⟩) h2 ?_ (fun _ => nl rfl) ?_
    · exact .sub' (nl rfl) (.cons rfl (.cons rfl (.cons rfl (.cons rfl (.cons rfl (.cons rfl .nil))))))
    · intro e5 x6 h7;refine pwa ?_;(conv=>whnf);refine pw_seq ?_;refine pw_cond ?_;(conv=>whnf);refine pbr_oite h7 (fun g8 h7 => ?_) (fun g8 h7 => ?_)
      · (conv=>whnf);refine pw_skip ?_;(conv=>whnf);refine pw_seq ?_;refine pw_block ?_;refine pwa ?_;(conv=>whnf);refine pbr_ogrd h7 (fun g9 h7 => ?_);(conv=>whnf);refine nth_o (l := a1) h7 (fun x10 _ h7 => ?_);(conv=>whnf);refine pw_draw ?_;(conv=>whnf);refine pbr_ogrd h7 (fun g11 h7 => ?_);(conv=>whnf);refine nth_o (l := a0) h7 (fun x12 _ h7 => ?_);(conv=>whnf);refine pbr_t g11 ?_;(conv=>whnf);refine nth_o (l := a0) h7 (fun x13 _ h7 => ?_);(conv=>whnf);refine ⟨?_, trivial⟩;(conv=>whnf);refine ⟨by repeat (first | exact trivial | refine And.intro rfl ?_), ?_⟩;(conv=>whnf);refine ⟨?_, trivial⟩
        (conv=>whnf);refine ⟨by repeat (first | exact trivial | refine And.intro rfl ?_), ?_⟩;(conv=>whnf);refine pw_ops ?_;refine po_all ?_;(conv=>whnf);cases h7;refine ⟨_, rfl, ?_⟩;exact .sub' (nl rfl) (.cons rfl (.cons rfl (.cons rfl (.cons rfl (.cons rfl (.cons rfl .nil))))))
      · (conv=>whnf);refine pw_exit ?_;(conv=>whnf);cases h7;refine ⟨_, rfl, ?_⟩; rintro rfl;(conv=>whnf);exact ⟨(.cons rfl (.cons rfl .nil)), rfl⟩
  · refine pwa ?_;(conv=>whnf);refine pw_ret ?_;(conv=>whnf);cases H; rfl

/-- cmp.Compare[int] -/
noncomputable def f108  (a0 : Int) (a1 : Int) : Option Int :=
  oite ((!(ieq a0 a0))) (
   oite ((!(ieq a1 a1))) (
    some (0 : Int)
     ) (
    some (-1 : Int)
     )
    ) (
   oite ((!(ieq a1 a1))) (
    some (1 : Int)
     ) (
    oite ((ilt a0 a1)) (
     some (-1 : Int)
      ) (
     oite ((ilt a1 a0)) (
      some (1 : Int)
       ) (
      some (0 : Int)
       )
      )
     )
    )
set_option maxHeartbeats 1000000 in
theorem c108  {a0 : Int} {a1 : Int} {x : Int} (H : f108 a0 a1 = some x) : ICalls E 108 [(.int .i64 a0), (.int .i64 a1)] AHeap.none fun v _ => v = (.int .i64 x) := by
  refine icalls_fn (pfnw ?_); unfold f108 at H;(conv=>whnf);refine pwa ?_;(conv=>whnf);refine pwa ?_;(conv=>whnf);refine pcalls_in ?_;(conv=>whnf);refine pwa ?_;(conv=>whnf);refine pwa ?_;(conv=>whnf);refine pw_ret ?_;(conv=>whnf);refine pwa ?_;(conv=>whnf);refine pcalls_in ?_;(conv=>whnf);refine pwa ?_;(conv=>whnf);refine pwa ?_;(conv=>whnf);refine pw_ret ?_;(conv=>whnf);refine pw_seq ?_;refine pwa ?_;(conv=>whnf);refine pw_cond ?_;(conv=>whnf);refine pbr_oite H (fun g1 H => ?_) (fun g1 H => ?_)
  · (conv=>whnf);refine pw_seq ?_;refine pwa ?_;(conv=>whnf);refine pw_cond ?_;(conv=>whnf);refine pbr_oite H (fun g2 H => ?_) (fun g2 H => ?_)
    · (conv=>whnf);refine pwa ?_;(conv=>whnf);refine pw_ret ?_;(conv=>whnf);cases H; rfl
    · (conv=>whnf);refine pw_skip ?_;(conv=>whnf);refine pwa ?_;(conv=>whnf);refine pw_ret ?_;(conv=>whnf);cases H; rfl
  · (conv=>whnf);refine pw_skip ?_;(conv=>whnf);refine pw_seq ?_;refine pwa ?_;(conv=>whnf);refine pw_cond ?_;(conv=>whnf);refine pbr_oite H (fun g3 H => ?_) (fun g3 H => ?_)
    · (conv=>whnf);refine pwa ?_;(conv=>whnf);refine pw_ret ?_;(conv=>whnf);cases H; rfl
    · (conv=>whnf);refine pw_skip ?_;(conv=>whnf);refine pw_seq ?_;refine pwa ?_;(conv=>whnf);refine pw_cond ?_;(conv=>whnf);refine pbr_oite H (fun g4 H => ?_) (fun g4 H => ?_)
      · (conv=>whnf);refine pwa ?_;(conv=>whnf);refine pw_ret ?_;(conv=>whnf);cases H; rfl
      · (conv=>whnf);refine pw_skip ?_;(conv=>whnf);refine pw_seq ?_;refine pwa ?_;(conv=>whnf);refine pw_cond ?_;(conv=>whnf);refine pbr_oite H (fun g5 H => ?_) (fun g5 H => ?_)
        · (conv=>whnf);refine pwa ?_;(conv=>whnf);refine pw_ret ?_;(conv=>whnf);cases H; rfl
        · (conv=>whnf);refine pw_skip ?_;(conv=>whnf);refine pwa ?_;(conv=>whnf);refine pw_ret ?_;(conv=>whnf);cases H; rfl

/-- slices.Compare[[]int,int] -/
noncomputable def f363 [LO]  (a0 : List Int) (a1 : List Int) : Option Int :=
  obndS (
   oloop (τ := Int) (ρ := (Unit) ⊕ Int) (fun e5 =>
    oite ((ilt e5 ((a0.map eI).length : Int))) (
     ogrd ((ile 0 e5)) (
     obnd (a0[e5.toNat]?) fun (x10 : Int) =>
     oite ((ile ((a1.map eI).length : Int) e5)) (
      some (.inr (.inr ((1 : Int))))
       ) (
      obnd (a1[e5.toNat]?) fun (x13 : Int) =>
      obnd (f108 x10 x13) fun (y14 : Int) =>
      oite ((!(ieq y14 (0 : Int)))) (
       some (.inr (.inr (y14)))
        ) (
       some (.inl (IntKind.i64.wrap (e5 + (1 : Int))))
        )
       )
     )
      ) (
     some (.inr (.inl ()))
      )
     ) (0 : Int)
    ) fun (_ : Unit) =>
  oite ((ilt ((a0.map eI).length : Int) ((a1.map eI).length : Int))) (
   some (-1 : Int)
    ) (
   some (0 : Int)
    )
set_option maxHeartbeats 1000000 in
theorem c363 [LO]  {a0 : List Int} {a1 : List Int} {x : Int} (H : f363 a0 a1 = some x) : ICalls E 363 [(VS 1 (a0.map eI)), (VS 1 (a1.map eI))] AHeap.none fun v _ => v = (.int .i64 x) := by
  refine icalls_fn (pfnw ?_); unfold f363 at H;(conv=>whnf);refine pwa ?_;(conv=>whnf);obtain ⟨r1, h2, h3, h4⟩ := obndS_some H;refine pw_joinS (ρ := Unit) (fun e => ⟨[(0, (VS 1 (a0.map eI))), (1, (VS 1 (a1.map eI)))], ⟨0, [], false⟩⟩) r1 ?_ ?_
  · refine pwa ?_;(conv=>whnf);refine pw_block ?_;refine pw_loop (τ := Int) (fun e => ⟨[(0, (VS 1 (a0.map eI))), (1, (VS 1 (a1.map eI))), (9, (VS 1 (a0.map eI))), (10, (.int .i64 ((a0.map eI).length : Int))), (11, (.int .i64 e))], ⟨0, [], false⟩⟩) h2 ?_ (fun _ => nl rfl) ?_
    · exact .sub' (nl rfl) (.cons rfl (.cons rfl (.cons rfl (.cons rfl (.cons rfl .nil)))))
    · intro e5 x6 h7;refine pwa ?_;(conv=>whnf);refine pw_seq ?_;refine pw_cond ?_;(conv=>whnf);refine pbr_oite h7 (fun g8 h7 => ?_) (fun g8 h7 => ?_)
      · (conv=>whnf);refine pw_skip ?_;(conv=>whnf);refine pw_seq ?_;refine pw_block ?_;refine pwa ?_;(conv=>whnf);refine pbr_ogrd h7 (fun g9 h7 => ?_);(conv=>whnf);refine nth_o (l := a0) h7 (fun x10 _ h7 => ?_);(conv=>whnf);refine pw_seq ?_;refine pwa ?_;(conv=>whnf);refine pw_cond ?_;(conv=>whnf);refine pbr_oite h7 (fun g11 h7 => ?_) (fun g11 h7 => ?_)
        · (conv=>whnf);refine pwa ?_;(conv=>whnf);refine pw_ret ?_;(conv=>whnf);cases h7;refine ⟨_, rfl, ?_⟩; rintro rfl;(conv=>whnf);obtain rfl := h4 _ rfl; rfl
        · (conv=>whnf);refine pw_skip ?_;(conv=>whnf);refine pwa ?_;(conv=>whnf);refine pbr_t g9 ?_;(conv=>whnf);refine nth_o (l := a1) h7 (fun x13 _ h7 => ?_);(conv=>whnf);refine pwa ?_;(conv=>whnf);obtain ⟨y14, h15, h7⟩ := obnd_some h7;refine (c108 h15).go ?_;(conv=>whnf);refine pwa ?_;(conv=>whnf);refine pw_cond ?_;(conv=>whnf);refine pbr_oite h7 (fun g16 h7 => ?_) (fun g16 h7 => ?_)
          · (conv=>whnf);refine pwa ?_;(conv=>whnf);refine pw_ret ?_;(conv=>whnf);cases h7;refine ⟨_, rfl, ?_⟩; rintro rfl;(conv=>whnf);obtain rfl := h4 _ rfl; rfl
          · (conv=>whnf);refine pw_skip ?_;(conv=>whnf);refine pw_ops ?_;refine po_all ?_;(conv=>whnf);cases h7;refine ⟨_, rfl, ?_⟩;exact .sub' (nl rfl) (.cons rfl (.cons rfl (.cons rfl (.cons rfl (.cons rfl .nil)))))
      · (conv=>whnf);refine pw_exit ?_;(conv=>whnf);cases h7;refine ⟨_, rfl, ?_⟩; rintro rfl;(conv=>whnf);exact ⟨_, rfl, ⟨(.cons rfl (.cons rfl .nil)), rfl⟩⟩
  · intro r19 hr; have H := h3 _ hr;refine pw_seq ?_;refine pwa ?_;(conv=>whnf);refine pw_cond ?_;(conv=>whnf);refine pbr_oite H (fun g20 H => ?_) (fun g20 H => ?_)
    · (conv=>whnf);refine pwa ?_;(conv=>whnf);refine pw_ret ?_;(conv=>whnf);cases H; rfl
    · (conv=>whnf);refine pw_skip ?_;(conv=>whnf);refine pwa ?_;(conv=>whnf);refine pw_ret ?_;(conv=>whnf);cases H; rfl

/-- guidevane/dispatch.GroupOf -/
noncomputable def l336_1 [LO] (y1 : (List (ByteArray × Int × Int)) × Int) (e14 : (List Int) × Int) (e22 : (List Int) × Int) : Option (((List Int) × Int) ⊕ ((List Int))) :=
  oite ((ilt e22.2 ((y1.1.map e_SII).length : Int))) (
   ogrd (!((ilt e22.2 0))) (
   oite ((ieq (IntKind.i64.wrap (BitVec.ofInt (IntKind.bits .i64) (e14.2.fdiv (2 ^ (min e22.2.toNat (IntKind.bits .i64)))) &&& BitVec.ofInt (IntKind.bits .i64) (1 : Int)).toNat) (1 : Int))) (
    ogrd (fits 8 (e22.1.length + ([e22.2] : List Int).length)) (
    some (.inl (((e22.1 ++ ([e22.2] : List Int)), (IntKind.i64.wrap (e22.2 + (1 : Int))))))
    )
     ) (
    some (.inl (e22.1, (IntKind.i64.wrap (e22.2 + (1 : Int)))))
     )
   )
    ) (
   some (.inr (e22.1))
    )
noncomputable def l336_2 [LO] (y1 : (List (ByteArray × Int × Int)) × Int) (y8 : Int) (e14 : (List Int) × Int) : Option (((List Int) × Int) ⊕ ((List Int))) :=
  oite ((ilt e14.2 (IntKind.i64.wrap ((1 : Int) * 2 ^ (min ((y1.1.map e_SII).length : Int).toNat (IntKind.bits .i64)))))) (
   obnd (
    oloop (τ := (List Int) × Int) (ρ := (List Int)) (l336_1 y1 e14) ((([] : List Int), (0 : Int)))
     ) fun (r18 : (List Int)) =>
   obnd (f362 y1.1 r18) fun (y29 : Int) =>
   oite ((!(ieq y29 y8))) (
    some (.inl (e14.1, (IntKind.i64.wrap (e14.2 + (1 : Int)))))
     ) (
    oite e14.1.isEmpty (
     ogrd (!r18.isEmpty) (
     some (.inl (r18, (IntKind.i64.wrap (e14.2 + (1 : Int)))))
     )
      ) (
     oite ((ilt ((r18.map eI).length : Int) ((e14.1.map eI).length : Int))) (
      ogrd (!r18.isEmpty) (
      some (.inl (r18, (IntKind.i64.wrap (e14.2 + (1 : Int)))))
      )
       ) (
      obnd (
       oite ((ieq ((r18.map eI).length : Int) ((e14.1.map eI).length : Int))) (
        obnd (f363 r18 e14.1) fun (y40 : Int) =>
        some (ilt y40 (0 : Int))
         ) (
        some false
         )
        ) fun (r37 : Bool) =>
      oite r37 (
       ogrd (!r18.isEmpty) (
       some (.inl (r18, (IntKind.i64.wrap (e14.2 + (1 : Int)))))
       )
        ) (
       some (.inl (e14.1, (IntKind.i64.wrap (e14.2 + (1 : Int)))))
        )
       )
      )
     )
    ) (
   some (.inr (e14.1))
    )
noncomputable def f336 [LO]  (a0 : List (ByteArray × Int × Int)) : Option ((List Int) × Int) :=
  obnd (f224 a0) fun (y1 : (List (ByteArray × Int × Int)) × Int) =>
  oite ((!(ieq y1.2 (0 : Int)))) (
   some (([] : List Int), y1.2)
    ) (
   obnd (f225 y1.1) fun (y4 : (List Int)) =>
   obnd (f227 y1.1 y4) fun (y6 : (List Int)) =>
   obnd (f226 y1.1 y6 (0 : Int)) fun (y8 : Int) =>
   obnd (
    oloop (τ := (List Int) × Int) (ρ := (List Int)) (l336_2 y1 y8) ((([] : List Int), (1 : Int)))
     ) fun (r10 : (List Int)) =>
   some (r10, (0 : Int))
    )
set_option maxHeartbeats 1000000 in
theorem c336 [LO]  {a0 : List (ByteArray × Int × Int)} {x : (List Int) × Int} (H : f336 a0 = some x) : ICalls E 336 [(VS 3 (a0.map e_SII))] AHeap.none fun v _ => v = (.tuple ⟨[(VS 1 (x.1.map eI)), (.int .i64 x.2)]⟩) := by
  refine ICalls.frz ?_;refine icalls_fn (pfnw ?_); unfold f336 at H;(conv=>whnf);refine pwa ?_;(conv=>whnf);refine pwa ?_;(conv=>whnf);obtain ⟨y1, h2, H⟩ := obnd_some H;refine (c224 h2).go ?_;(conv=>whnf);refine pw_seq ?_;refine pwa ?_;(conv=>whnf);refine pw_cond ?_;(conv=>whnf);refine pbr_oite H (fun g3 H => ?_) (fun g3 H => ?_)
  · (conv=>whnf);refine pwa ?_;(conv=>whnf);refine pw_ret ?_;(conv=>whnf);cases H; show ∃ D, Fz _ D 0 (.tuple ⟨[(.slice none 0 0), (.int .i64 y1.2)]⟩) _;exact ⟨fun _ => false, .tuplel (.cons (.nil _) (.cons .cl (.nil)))⟩
  · (conv=>whnf);refine pw_skip ?_;(conv=>whnf);refine pwa ?_;(conv=>whnf);obtain ⟨y4, h5, H⟩ := obnd_some H;refine (c225 h5).go ?_;(conv=>whnf);obtain ⟨y6, h7, H⟩ := obnd_some H;refine (c227 h7).go ?_;(conv=>whnf);obtain ⟨y8, h9, H⟩ := obnd_some H;refine (c226 h9).go ?_;(conv=>whnf);refine pwa ?_;(conv=>whnf);obtain ⟨r10, h11, H⟩ := obnd_some H;refine pw_join (ρ := (List Int)) (fun e => ⟨[(7, (vni e))], ⟨0, [], false⟩⟩) r10 ?_ ?_
    · refine pwa ?_;(conv=>whnf);refine pw_block ?_;refine pw_loop (τ := (List Int) × Int) (fun e => ⟨[(4, (VS 3 (y1.1.map e_SII))), (6, (.int .i64 y8)), (7, (vni e.1)), (8, (.int .i64 e.2))], ⟨0, [], false⟩⟩) h11 ?_ (fun _ => nl rfl) ?_
      · exact .sub' (nl rfl) (.cons rfl (.cons rfl (.cons rfl (.cons rfl .nil))))
      · intro e14 x15 h16; unfold l336_2 at h16;refine pw_seq ?_;refine pwa ?_;(conv=>whnf);refine pw_cond ?_;(conv=>whnf);refine pbr_oite h16 (fun g17 h16 => ?_) (fun g17 h16 => ?_)
        · (conv=>whnf);refine pw_skip ?_;(conv=>whnf);refine pw_seq ?_;refine pw_block ?_;refine pwa ?_;(conv=>whnf);obtain ⟨r18, h19, h16⟩ := obnd_some h16;refine pw_join (ρ := (List Int)) (fun e => ⟨[(4, (VS 3 (y1.1.map e_SII))), (6, (.int .i64 y8)), (7, (vni e14.1)), (8, (.int .i64 e14.2)), (9, (VT 1 (e.map eI) 0))], ⟨1, [(0, .tail (e.map eI).length 1)], false⟩⟩) r18 ?_ ?_
          · refine pwa ?_;(conv=>whnf);refine pw_block ?_;refine pw_loop (τ := (List Int) × Int) (fun e => ⟨[(4, (VS 3 (y1.1.map e_SII))), (6, (.int .i64 y8)), (7, (vni e14.1)), (8, (.int .i64 e14.2)), (9, (VT 1 (e.1.map eI) 0)), (33, (.int .i64 ((y1.1.map e_SII).length : Int))), (34, (.int .i64 e.2))], ⟨1, [(0, .tail (e.1.map eI).length 1)], false⟩⟩) h19 ?_ (fun _ => nl rfl) ?_
            · exact (Recast.nilTs 1 (nl rfl) (.same rfl (.same rfl (.same rfl (.same rfl (.turn rfl (.same rfl (.same rfl .nil))))))))
            · intro e22 x23 h24; unfold l336_1 at h24;refine pwa ?_;(conv=>whnf);refine pw_seq ?_;refine pw_cond ?_;(conv=>whnf);refine pbr_oite h24 (fun g25 h24 => ?_) (fun g25 h24 => ?_)
              · (conv=>whnf);refine pw_skip ?_;(conv=>whnf);refine pw_seq ?_;refine pw_block ?_;refine pwa ?_;(conv=>whnf);refine pwa ?_;(conv=>whnf);refine pbr_ogrdn h24 (fun g26 h24 => ?_);(conv=>whnf);refine pw_cond ?_;(conv=>whnf);refine pbr_oite h24 (fun g27 h24 => ?_) (fun g27 h24 => ?_)
                · (conv=>whnf);refine pw_ops ?_;refine po_all ?_;(conv=>whnf);refine app_o (l := e22.1) (m := ([e22.2] : List Int)) (f := eI) h24 (by rfl) (by rfl) (by rfl) (fun h24 => ?_);(conv=>whnf);refine pw_ops ?_;refine po_all ?_;(conv=>whnf);cases h24;refine ⟨_, rfl, ?_⟩;refine Recast.trunc (nl rfl) ?_ ?_
                  · repeat (first | exact .nil | refine .cons rfl (by first | exact OBnd.rwc (nl rfl) rfl | exact OBnd.tail (nl rfl) | trivial) ?_)
                  · repeat (first | exact .nil | refine .cons rfl (by first | exact Bnd.ptr (nl rfl) | exact Bnd.vt (nl rfl) | exact Bnd.cl) ?_)
                · (conv=>whnf);refine pw_skip ?_;(conv=>whnf);refine pw_ops ?_;refine po_all ?_;(conv=>whnf);cases h24;refine ⟨_, rfl, ?_⟩;exact .sub' (nl rfl) (.cons rfl (.cons rfl (.cons rfl (.cons rfl (.cons rfl (.cons rfl (.cons rfl .nil)))))))
              · (conv=>whnf);refine pw_exit ?_;(conv=>whnf);cases h24;refine ⟨_, rfl, ?_⟩; rintro rfl;(conv=>whnf);exact ⟨(.cons rfl (.cons rfl (.cons rfl (.cons rfl (.cons rfl .nil))))), rfl⟩
          · refine pw_seq ?_;refine pwa ?_;(conv=>whnf);obtain ⟨y29, h30, h16⟩ := obnd_some h16;refine ICalls.goW (c362 h30) (.cons (.refl _) (.cons (.vt _ _ _) .nil)) ?_;(conv=>whnf);refine pw_cond ?_;(conv=>whnf);refine pbr_oite h16 (fun g31 h16 => ?_) (fun g31 h16 => ?_)
            · (conv=>whnf);refine pw_exit ?_;(conv=>whnf);refine pw_ops ?_;refine po_all ?_;(conv=>whnf);cases h16;refine ⟨_, rfl, ?_⟩;refine Recast.trunc (nl rfl) ?_ ?_
              · repeat (first | exact .nil | refine .cons rfl (by first | exact OBnd.rwc (nl rfl) rfl | exact OBnd.tail (nl rfl) | trivial) ?_)
              · repeat (first | exact .nil | refine .cons rfl (by first | exact Bnd.ptr (nl rfl) | exact Bnd.vt (nl rfl) | exact Bnd.cl) ?_)
            · (conv=>whnf);refine pw_skip ?_;(conv=>whnf);refine pw_so ?_;refine po_ops 3 ?_;(conv=>whnf);refine vni_o h16 (fun g33 h16 => ?_) (fun g33 h16 => ?_)
              · rw [vni_e g33];(conv=>whnf);refine po_ops 6 ?_;(conv=>whnf);refine po_ops 7 ?_;(conv=>whnf);refine po_ops 5 ?_;(conv=>whnf);refine po_all ?_;(conv=>whnf);refine pw_cond ?_;(conv=>whnf);refine pw_ops ?_;refine po_all ?_;(conv=>whnf);refine pw_ops ?_;refine po_all ?_;(conv=>whnf);obtain ⟨g34, h16⟩ := ogrd_some h16;cases h16;refine ⟨_, rfl, ?_⟩;refine Recast.trans (s' := ⟨[(4, (VS 3 (y1.1.map e_SII))), (6, (.int .i64 y8)), (7, (VS 1 (r18.map eI))), (8, (.int .i64 (IntKind.i64.wrap (e14.2 + (1 : Int)))))], ⟨0, [], false⟩⟩) (by exact Recast.fz (fun _ => false) (nl rfl) .nil (.cons rfl (.same _ .cl) (.cons rfl (.same _ .cl) (.cons rfl .vtc  (.cons rfl (.same _ .cl) .nil))))) ?_
                exact Recast.eq (congrArg (fun v => (⟨[(4, (VS 3 (y1.1.map e_SII))), (6, (.int .i64 y8)), (7, v), (8, (.int .i64 (IntKind.i64.wrap (e14.2 + (1 : Int)))))], ⟨0, [], false⟩⟩ : St)) (vni_ne g34).symm)
              · rw [vni_ne g33];refine xnil_o rfl g33 ?_;(conv=>whnf);refine po_ops 6 ?_;(conv=>whnf);refine po_ops 7 ?_;(conv=>whnf);refine pbr_oite h16 (fun g35 h16 => ?_) (fun g35 h16 => ?_)
                · (conv=>whnf);(iterate 5 refine pbr_t g35 ?_;(conv=>whnf));refine po_ops 5 ?_;(conv=>whnf);refine pbr_t g35 ?_;(conv=>whnf);refine po_all ?_;(conv=>whnf);refine pbr_t g35 ?_;(conv=>whnf);refine pw_cond ?_;(conv=>whnf);refine pw_ops ?_;refine po_all ?_;(conv=>whnf);refine pw_ops ?_;refine po_all ?_;(conv=>whnf);obtain ⟨g36, h16⟩ := ogrd_some h16;cases h16;refine ⟨_, rfl, ?_⟩;refine Recast.trans (s' := ⟨[(4, (VS 3 (y1.1.map e_SII))), (6, (.int .i64 y8)), (7, (VS 1 (r18.map eI))), (8, (.int .i64 (IntKind.i64.wrap (e14.2 + (1 : Int)))))], ⟨0, [], false⟩⟩) (by exact Recast.fz (fun _ => false) (nl rfl) .nil (.cons rfl (.same _ .cl) (.cons rfl (.same _ .cl) (.cons rfl .vtc  (.cons rfl (.same _ .cl) .nil))))) ?_
                  exact Recast.eq (congrArg (fun v => (⟨[(4, (VS 3 (y1.1.map e_SII))), (6, (.int .i64 y8)), (7, v), (8, (.int .i64 (IntKind.i64.wrap (e14.2 + (1 : Int)))))], ⟨0, [], false⟩⟩ : St)) (vni_ne g36).symm)
                · (conv=>whnf);(iterate 5 refine pbr_f g35 ?_;(conv=>whnf));obtain ⟨r37, h38, h16⟩ := obnd_some h16;refine po_seg (τ := Bool) 5 (fun e => ⟨[(4, (VS 3 (y1.1.map e_SII))), (6, (.int .i64 y8)), (7, (VS 1 (e14.1.map eI))), (8, (.int .i64 e14.2)), (9, (VT 1 (r18.map eI) 0)), (55, (VT 1 (r18.map eI) 0)), (56, (.int .i64 ((r18.map eI).length : Int))), (57, (VS 1 (e14.1.map eI))), (58, (.int .i64 ((e14.1.map eI).length : Int))), (59, (.bool (ilt ((r18.map eI).length : Int) ((e14.1.map eI).length : Int)))), (61, (.bool (ilt ((r18.map eI).length : Int) ((e14.1.map eI).length : Int)))), (62, (VT 1 (r18.map eI) 0)), (63, (.int .i64 ((r18.map eI).length : Int))), (64, (VS 1 (e14.1.map eI))), (65, (.int .i64 ((e14.1.map eI).length : Int))), (66, (.bool (ieq ((r18.map eI).length : Int) ((e14.1.map eI).length : Int)))), (67, (.bool (ieq ((r18.map eI).length : Int) ((e14.1.map eI).length : Int)))), (72, (.bool e))], ⟨1, [(0, .tail (r18.map eI).length 1)], false⟩⟩) r37 ?_ ?_
                  · refine po_all ?_;(conv=>whnf);refine pbr_oite h38 (fun g39 h38 => ?_) (fun g39 h38 => ?_)
                    · (conv=>whnf);refine pbr_t g39 ?_;(conv=>whnf);refine pbr_t g39 ?_;(conv=>whnf);obtain ⟨y40, h41, h38⟩ := obnd_some h38;refine ICalls.goW (c363 h41) (.cons (.vt _ _ _) (.cons (.refl _) .nil)) ?_;(conv=>whnf);refine pbr_t g39 ?_;(conv=>whnf);refine pbr_f g35 ?_;(conv=>whnf);refine pbr_t g39 ?_;(conv=>whnf);cases h38;exact ⟨(.cons rfl (.cons rfl (.cons rfl (.cons rfl (.cons rfl (.cons rfl (.cons rfl (.cons rfl (.cons rfl (.cons rfl (.cons rfl (.cons rfl (.cons rfl (.cons rfl (.cons rfl (.cons rfl (.cons rfl (.cons rfl .nil)))))))))))))))))), rfl⟩
                    · (conv=>whnf);(iterate 3 refine pbr_f g39 ?_;(conv=>whnf));refine pbr_f g35 ?_;(conv=>whnf);refine pbr_f g39 ?_;(conv=>whnf);cases h38;exact ⟨(.cons rfl (.cons rfl (.cons rfl (.cons rfl (.cons rfl (.cons rfl (.cons rfl (.cons rfl (.cons rfl (.cons rfl (.cons rfl (.cons rfl (.cons rfl (.cons rfl (.cons rfl (.cons rfl (.cons rfl (.cons rfl .nil)))))))))))))))))), rfl⟩
                  · refine po_all ?_;(conv=>whnf);refine pbr_f g35 ?_;(conv=>whnf);refine pw_cond ?_;(conv=>whnf);refine pbr_oite h16 (fun g42 h16 => ?_) (fun g42 h16 => ?_)
                    · (conv=>whnf);refine pw_ops ?_;refine po_all ?_;(conv=>whnf);refine pw_ops ?_;refine po_all ?_;(conv=>whnf);obtain ⟨g43, h16⟩ := ogrd_some h16;cases h16;refine ⟨_, rfl, ?_⟩;refine Recast.trans (s' := ⟨[(4, (VS 3 (y1.1.map e_SII))), (6, (.int .i64 y8)), (7, (VS 1 (r18.map eI))), (8, (.int .i64 (IntKind.i64.wrap (e14.2 + (1 : Int)))))], ⟨0, [], false⟩⟩) (by exact Recast.fz (fun _ => false) (nl rfl) .nil (.cons rfl (.same _ .cl) (.cons rfl (.same _ .cl) (.cons rfl .vtc  (.cons rfl (.same _ .cl) .nil))))) ?_;exact Recast.eq (congrArg (fun v => (⟨[(4, (VS 3 (y1.1.map e_SII))), (6, (.int .i64 y8)), (7, v), (8, (.int .i64 (IntKind.i64.wrap (e14.2 + (1 : Int)))))], ⟨0, [], false⟩⟩ : St)) (vni_ne g43).symm)
                    · (conv=>whnf);refine pw_skip ?_;(conv=>whnf);refine pw_ops ?_;refine po_all ?_;(conv=>whnf);cases h16;refine ⟨_, rfl, ?_⟩;refine Recast.trans (s' := ⟨[(4, (VS 3 (y1.1.map e_SII))), (6, (.int .i64 y8)), (7, (VS 1 (e14.1.map eI))), (8, (.int .i64 (IntKind.i64.wrap (e14.2 + (1 : Int)))))], ⟨0, [], false⟩⟩) (by exact Recast.fz (fun _ => false) (nl rfl) .nil (.cons rfl (.same _ .cl) (.cons rfl (.same _ .cl) (.cons rfl (.same _ .cl) (.cons rfl (.same _ .cl) .nil))))) ?_;exact Recast.eq (congrArg (fun v => (⟨[(4, (VS 3 (y1.1.map e_SII))), (6, (.int .i64 y8)), (7, v), (8, (.int .i64 (IntKind.i64.wrap (e14.2 + (1 : Int)))))], ⟨0, [], false⟩⟩ : St)) (vni_ne g33).symm)
        · (conv=>whnf);refine pw_exit ?_;(conv=>whnf);cases h16;refine ⟨_, rfl, ?_⟩; rintro rfl;(conv=>whnf);exact ⟨(.cons rfl .nil), rfl⟩
    · refine pwa ?_;(conv=>whnf);refine pw_ret ?_;(conv=>whnf);cases H; show ∃ D, Fz _ D 0 (.tuple ⟨[(vni r10), (.int .i64 0)]⟩) _;exact ⟨fun _ => false, .tuplel (.cons .vni (.cons .cl (.nil)))⟩

/-- guidevane/guidevanebase.IsName -/
noncomputable def f91 [LO]  (a0 : ByteArray) : Option Bool :=
  obnd (
   oite ((ilt (a0.size : Int) (1 : Int))) (
    some true
     ) (
    some (ilt (12 : Int) (a0.size : Int))
     )
    ) fun (r1 : Bool) =>
  oite r1 (
   some false
    ) (
   obndS (
    oloop (τ := Int) (ρ := (Unit) ⊕ Bool) (fun e11 =>
     oite ((ilt e11 (a0.size : Int))) (
      ogrd ((ile 0 e11)) (
      obnd (a0.data.toList[e11.toNat]?) fun (x16 : UInt8) =>
      obnd (
       oite ((ile (97 : Int) (x16.toNat : Int))) (
        some (ile (x16.toNat : Int) (122 : Int))
         ) (
        some false
         )
        ) fun (r17 : Bool) =>
      obnd (
       oite r17 (
        some true
         ) (
        oite ((ile (65 : Int) (x16.toNat : Int))) (
         some (ile (x16.toNat : Int) (90 : Int))
          ) (
         some false
          )
         )
        ) fun (r20 : Bool) =>
      obnd (
       oite (!r20) (
        obnd (
         oite ((ieq e11 (0 : Int))) (
          some true
           ) (
          oite ((!(ieq (x16.toNat : Int) (45 : Int)))) (
           oite ((ilt (x16.toNat : Int) (48 : Int))) (
            some true
             ) (
            some (ilt (57 : Int) (x16.toNat : Int))
             )
            ) (
           some false
            )
           )
          ) fun (r29 : Bool) =>
        some r29
         ) (
        some false
         )
        ) fun (r24 : Bool) =>
      oite r24 (
       some (.inr (.inr (false)))
        ) (
       some (.inl (IntKind.i64.wrap (e11 + (1 : Int))))
        )
      )
       ) (
      some (.inr (.inl ()))
       )
      ) (0 : Int)
     ) fun (_ : Unit) =>
   some true
    )
set_option maxHeartbeats 1000000 in
theorem c91 [LO]  {a0 : ByteArray} {x : Bool} (H : f91 a0 = some x) : ICalls E 91 [(.string a0)] AHeap.none fun v _ => v = (.bool x) := by
  refine icalls_fn (pfnw ?_); unfold f91 at H;(conv=>whnf);refine pwa ?_;(conv=>whnf);refine pw_seq ?_;obtain ⟨r1, h2, H⟩ := obnd_some H;refine pw_join (ρ := Bool) (fun e => ⟨[(0, (.string a0)), (13, (.bool e))], ⟨0, [], false⟩⟩) r1 ?_ ?_
  · refine pw_ops ?_;refine po_all ?_;(conv=>whnf);refine pbr_oite h2 (fun g5 h2 => ?_) (fun g5 h2 => ?_)
    · (conv=>whnf);(iterate 3 refine pbr_t g5 ?_;(conv=>whnf));cases h2;exact ⟨(.cons rfl (.cons rfl .nil)), rfl⟩
    · (conv=>whnf);(iterate 3 refine pbr_f g5 ?_;(conv=>whnf));cases h2;exact ⟨(.cons rfl (.cons rfl .nil)), rfl⟩
  · refine pw_cond ?_;(conv=>whnf);refine pbr_oite H (fun g6 H => ?_) (fun g6 H => ?_)
    · (conv=>whnf);refine pwa ?_;(conv=>whnf);refine pw_ret ?_;(conv=>whnf);cases H; rfl
    · (conv=>whnf);refine pw_skip ?_;(conv=>whnf);obtain ⟨r7, h8, h9, h10⟩ := obndS_some H;refine pw_joinS (ρ := Unit) (fun e => ⟨[], ⟨0, [], false⟩⟩) r7 ?_ ?_
      · refine pwa ?_;(conv=>whnf);refine pw_block ?_;refine pw_loop (τ := Int) (fun e => ⟨[(0, (.string a0)), (3, (.int .i64 e))], ⟨0, [], false⟩⟩) h8 ?_ (fun _ => nl rfl) ?_
        · exact .sub' (nl rfl) (.cons rfl (.cons rfl .nil))
        · intro e11 x12 h13;refine pw_seq ?_;refine pwa ?_;(conv=>whnf);refine pw_cond ?_;(conv=>whnf);refine pbr_oite h13 (fun g14 h13 => ?_) (fun g14 h13 => ?_)
          · (conv=>whnf);refine pw_skip ?_;(conv=>whnf);refine pw_seq ?_;refine pw_block ?_;refine pwa ?_;(conv=>whnf);refine pbr_ogrd h13 (fun g15 h13 => ?_);(conv=>whnf);refine get_o h13 (fun x16 _ h13 => ?_);(conv=>whnf);refine pw_so ?_;refine po_ops 3 ?_;(conv=>whnf);obtain ⟨r17, h18, h13⟩ := obnd_some h13;refine po_seg (τ := Bool) 3 (fun e => ⟨[(0, (.string a0)), (3, (.int .i64 e11)), (4, (.int .u8 (x16.toNat : Int))), (28, (.bool e))], ⟨0, [], false⟩⟩) r17 ?_ ?_
            · refine po_all ?_;(conv=>whnf);refine pbr_oite h18 (fun g19 h18 => ?_) (fun g19 h18 => ?_)
              · (conv=>whnf);refine pbr_t g19 ?_;(conv=>whnf);refine pbr_t g19 ?_;(conv=>whnf);cases h18;exact ⟨(.cons rfl (.cons rfl (.cons rfl (.cons rfl .nil)))), rfl⟩
              · (conv=>whnf);refine pbr_f g19 ?_;(conv=>whnf);refine pbr_f g19 ?_;(conv=>whnf);cases h18;exact ⟨(.cons rfl (.cons rfl (.cons rfl (.cons rfl .nil)))), rfl⟩
            · refine po_ops 1 ?_;(conv=>whnf);obtain ⟨r20, h21, h13⟩ := obnd_some h13;refine po_seg (τ := Bool) 7 (fun e => ⟨[(0, (.string a0)), (3, (.int .i64 e11)), (4, (.int .u8 (x16.toNat : Int))), (36, (.bool e))], ⟨0, [], false⟩⟩) r20 ?_ ?_
              · refine po_all ?_;(conv=>whnf);refine pbr_oite h21 (fun g22 h21 => ?_) (fun g22 h21 => ?_)
                · (conv=>whnf);(iterate 4 refine pbr_t g22 ?_;(conv=>whnf));cases h21;exact ⟨(.cons rfl (.cons rfl (.cons rfl (.cons rfl .nil)))), rfl⟩
                · (conv=>whnf);refine pbr_f g22 ?_;(conv=>whnf);refine pbr_f g22 ?_;(conv=>whnf);refine pbr_oite h21 (fun g23 h21 => ?_) (fun g23 h21 => ?_)
                  · (conv=>whnf);refine pbr_t g23 ?_;(conv=>whnf);refine pbr_f g22 ?_;(conv=>whnf);refine pbr_t g23 ?_;(conv=>whnf);refine pbr_f g22 ?_;(conv=>whnf);cases h21;exact ⟨(.cons rfl (.cons rfl (.cons rfl (.cons rfl .nil)))), rfl⟩
                  · (conv=>whnf);refine pbr_f g23 ?_;(conv=>whnf);refine pbr_f g22 ?_;(conv=>whnf);refine pbr_f g23 ?_;(conv=>whnf);refine pbr_f g22 ?_;(conv=>whnf);cases h21;exact ⟨(.cons rfl (.cons rfl (.cons rfl (.cons rfl .nil)))), rfl⟩
              · refine po_all ?_;(conv=>whnf);obtain ⟨r24, h25, h13⟩ := obnd_some h13;refine pw_join (ρ := Bool) (fun e => ⟨[(0, (.string a0)), (3, (.int .i64 e11)), (54, (.bool e))], ⟨0, [], false⟩⟩) r24 ?_ ?_
                · refine pw_ops ?_;refine po_ops 6 ?_;(conv=>whnf);refine pbr_oite h25 (fun g28 h25 => ?_) (fun g28 h25 => ?_)
                  · (conv=>whnf);refine pbr_t g28 ?_;(conv=>whnf);refine pbr_t g28 ?_;(conv=>whnf);obtain ⟨r29, h30, h25⟩ := obnd_some h25;refine po_seg (τ := Bool) 11 (fun e => ⟨[(0, (.string a0)), (3, (.int .i64 e11)), (39, (.bool (!r20))), (40, (.int .i64 e11)), (41, (.bool (ieq e11 (0 : Int)))), (42, (.bool (ieq e11 (0 : Int)))), (53, (.bool e))], ⟨0, [], false⟩⟩) r29 ?_ ?_
                    · refine po_all ?_;(conv=>whnf);refine pbr_oite h30 (fun g31 h30 => ?_) (fun g31 h30 => ?_)
                      · (conv=>whnf);(iterate 3 refine pbr_t g31 ?_;(conv=>whnf));refine pbr_t g28 ?_;(conv=>whnf);refine pbr_t g31 ?_;(conv=>whnf);cases h30;exact ⟨(.cons rfl (.cons rfl (.cons rfl (.cons rfl (.cons rfl (.cons rfl (.cons rfl .nil))))))), rfl⟩
                      · (conv=>whnf);refine pbr_f g31 ?_;(conv=>whnf);refine pbr_f g31 ?_;(conv=>whnf);refine pbr_oite h30 (fun g32 h30 => ?_) (fun g32 h30 => ?_)
                        · (conv=>whnf);refine pbr_t g32 ?_;(conv=>whnf);refine pbr_t g32 ?_;(conv=>whnf);refine pbr_oite h30 (fun g33 h30 => ?_) (fun g33 h30 => ?_)
                          · (conv=>whnf);refine pbr_t g33 ?_;(conv=>whnf);refine pbr_t g32 ?_;(conv=>whnf);refine pbr_t g33 ?_;(conv=>whnf);refine pbr_f g31 ?_;(conv=>whnf);refine pbr_t g32 ?_;(conv=>whnf);refine pbr_t g28 ?_;(conv=>whnf);refine pbr_f g31 ?_;(conv=>whnf);cases h30;exact ⟨(.cons rfl (.cons rfl (.cons rfl (.cons rfl (.cons rfl (.cons rfl (.cons rfl .nil))))))), rfl⟩
                          · (conv=>whnf);refine pbr_f g33 ?_;(conv=>whnf);refine pbr_t g32 ?_;(conv=>whnf);refine pbr_f g33 ?_;(conv=>whnf);refine pbr_f g31 ?_;(conv=>whnf);refine pbr_t g32 ?_;(conv=>whnf);refine pbr_t g28 ?_;(conv=>whnf);refine pbr_f g31 ?_;(conv=>whnf);cases h30;exact ⟨(.cons rfl (.cons rfl (.cons rfl (.cons rfl (.cons rfl (.cons rfl (.cons rfl .nil))))))), rfl⟩
                        · (conv=>whnf);(iterate 3 refine pbr_f g32 ?_;(conv=>whnf));refine pbr_f g31 ?_;(conv=>whnf);refine pbr_f g32 ?_;(conv=>whnf);refine pbr_t g28 ?_;(conv=>whnf);refine pbr_f g31 ?_;(conv=>whnf);cases h30;exact ⟨(.cons rfl (.cons rfl (.cons rfl (.cons rfl (.cons rfl (.cons rfl (.cons rfl .nil))))))), rfl⟩
                    · refine po_all ?_;(conv=>whnf);refine pbr_t g28 ?_;(conv=>whnf);cases h25;exact ⟨(.cons rfl (.cons rfl (.cons rfl .nil))), rfl⟩
                  · (conv=>whnf);refine pbr_f g28 ?_;(conv=>whnf);refine pbr_f g28 ?_;(conv=>whnf);refine po_ops 11 ?_;(conv=>whnf);refine pbr_f g28 ?_;(conv=>whnf);refine po_all ?_;(conv=>whnf);refine pbr_f g28 ?_;(conv=>whnf);cases h25;exact ⟨(.cons rfl (.cons rfl (.cons rfl .nil))), rfl⟩
                · refine pw_cond ?_;(conv=>whnf);refine pbr_oite h13 (fun g34 h13 => ?_) (fun g34 h13 => ?_)
                  · (conv=>whnf);refine pwa ?_;(conv=>whnf);refine pw_ret ?_;(conv=>whnf);cases h13;refine ⟨_, rfl, ?_⟩; rintro rfl;(conv=>whnf);obtain rfl := h10 _ rfl; rfl
                  · (conv=>whnf);refine pw_skip ?_;(conv=>whnf);refine pw_ops ?_;refine po_all ?_;(conv=>whnf);cases h13;refine ⟨_, rfl, ?_⟩;exact .sub' (nl rfl) (.cons rfl (.cons rfl .nil))
          · (conv=>whnf);refine pw_exit ?_;(conv=>whnf);cases h13;refine ⟨_, rfl, ?_⟩; rintro rfl;(conv=>whnf);exact ⟨_, rfl, ⟨.nil, rfl⟩⟩
      · intro r37 hr; have H := h9 _ hr;refine pwa ?_;(conv=>whnf);refine pw_ret ?_;(conv=>whnf);cases H; rfl

/-- guidevane/guidevanebase.HasText -/
noncomputable def f364 [LO]  (a0 : List ByteArray) (a1 : ByteArray) : Option Bool :=
  obndS (
   oloop (τ := Int) (ρ := (Unit) ⊕ Bool) (fun e5 =>
    oite ((ilt e5 ((a0.map eS).length : Int))) (
     ogrd ((ile 0 e5)) (
     obnd (a0[e5.toNat]?) fun (x10 : ByteArray) =>
     oite ((x10.toList == a1.toList)) (
      some (.inr (.inr (true)))
       ) (
      some (.inl (IntKind.i64.wrap (e5 + (1 : Int))))
       )
     )
      ) (
     some (.inr (.inl ()))
      )
     ) (0 : Int)
    ) fun (_ : Unit) =>
  some false
set_option maxHeartbeats 1000000 in
theorem c364 [LO]  {a0 : List ByteArray} {a1 : ByteArray} {x : Bool} (H : f364 a0 a1 = some x) : ICalls E 364 [(VS 1 (a0.map eS)), (.string a1)] AHeap.none fun v _ => v = (.bool x) := by
  refine icalls_fn (pfnw ?_); unfold f364 at H;(conv=>whnf);refine pwa ?_;(conv=>whnf);obtain ⟨r1, h2, h3, h4⟩ := obndS_some H;refine pw_joinS (ρ := Unit) (fun e => ⟨[], ⟨0, [], false⟩⟩) r1 ?_ ?_
  · refine pwa ?_;(conv=>whnf);refine pw_block ?_;refine pw_loop (τ := Int) (fun e => ⟨[(0, (VS 1 (a0.map eS))), (1, (.string a1)), (5, (.int .i64 e))], ⟨0, [], false⟩⟩) h2 ?_ (fun _ => nl rfl) ?_
    · exact .sub' (nl rfl) (.cons rfl (.cons rfl (.cons rfl .nil)))
    · intro e5 x6 h7;refine pw_seq ?_;refine pwa ?_;(conv=>whnf);refine pw_cond ?_;(conv=>whnf);refine pbr_oite h7 (fun g8 h7 => ?_) (fun g8 h7 => ?_)
      · (conv=>whnf);refine pw_skip ?_;(conv=>whnf);refine pw_seq ?_;refine pw_block ?_;refine pwa ?_;(conv=>whnf);refine pbr_ogrd h7 (fun g9 h7 => ?_);(conv=>whnf);refine nth_o (l := a0) h7 (fun x10 _ h7 => ?_);(conv=>whnf);refine pw_cond ?_;(conv=>whnf);refine pbr_oite h7 (fun g11 h7 => ?_) (fun g11 h7 => ?_)
        · (conv=>whnf);refine pwa ?_;(conv=>whnf);refine pw_ret ?_;(conv=>whnf);cases h7;refine ⟨_, rfl, ?_⟩; rintro rfl;(conv=>whnf);obtain rfl := h4 _ rfl; rfl
        · (conv=>whnf);refine pw_skip ?_;(conv=>whnf);refine pw_ops ?_;refine po_all ?_;(conv=>whnf);cases h7;refine ⟨_, rfl, ?_⟩;exact .sub' (nl rfl) (.cons rfl (.cons rfl (.cons rfl .nil)))
      · (conv=>whnf);refine pw_exit ?_;(conv=>whnf);cases h7;refine ⟨_, rfl, ?_⟩; rintro rfl;(conv=>whnf);exact ⟨_, rfl, ⟨.nil, rfl⟩⟩
  · intro r14 hr; have H := h3 _ hr;refine pwa ?_;(conv=>whnf);refine pw_ret ?_;(conv=>whnf);cases H; rfl

/-- guidevane/guidevanebase.Within -/
noncomputable def f15  (a0 : Int) (a1 : Int) (a2 : Int) : Option Bool :=
  obnd (
   oite ((ile a1 a0)) (
    some (ile a0 a2)
     ) (
    some false
     )
    ) fun (r1 : Bool) =>
  some r1
set_option maxHeartbeats 1000000 in
theorem c15  {a0 : Int} {a1 : Int} {a2 : Int} {x : Bool} (H : f15 a0 a1 a2 = some x) : ICalls E 15 [(.int .i64 a0), (.int .i64 a1), (.int .i64 a2)] AHeap.none fun v _ => v = (.bool x) := by
  refine icalls_fn (pfnw ?_); unfold f15 at H;(conv=>whnf);refine pwa ?_;(conv=>whnf);refine pw_so ?_;refine po_ops 4 ?_;(conv=>whnf);obtain ⟨r1, h2, H⟩ := obnd_some H;refine po_seg (τ := Bool) 4 (fun e => ⟨[(14, (.bool e))], ⟨0, [], false⟩⟩) r1 ?_ ?_
  · refine po_all ?_;(conv=>whnf);refine pbr_oite h2 (fun g3 h2 => ?_) (fun g3 h2 => ?_)
    · (conv=>whnf);(iterate 3 refine pbr_t g3 ?_;(conv=>whnf));cases h2;exact ⟨(.cons rfl .nil), rfl⟩
    · (conv=>whnf);(iterate 3 refine pbr_f g3 ?_;(conv=>whnf));cases h2;exact ⟨(.cons rfl .nil), rfl⟩
  · refine po_all ?_;(conv=>whnf);refine pw_ret ?_;(conv=>whnf);cases H; rfl

/-- guidevane/guidevaneref08.CheckRevisions -/
noncomputable def f337 [LO]  (a0 : List (ByteArray × Int × Int)) : Option (Int × Int) :=
  oite ((ieq ((a0.map e_SII).length : Int) (0 : Int))) (
   some ((0 : Int), (10 : Int))
    ) (
   oite ((ilt (8 : Int) ((a0.map e_SII).length : Int))) (
    some ((0 : Int), (8 : Int))
     ) (
    obndS (
     oloop (τ := (List ByteArray) × Int) (ρ := (Unit) ⊕ (Int × Int)) (fun e7 =>
      oite ((ilt e7.2 ((a0.map e_SII).length : Int))) (
       ogrd ((ile 0 e7.2)) (
       obnd (a0[e7.2.toNat]?) fun (x12 : ByteArray × Int × Int) =>
       obnd (f91 x12.1) fun (y13 : Bool) =>
       oite (!y13) (
        some (.inr (.inr ((e7.2, (4 : Int)))))
         ) (
        obnd (a0[e7.2.toNat]?) fun (x17 : ByteArray × Int × Int) =>
        obnd (f364 e7.1 x17.1) fun (y18 : Bool) =>
        oite y18 (
         some (.inr (.inr ((e7.2, (5 : Int)))))
          ) (
         obnd (
          obnd (a0[e7.2.toNat]?) fun (x26 : ByteArray × Int × Int) =>
          obnd (f15 x26.2.1 (0 : Int) (100000 : Int)) fun (y27 : Bool) =>
          oite (!y27) (
           some true
            ) (
           obnd (a0[e7.2.toNat]?) fun (x30 : ByteArray × Int × Int) =>
           obnd (f15 x30.2.2 (1 : Int) (100000 : Int)) fun (y31 : Bool) =>
           some (!y31)
            )
           ) fun (r22 : Bool) =>
         oite r22 (
          some (.inr (.inr ((e7.2, (2 : Int)))))
           ) (
          obnd (a0[e7.2.toNat]?) fun (x35 : ByteArray × Int × Int) =>
          ogrd (fits 16 (e7.1.length + ([x35.1] : List ByteArray).length)) (
          some (.inl (((e7.1 ++ ([x35.1] : List ByteArray)), (IntKind.i64.wrap (e7.2 + (1 : Int))))))
          )
           )
          )
         )
       )
        ) (
       some (.inr (.inl ()))
        )
       ) ((([] : List ByteArray), (0 : Int)))
      ) fun (_ : Unit) =>
    some ((0 : Int), (0 : Int))
     )
    )
set_option maxHeartbeats 1000000 in
theorem c337 [LO]  {a0 : List (ByteArray × Int × Int)} {x : Int × Int} (H : f337 a0 = some x) : ICalls E 337 [(VS 3 (a0.map e_SII))] AHeap.none fun v _ => v = (.tuple ⟨[(.int .i64 x.1), (.int .i64 x.2)]⟩) := by
  refine icalls_fn (pfnw ?_); unfold f337 at H;(conv=>whnf);refine pwa ?_;(conv=>whnf);refine pw_seq ?_;refine pwa ?_;(conv=>whnf);refine pw_cond ?_;(conv=>whnf);refine pbr_oite H (fun g1 H => ?_) (fun g1 H => ?_)
  · (conv=>whnf);refine pwa ?_;(conv=>whnf);refine pw_ret ?_;(conv=>whnf);cases H; rfl
  · (conv=>whnf);refine pw_skip ?_;(conv=>whnf);refine pw_seq ?_;refine pwa ?_;(conv=>whnf);refine pw_cond ?_;(conv=>whnf);refine pbr_oite H (fun g2 H => ?_) (fun g2 H => ?_)
    · (conv=>whnf);refine pwa ?_;(conv=>whnf);refine pw_ret ?_;(conv=>whnf);cases H; rfl
    · (conv=>whnf);refine pw_skip ?_;(conv=>whnf);refine pwa ?_;(conv=>whnf);obtain ⟨r3, h4, h5, h6⟩ := obndS_some H;refine pw_joinSR (ρ := Unit) (fun e => ⟨[], ⟨0, [], false⟩⟩) r3 ?_ ?_
      · refine pwa ?_;(conv=>whnf);refine pw_block ?_;refine pw_loop (τ := (List ByteArray) × Int) (fun e => ⟨[(0, (VS 3 (a0.map e_SII))), (4, (VT 1 (e.1.map eS) 0)), (5, (.int .i64 e.2))], ⟨1, [(0, .tail (e.1.map eS).length 1)], false⟩⟩) h4 ?_ (fun _ => nl rfl) ?_
        · exact (Recast.nilTs 1 (nl rfl) (.same rfl (.turn rfl (.same rfl .nil))))
        · intro e7 x8 h9;refine pw_seq ?_;refine pwa ?_;(conv=>whnf);refine pw_cond ?_;(conv=>whnf);refine pbr_oite h9 (fun g10 h9 => ?_) (fun g10 h9 => ?_)
          · (conv=>whnf);refine pw_skip ?_;(conv=>whnf);refine pw_seq ?_;refine pw_block ?_;refine pw_seq ?_;refine pwa ?_;(conv=>whnf);refine pbr_ogrd h9 (fun g11 h9 => ?_);(conv=>whnf);refine nth_o (l := a0) h9 (fun x12 _ h9 => ?_);(conv=>whnf);obtain ⟨y13, h14, h9⟩ := obnd_some h9;refine (c91 h14).go ?_;(conv=>whnf);refine pw_cond ?_;(conv=>whnf);refine pbr_oite h9 (fun g15 h9 => ?_) (fun g15 h9 => ?_)
            · (conv=>whnf);refine pwa ?_;(conv=>whnf);refine pw_ret ?_;(conv=>whnf);cases h9;refine ⟨_, rfl, ?_⟩; rintro rfl;(conv=>whnf);obtain rfl := h6 _ rfl; rfl
            · (conv=>whnf);refine pw_skip ?_;(conv=>whnf);refine pw_seq ?_;refine pwa ?_;(conv=>whnf);refine pbr_t g11 ?_;(conv=>whnf);refine nth_o (l := a0) h9 (fun x17 _ h9 => ?_);(conv=>whnf);obtain ⟨y18, h19, h9⟩ := obnd_some h9;refine ICalls.goW (c364 h19) (.cons (.vt _ _ _) (.cons (.refl _) .nil)) ?_;(conv=>whnf);refine pw_cond ?_;(conv=>whnf);refine pbr_oite h9 (fun g20 h9 => ?_) (fun g20 h9 => ?_)
              · (conv=>whnf);refine pwa ?_;(conv=>whnf);refine pw_ret ?_;(conv=>whnf);cases h9;refine ⟨_, rfl, ?_⟩; rintro rfl;(conv=>whnf);obtain rfl := h6 _ rfl; rfl
              · (conv=>whnf);refine pw_skip ?_;(conv=>whnf);refine pw_seq ?_;obtain ⟨r22, h23, h9⟩ := obnd_some h9;refine pw_join (ρ := Bool) (fun e => ⟨[(0, (VS 3 (a0.map e_SII))), (4, (VT 1 (e7.1.map eS) 0)), (5, (.int .i64 e7.2)), (49, (.bool e))], ⟨1, [(0, .tail (e7.1.map eS).length 1)], false⟩⟩) r22 ?_ ?_
                · refine pw_ops ?_;refine po_all ?_;(conv=>whnf);refine pbr_t g11 ?_;(conv=>whnf);refine nth_o (l := a0) h23 (fun x26 _ h23 => ?_);(conv=>whnf);obtain ⟨y27, h28, h23⟩ := obnd_some h23;refine (c15 h28).go ?_;(conv=>whnf);refine pbr_oite h23 (fun g29 h23 => ?_) (fun g29 h23 => ?_)
                  · (conv=>whnf);(iterate 7 refine pbr_t g29 ?_;(conv=>whnf));cases h23;exact ⟨(.cons rfl (.cons rfl (.cons rfl (.cons rfl .nil)))), rfl⟩
                  · (conv=>whnf);refine pbr_f g29 ?_;(conv=>whnf);refine pbr_f g29 ?_;(conv=>whnf);refine pbr_t g11 ?_;(conv=>whnf);refine nth_o (l := a0) h23 (fun x30 _ h23 => ?_);(conv=>whnf);(iterate 3 refine pbr_f g29 ?_;(conv=>whnf));obtain ⟨y31, h32, h23⟩ := obnd_some h23;refine (c15 h32).go ?_;(conv=>whnf);refine pbr_f g29 ?_;(conv=>whnf);refine pbr_f g29 ?_;(conv=>whnf);cases h23;exact ⟨(.cons rfl (.cons rfl (.cons rfl (.cons rfl .nil)))), rfl⟩
                · refine pw_cond ?_;(conv=>whnf);refine pbr_oite h9 (fun g33 h9 => ?_) (fun g33 h9 => ?_)
                  · (conv=>whnf);refine pwa ?_;(conv=>whnf);refine pw_ret ?_;(conv=>whnf);cases h9;refine ⟨_, rfl, ?_⟩; rintro rfl;(conv=>whnf);obtain rfl := h6 _ rfl; rfl
                  · (conv=>whnf);refine pw_skip ?_;(conv=>whnf);refine pw_ops ?_;refine po_all ?_;(conv=>whnf);refine pbr_t g11 ?_;(conv=>whnf);refine nth_o (l := a0) h9 (fun x35 _ h9 => ?_);(conv=>whnf);refine app_o (l := e7.1) (m := ([x35.1] : List ByteArray)) (f := eS) h9 (by rfl) (by rfl) (by rfl) (fun h9 => ?_);(conv=>whnf);refine pw_ops ?_;refine po_all ?_;(conv=>whnf);cases h9;refine ⟨_, rfl, ?_⟩;refine Recast.trunc (nl rfl) ?_ ?_
                    · repeat (first | exact .nil | refine .cons rfl (by first | exact OBnd.rwc (nl rfl) rfl | exact OBnd.tail (nl rfl) | trivial) ?_)
                    · repeat (first | exact .nil | refine .cons rfl (by first | exact Bnd.ptr (nl rfl) | exact Bnd.vt (nl rfl) | exact Bnd.cl) ?_)
          · (conv=>whnf);refine pw_exit ?_;(conv=>whnf);cases h9;refine ⟨_, rfl, ?_⟩; rintro rfl;(conv=>whnf);refine ⟨_, rfl, ?_⟩;exact Recast.fz (fun _ => false) (nl rfl) .nil .nil
      · intro r37 hr; have H := h5 _ hr;refine pwa ?_;(conv=>whnf);refine pw_ret ?_;(conv=>whnf);cases H; rfl

/-- guidevane/guidevanebase.Has -/
noncomputable def f344 [LO]  (a0 : List Int) (a1 : Int) : Option Bool :=
  obndS (
   oloop (τ := Int) (ρ := (Unit) ⊕ Bool) (fun e5 =>
    oite ((ilt e5 ((a0.map eI).length : Int))) (
     ogrd ((ile 0 e5)) (
     obnd (a0[e5.toNat]?) fun (x10 : Int) =>
     oite ((ieq x10 a1)) (
      some (.inr (.inr (true)))
       ) (
      some (.inl (IntKind.i64.wrap (e5 + (1 : Int))))
       )
     )
      ) (
     some (.inr (.inl ()))
      )
     ) (0 : Int)
    ) fun (_ : Unit) =>
  some false
set_option maxHeartbeats 1000000 in
theorem c344 [LO]  {a0 : List Int} {a1 : Int} {x : Bool} (H : f344 a0 a1 = some x) : ICalls E 344 [(VS 1 (a0.map eI)), (.int .i64 a1)] AHeap.none fun v _ => v = (.bool x) := by
  refine icalls_fn (pfnw ?_); unfold f344 at H;(conv=>whnf);refine pwa ?_;(conv=>whnf);obtain ⟨r1, h2, h3, h4⟩ := obndS_some H;refine pw_joinS (ρ := Unit) (fun e => ⟨[], ⟨0, [], false⟩⟩) r1 ?_ ?_
  · refine pwa ?_;(conv=>whnf);refine pw_block ?_;refine pw_loop (τ := Int) (fun e => ⟨[(0, (VS 1 (a0.map eI))), (1, (.int .i64 a1)), (5, (.int .i64 e))], ⟨0, [], false⟩⟩) h2 ?_ (fun _ => nl rfl) ?_
    · exact .sub' (nl rfl) (.cons rfl (.cons rfl (.cons rfl .nil)))
    · intro e5 x6 h7;refine pw_seq ?_;refine pwa ?_;(conv=>whnf);refine pw_cond ?_;(conv=>whnf);refine pbr_oite h7 (fun g8 h7 => ?_) (fun g8 h7 => ?_)
      · (conv=>whnf);refine pw_skip ?_;(conv=>whnf);refine pw_seq ?_;refine pw_block ?_;refine pwa ?_;(conv=>whnf);refine pbr_ogrd h7 (fun g9 h7 => ?_);(conv=>whnf);refine nth_o (l := a0) h7 (fun x10 _ h7 => ?_);(conv=>whnf);refine pw_cond ?_;(conv=>whnf);refine pbr_oite h7 (fun g11 h7 => ?_) (fun g11 h7 => ?_)
        · (conv=>whnf);refine pwa ?_;(conv=>whnf);refine pw_ret ?_;(conv=>whnf);cases h7;refine ⟨_, rfl, ?_⟩; rintro rfl;(conv=>whnf);obtain rfl := h4 _ rfl; rfl
        · (conv=>whnf);refine pw_skip ?_;(conv=>whnf);refine pw_ops ?_;refine po_all ?_;(conv=>whnf);cases h7;refine ⟨_, rfl, ?_⟩;exact .sub' (nl rfl) (.cons rfl (.cons rfl (.cons rfl .nil)))
      · (conv=>whnf);refine pw_exit ?_;(conv=>whnf);cases h7;refine ⟨_, rfl, ?_⟩; rintro rfl;(conv=>whnf);exact ⟨_, rfl, ⟨.nil, rfl⟩⟩
  · intro r14 hr; have H := h3 _ hr;refine pwa ?_;(conv=>whnf);refine pw_ret ?_;(conv=>whnf);cases H; rfl

/-- guidevane/guidevaneref08.OrderErr -/
noncomputable def f338 [LO]  (a0 : List (ByteArray × Int × Int)) (a1 : List Int) : Option Int :=
  oite ((!(ieq ((a1.map eI).length : Int) ((a0.map e_SII).length : Int)))) (
   some (10 : Int)
    ) (
   obndS (
    oloop (τ := Int) (ρ := (Unit) ⊕ Int) (fun e6 =>
     oite ((ilt e6 ((a1.map eI).length : Int))) (
      ogrd ((ile 0 e6)) (
      obnd (a1[e6.toNat]?) fun (x11 : Int) =>
      obnd (f15 x11 (0 : Int) ((IntKind.i64.wrap (((a0.map e_SII).length : Int) - (1 : Int))))) fun (y12 : Bool) =>
      oite (!y12) (
       some (.inr (.inr ((6 : Int))))
        ) (
       obnd (oslH a1 e6) fun (m16 : List Int) =>
       obnd (a1[e6.toNat]?) fun (x19 : Int) =>
       obnd (f344 m16 x19) fun (y20 : Bool) =>
       oite y20 (
        some (.inr (.inr ((23 : Int))))
         ) (
        some (.inl (IntKind.i64.wrap (e6 + (1 : Int))))
         )
        )
      )
       ) (
      some (.inr (.inl ()))
       )
      ) (0 : Int)
     ) fun (_ : Unit) =>
   some (0 : Int)
    )
set_option maxHeartbeats 1000000 in
theorem c338 [LO]  {a0 : List (ByteArray × Int × Int)} {a1 : List Int} {x : Int} (H : f338 a0 a1 = some x) : ICalls E 338 [(VS 3 (a0.map e_SII)), (VS 1 (a1.map eI))] AHeap.none fun v _ => v = (.int .i64 x) := by
  refine icalls_fn (pfnw ?_); unfold f338 at H;(conv=>whnf);refine pwa ?_;(conv=>whnf);refine pw_seq ?_;refine pwa ?_;(conv=>whnf);refine pw_cond ?_;(conv=>whnf);refine pbr_oite H (fun g1 H => ?_) (fun g1 H => ?_)
  · (conv=>whnf);refine pwa ?_;(conv=>whnf);refine pw_ret ?_;(conv=>whnf);cases H; rfl
  · (conv=>whnf);refine pw_skip ?_;(conv=>whnf);obtain ⟨r2, h3, h4, h5⟩ := obndS_some H;refine pw_joinS (ρ := Unit) (fun e => ⟨[], ⟨0, [], false⟩⟩) r2 ?_ ?_
    · refine pwa ?_;(conv=>whnf);refine pw_block ?_;refine pw_loop (τ := Int) (fun e => ⟨[(0, (VS 3 (a0.map e_SII))), (1, (VS 1 (a1.map eI))), (5, (.int .i64 e))], ⟨0, [], false⟩⟩) h3 ?_ (fun _ => nl rfl) ?_
      · exact .sub' (nl rfl) (.cons rfl (.cons rfl (.cons rfl .nil)))
      · intro e6 x7 h8;refine pw_seq ?_;refine pwa ?_;(conv=>whnf);refine pw_cond ?_;(conv=>whnf);refine pbr_oite h8 (fun g9 h8 => ?_) (fun g9 h8 => ?_)
        · (conv=>whnf);refine pw_skip ?_;(conv=>whnf);refine pw_seq ?_;refine pw_block ?_;refine pw_seq ?_;refine pwa ?_;(conv=>whnf);refine pbr_ogrd h8 (fun g10 h8 => ?_);(conv=>whnf);refine nth_o (l := a1) h8 (fun x11 _ h8 => ?_);(conv=>whnf);obtain ⟨y12, h13, h8⟩ := obnd_some h8;refine (c15 h13).go ?_;(conv=>whnf);refine pw_cond ?_;(conv=>whnf);refine pbr_oite h8 (fun g14 h8 => ?_) (fun g14 h8 => ?_)
          · (conv=>whnf);refine pwa ?_;(conv=>whnf);refine pw_ret ?_;(conv=>whnf);cases h8;refine ⟨_, rfl, ?_⟩; rintro rfl;(conv=>whnf);obtain rfl := h5 _ rfl; rfl
          · (conv=>whnf);refine pw_skip ?_;(conv=>whnf);refine pw_sd ?_;(conv=>whnf);refine oslH_o (f := eI) h8 (fun m16 _ h8 h17 h18 => ?_);refine pbr_t (ile_t h17.1) ?_;(conv=>whnf);refine pbr_t (ile_t (by simpa only [List.length_map] using h17.2)) ?_; rw [h18];(conv=>whnf);refine pbr_t g10 ?_;(conv=>whnf);refine nth_o (l := a1) h8 (fun x19 _ h8 => ?_);(conv=>whnf);refine ⟨?_, trivial⟩;(conv=>whnf);obtain ⟨y20, h21, h8⟩ := obnd_some h8;refine (c344 h21).go ?_;(conv=>whnf);refine ⟨by repeat (first | exact trivial | refine And.intro rfl ?_), ?_⟩;(conv=>whnf);refine pw_cond ?_;(conv=>whnf);refine pbr_oite h8 (fun g22 h8 => ?_) (fun g22 h8 => ?_)
            · (conv=>whnf);refine pwa ?_;(conv=>whnf);refine pw_ret ?_;(conv=>whnf);cases h8;refine ⟨_, rfl, ?_⟩; rintro rfl;(conv=>whnf);obtain rfl := h5 _ rfl; rfl
            · (conv=>whnf);refine pw_skip ?_;(conv=>whnf);refine pw_ops ?_;refine po_all ?_;(conv=>whnf);cases h8;refine ⟨_, rfl, ?_⟩;exact .sub' (nl rfl) (.cons rfl (.cons rfl (.cons rfl .nil)))
        · (conv=>whnf);refine pw_exit ?_;(conv=>whnf);cases h8;refine ⟨_, rfl, ?_⟩; rintro rfl;(conv=>whnf);exact ⟨_, rfl, ⟨.nil, rfl⟩⟩
    · intro r25 hr; have H := h4 _ hr;refine pwa ?_;(conv=>whnf);refine pw_ret ?_;(conv=>whnf);cases H; rfl

/-- guidevane/guidevaneref08.Lateness -/
noncomputable def l339_1 [LO] (a1 : List Int) (a0 : List (ByteArray × Int × Int)) (e5 : Int × Int × Int) : Option ((Int × Int × Int) ⊕ Int) :=
  oite ((ilt e5.2.2 ((a1.map eI).length : Int))) (
   ogrd ((ile 0 e5.2.2)) (
   obnd (a1[e5.2.2.toNat]?) fun (x10 : Int) =>
   ogrd ((ile 0 x10)) (
   obnd (a0[x10.toNat]?) fun (x12 : ByteArray × Int × Int) =>
   obnd (
    oite ((ieq e5.2.2 (0 : Int))) (
     some true
      ) (
     some (ilt e5.2.1 (IntKind.i64.wrap ((IntKind.i64.wrap (e5.1 + x12.2.2)) - x12.2.1)))
      )
     ) fun (r13 : Bool) =>
   oite r13 (
    some (.inl (((IntKind.i64.wrap (e5.1 + x12.2.2)), (IntKind.i64.wrap ((IntKind.i64.wrap (e5.1 + x12.2.2)) - x12.2.1)), (IntKind.i64.wrap (e5.2.2 + (1 : Int))))))
     ) (
    some (.inl (((IntKind.i64.wrap (e5.1 + x12.2.2)), e5.2.1, (IntKind.i64.wrap (e5.2.2 + (1 : Int))))))
     )
   )
   )
    ) (
   some (.inr (e5.2.1))
    )
noncomputable def f339 [LO]  (a0 : List (ByteArray × Int × Int)) (a1 : List Int) : Option Int :=
  obnd (
   oloop (τ := Int × Int × Int) (ρ := Int) (l339_1 a1 a0) (((0 : Int), (0 : Int), (0 : Int)))
    ) fun (r1 : Int) =>
  some r1
set_option maxHeartbeats 1000000 in
theorem c339 [LO]  {a0 : List (ByteArray × Int × Int)} {a1 : List Int} {x : Int} (H : f339 a0 a1 = some x) : ICalls E 339 [(VS 3 (a0.map e_SII)), (VS 1 (a1.map eI))] AHeap.none fun v _ => v = (.int .i64 x) := by
  refine icalls_fn (pfnw ?_); unfold f339 at H;(conv=>whnf);refine pwa ?_;(conv=>whnf);refine pwa ?_;(conv=>whnf);obtain ⟨r1, h2, H⟩ := obnd_some H;refine pw_join (ρ := Int) (fun e => ⟨[(6, (.int .i64 e))], ⟨0, [], false⟩⟩) r1 ?_ ?_
  · refine pwa ?_;(conv=>whnf);refine pw_block ?_;refine pw_loop (τ := Int × Int × Int) (fun e => ⟨[(0, (VS 3 (a0.map e_SII))), (1, (VS 1 (a1.map eI))), (5, (.int .i64 e.1)), (6, (.int .i64 e.2.1)), (7, (.int .i64 e.2.2))], ⟨0, [], false⟩⟩) h2 ?_ (fun _ => nl rfl) ?_
    · exact .sub' (nl rfl) (.cons rfl (.cons rfl (.cons rfl (.cons rfl (.cons rfl .nil)))))
    · intro e5 x6 h7; unfold l339_1 at h7;refine pw_seq ?_;refine pwa ?_;(conv=>whnf);refine pw_cond ?_;(conv=>whnf);refine pbr_oite h7 (fun g8 h7 => ?_) (fun g8 h7 => ?_)
      · (conv=>whnf);refine pw_skip ?_;(conv=>whnf);refine pw_seq ?_;refine pw_block ?_;refine pwa ?_;(conv=>whnf);refine pbr_ogrd h7 (fun g9 h7 => ?_);(conv=>whnf);refine nth_o (l := a1) h7 (fun x10 _ h7 => ?_);(conv=>whnf);refine pbr_ogrd h7 (fun g11 h7 => ?_);(conv=>whnf);refine nth_o (l := a0) h7 (fun x12 _ h7 => ?_);(conv=>whnf);refine pwa ?_;(conv=>whnf);obtain ⟨r13, h14, h7⟩ := obnd_some h7;refine pw_join (ρ := Bool) (fun e => ⟨[(0, (VS 3 (a0.map e_SII))), (1, (VS 1 (a1.map eI))), (5, (.int .i64 (IntKind.i64.wrap (e5.1 + x12.2.2)))), (6, (.int .i64 e5.2.1)), (7, (.int .i64 e5.2.2)), (8, (.pointer (some ⟨0, 0, none⟩))), (35, (.bool e))], ⟨1, [(0, .rw [(.string x12.1), (.int .i64 x12.2.1), (.int .i64 x12.2.2)])], false⟩⟩) r13 ?_ ?_
        · refine pw_ops ?_;refine po_all ?_;(conv=>whnf);refine pbr_oite h14 (fun g17 h14 => ?_) (fun g17 h14 => ?_)
          · (conv=>whnf);(iterate 6 refine pbr_t g17 ?_;(conv=>whnf));cases h14;exact ⟨(.cons rfl (.cons rfl (.cons rfl (.cons rfl (.cons rfl (.cons rfl (.cons rfl .nil))))))), rfl⟩
          · (conv=>whnf);(iterate 6 refine pbr_f g17 ?_;(conv=>whnf));cases h14;exact ⟨(.cons rfl (.cons rfl (.cons rfl (.cons rfl (.cons rfl (.cons rfl (.cons rfl .nil))))))), rfl⟩
        · refine pw_cond ?_;(conv=>whnf);refine pbr_oite h7 (fun g18 h7 => ?_) (fun g18 h7 => ?_)
          · (conv=>whnf);refine pw_ops ?_;refine po_all ?_;(conv=>whnf);refine pw_ops ?_;refine po_all ?_;(conv=>whnf);cases h7;refine ⟨_, rfl, ?_⟩;refine Recast.trunc (nl rfl) ?_ ?_
            · repeat (first | exact .nil | refine .cons rfl (by first | exact OBnd.rwc (nl rfl) rfl | exact OBnd.tail (nl rfl) | trivial) ?_)
            · repeat (first | exact .nil | refine .cons rfl (by first | exact Bnd.ptr (nl rfl) | exact Bnd.vt (nl rfl) | exact Bnd.cl) ?_)
          · (conv=>whnf);refine pw_skip ?_;(conv=>whnf);refine pw_ops ?_;refine po_all ?_;(conv=>whnf);cases h7;refine ⟨_, rfl, ?_⟩;refine Recast.trunc (nl rfl) ?_ ?_
            · repeat (first | exact .nil | refine .cons rfl (by first | exact OBnd.rwc (nl rfl) rfl | exact OBnd.tail (nl rfl) | trivial) ?_)
            · repeat (first | exact .nil | refine .cons rfl (by first | exact Bnd.ptr (nl rfl) | exact Bnd.vt (nl rfl) | exact Bnd.cl) ?_)
      · (conv=>whnf);refine pw_exit ?_;(conv=>whnf);cases h7;refine ⟨_, rfl, ?_⟩; rintro rfl;(conv=>whnf);exact ⟨(.cons rfl .nil), rfl⟩
  · refine pwa ?_;(conv=>whnf);refine pw_ret ?_;(conv=>whnf);cases H; rfl

/-- guidevane/guidevaneref08.byDue -/
noncomputable def l365_1 [LO] (a0 : List (ByteArray × Int × Int)) (e7 : (List Int)) (e15 : Int × Int) : Option ((Int × Int) ⊕ Int) :=
  oite ((ilt e15.2 ((a0.map e_SII).length : Int))) (
   obnd (
    obnd (f344 e7 e15.2) fun (y23 : Bool) =>
    oite (!y23) (
     oite ((ilt e15.1 (0 : Int))) (
      some true
       ) (
      ogrd ((ile 0 e15.2)) (
      obnd (a0[e15.2.toNat]?) fun (x28 : ByteArray × Int × Int) =>
      ogrd ((ile 0 e15.1)) (
      obnd (a0[e15.1.toNat]?) fun (x30 : ByteArray × Int × Int) =>
      some (ilt x28.2.1 x30.2.1)
      )
      )
       )
      ) (
     some false
      )
     ) fun (r19 : Bool) =>
   oite r19 (
    some (.inl (e15.2, (IntKind.i64.wrap (e15.2 + (1 : Int)))))
     ) (
    some (.inl (e15.1, (IntKind.i64.wrap (e15.2 + (1 : Int)))))
     )
    ) (
   some (.inr (e15.1))
    )
noncomputable def l365_2 [LO] (a0 : List (ByteArray × Int × Int)) (e7 : (List Int)) : Option (((List Int)) ⊕ ((List Int))) :=
  oite ((ilt ((e7.map eI).length : Int) ((a0.map e_SII).length : Int))) (
   obnd (
    oloop (τ := Int × Int) (ρ := Int) (l365_1 a0 e7) (((-1 : Int), (0 : Int)))
     ) fun (r11 : Int) =>
   ogrd (fits 8 (e7.length + ([r11] : List Int).length)) (
   some (.inl (e7 ++ ([r11] : List Int)))
   )
    ) (
   some (.inr (e7))
    )
noncomputable def f365 [LO]  (a0 : List (ByteArray × Int × Int)) (a1 : List Int) : Option ((List Int)) :=
  obnd (f38 a1) fun (y1 : (List Int)) =>
  obnd (
   oloop (τ := (List Int)) (ρ := (List Int)) (l365_2 a0) y1
    ) fun (r3 : (List Int)) =>
  some r3
set_option maxHeartbeats 1000000 in
theorem c365 [LO]  {a0 : List (ByteArray × Int × Int)} {a1 : List Int} {x : (List Int)} (H : f365 a0 a1 = some x) : ICalls E 365 [(VS 3 (a0.map e_SII)), (VS 1 (a1.map eI))] AHeap.none fun v _ => v = (VS 1 (x.map eI)) := by
  refine ICalls.frz ?_;refine icalls_fn (pfnw ?_); unfold f365 at H;(conv=>whnf);refine pwa ?_;(conv=>whnf);refine pwa ?_;(conv=>whnf);obtain ⟨y1, h2, H⟩ := obnd_some H;refine ICalls.goFW (c38f h2) (.cons (.refl _) .nil) ?_;(conv=>whnf);obtain ⟨r3, h4, H⟩ := obnd_some H;refine pw_join (ρ := (List Int)) (fun e => ⟨[(5, (VT 1 (e.map eI) 0))], ⟨1, [(0, .tail (e.map eI).length 1)], false⟩⟩) r3 ?_ ?_
  · refine pw_block ?_;refine pw_loop (τ := (List Int)) (fun e => ⟨[(0, (VS 3 (a0.map e_SII))), (5, (VT 1 (e.map eI) 0))], ⟨1, [(0, .tail (e.map eI).length 1)], false⟩⟩) h4 ?_ (fun _ => nl rfl) ?_
    · exact .sub' (nl rfl) (.cons rfl (.cons rfl .nil))
    · intro e7 x8 h9; unfold l365_2 at h9;refine pw_seq ?_;refine pwa ?_;(conv=>whnf);refine pw_cond ?_;(conv=>whnf);refine pbr_oite h9 (fun g10 h9 => ?_) (fun g10 h9 => ?_)
      · (conv=>whnf);refine pw_skip ?_;(conv=>whnf);refine pw_block ?_;refine pwa ?_;(conv=>whnf);obtain ⟨r11, h12, h9⟩ := obnd_some h9;refine pw_join (ρ := Int) (fun e => ⟨[(0, (VS 3 (a0.map e_SII))), (5, (VT 1 (e7.map eI) 0)), (6, (.int .i64 e))], ⟨1, [(0, .tail (e7.map eI).length 1)], false⟩⟩) r11 ?_ ?_
        · refine pwa ?_;(conv=>whnf);refine pw_block ?_;refine pw_loop (τ := Int × Int) (fun e => ⟨[(0, (VS 3 (a0.map e_SII))), (5, (VT 1 (e7.map eI) 0)), (6, (.int .i64 e.1)), (7, (.int .i64 e.2))], ⟨1, [(0, .tail (e7.map eI).length 1)], false⟩⟩) h12 ?_ (fun _ => nl rfl) ?_
          · exact .sub' (nl rfl) (.cons rfl (.cons rfl (.cons rfl (.cons rfl .nil))))
          · intro e15 x16 h17; unfold l365_1 at h17;refine pw_seq ?_;refine pwa ?_;(conv=>whnf);refine pw_cond ?_;(conv=>whnf);refine pbr_oite h17 (fun g18 h17 => ?_) (fun g18 h17 => ?_)
            · (conv=>whnf);refine pw_skip ?_;(conv=>whnf);refine pw_seq ?_;refine pw_block ?_;obtain ⟨r19, h20, h17⟩ := obnd_some h17;refine pw_join (ρ := Bool) (fun e => ⟨[(0, (VS 3 (a0.map e_SII))), (5, (VT 1 (e7.map eI) 0)), (6, (.int .i64 e15.1)), (7, (.int .i64 e15.2)), (41, (.bool e))], ⟨1, [(0, .tail (e7.map eI).length 1)], false⟩⟩) r19 ?_ ?_
              · refine pw_draw ?_;(conv=>whnf);refine ⟨?_, trivial⟩;(conv=>whnf);obtain ⟨y23, h24, h20⟩ := obnd_some h20;refine ICalls.goW (c344 h24) (.cons (.vt _ _ _) (.cons (.refl _) .nil)) ?_;(conv=>whnf);refine ⟨by repeat (first | exact trivial | refine And.intro rfl ?_), ?_⟩;(conv=>whnf);refine pbr_oite h20 (fun g25 h20 => ?_) (fun g25 h20 => ?_)
                · (conv=>whnf);refine pbr_t g25 ?_;(conv=>whnf);refine pbr_t g25 ?_;(conv=>whnf);refine pbr_oite h20 (fun g26 h20 => ?_) (fun g26 h20 => ?_)
                  · (conv=>whnf);(iterate 10 refine pbr_t g26 ?_;(conv=>whnf));refine pbr_t g25 ?_;(conv=>whnf);refine pbr_t g26 ?_;(conv=>whnf);refine pbr_t g25 ?_;(conv=>whnf);cases h20;exact ⟨(.cons rfl (.cons rfl (.cons rfl (.cons rfl (.cons rfl .nil))))), rfl⟩
                  · (conv=>whnf);refine pbr_f g26 ?_;(conv=>whnf);refine pbr_f g26 ?_;(conv=>whnf);refine pbr_ogrd h20 (fun g27 h20 => ?_);(conv=>whnf);refine nth_o (l := a0) h20 (fun x28 _ h20 => ?_);(conv=>whnf);(iterate 5 refine pbr_f g26 ?_;(conv=>whnf));refine pbr_ogrd h20 (fun g29 h20 => ?_);(conv=>whnf);refine nth_o (l := a0) h20 (fun x30 _ h20 => ?_);(conv=>whnf);(iterate 3 refine pbr_f g26 ?_;(conv=>whnf));refine pbr_t g25 ?_;(conv=>whnf)
                    refine pbr_f g26 ?_;(conv=>whnf);refine pbr_t g25 ?_;(conv=>whnf);cases h20;exact ⟨(.cons rfl (.cons rfl (.cons rfl (.cons rfl (.cons rfl .nil))))), rfl⟩
                · (conv=>whnf);(iterate 4 refine pbr_f g25 ?_;(conv=>whnf));cases h20;exact ⟨(.cons rfl (.cons rfl (.cons rfl (.cons rfl (.cons rfl .nil))))), rfl⟩
              · refine pw_cond ?_;(conv=>whnf);refine pbr_oite h17 (fun g31 h17 => ?_) (fun g31 h17 => ?_)
                · (conv=>whnf);refine pw_ops ?_;refine po_all ?_;(conv=>whnf);refine pw_ops ?_;refine po_all ?_;(conv=>whnf);cases h17;refine ⟨_, rfl, ?_⟩;exact .sub' (nl rfl) (.cons rfl (.cons rfl (.cons rfl (.cons rfl .nil))))
                · (conv=>whnf);refine pw_skip ?_;(conv=>whnf);refine pw_ops ?_;refine po_all ?_;(conv=>whnf);cases h17;refine ⟨_, rfl, ?_⟩;exact .sub' (nl rfl) (.cons rfl (.cons rfl (.cons rfl (.cons rfl .nil))))
            · (conv=>whnf);refine pw_exit ?_;(conv=>whnf);cases h17;refine ⟨_, rfl, ?_⟩; rintro rfl;(conv=>whnf);exact ⟨(.cons rfl (.cons rfl (.cons rfl .nil))), rfl⟩
        · refine pw_ops ?_;refine po_all ?_;(conv=>whnf);refine app_o (l := e7) (m := ([r11] : List Int)) (f := eI) h9 (by rfl) (by rfl) (by rfl) (fun h9 => ?_);(conv=>whnf);cases h9;refine ⟨_, rfl, ?_⟩;refine Recast.trunc (nl rfl) ?_ ?_
          · repeat (first | exact .nil | refine .cons rfl (by first | exact OBnd.rwc (nl rfl) rfl | exact OBnd.tail (nl rfl) | trivial) ?_)
          · repeat (first | exact .nil | refine .cons rfl (by first | exact Bnd.ptr (nl rfl) | exact Bnd.vt (nl rfl) | exact Bnd.cl) ?_)
      · (conv=>whnf);refine pw_exit ?_;(conv=>whnf);cases h9;refine ⟨_, rfl, ?_⟩; rintro rfl;(conv=>whnf);exact ⟨(.cons rfl .nil), rfl⟩
  · refine pwa ?_;(conv=>whnf);refine pw_ret ?_;(conv=>whnf);cases H; show ∃ D, Fz _ D 0 (VT 1 _ 0) _;exact ⟨fun _ => false, .vtc⟩

/-- guidevane/guidevaneref08.BestOrder -/
noncomputable def l340_1 [LO] (a0 : List (ByteArray × Int × Int)) (e9 : (List Int)) (y3 : Int) (e13 : Int) : Option ((Int) ⊕ (((List Int)) ⊕ ((List Int)))) :=
  oite ((ilt e13 ((a0.map e_SII).length : Int))) (
   obnd (f344 e9 e13) fun (y17 : Bool) =>
   oite y17 (
    some (.inl (IntKind.i64.wrap (e13 + (1 : Int))))
     ) (
    obnd (f38 e9) fun (y20 : (List Int)) =>
    ogrd (fits 8 (y20.length + ([e13] : List Int).length)) (
    obnd (f365 a0 (y20 ++ ([e13] : List Int))) fun (y22 : (List Int)) =>
    obnd (f339 a0 y22) fun (y24 : Int) =>
    oite ((ieq y24 y3)) (
     oinr (
       ogrd (!(y20 ++ ([e13] : List Int)).isEmpty) (
       some (.inl (y20 ++ ([e13] : List Int)))
       )
       )
      ) (
     some (.inl (IntKind.i64.wrap (e13 + (1 : Int))))
      )
    )
     )
    ) (
   some (.inr (.inl e9))
    )
noncomputable def l340_2 [LO] (a0 : List (ByteArray × Int × Int)) (y3 : Int) (e9 : (List Int)) : Option (((List Int)) ⊕ ((List Int))) :=
  oite ((ilt ((e9.map eI).length : Int) ((a0.map e_SII).length : Int))) (
   oloop (τ := Int) (ρ := ((List Int)) ⊕ ((List Int))) (l340_1 a0 e9 y3) (0 : Int)
    ) (
   some (.inr (e9))
    )
noncomputable def f340 [LO]  (a0 : List (ByteArray × Int × Int)) : Option ((List Int) × Int) :=
  obnd (f365 a0 ([] : List Int)) fun (y1 : (List Int)) =>
  obnd (f339 a0 y1) fun (y3 : Int) =>
  obnd (
   oloop (τ := (List Int)) (ρ := (List Int)) (l340_2 a0 y3) ([] : List Int)
    ) fun (r5 : (List Int)) =>
  some (r5, y3)
set_option maxHeartbeats 1000000 in
theorem c340 [LO]  {a0 : List (ByteArray × Int × Int)} {x : (List Int) × Int} (H : f340 a0 = some x) : ICalls E 340 [(VS 3 (a0.map e_SII))] AHeap.none fun v _ => v = (.tuple ⟨[(VS 1 (x.1.map eI)), (.int .i64 x.2)]⟩) := by
  refine ICalls.frz ?_;refine icalls_fn (pfnw ?_); unfold f340 at H;(conv=>whnf);refine pwa ?_;(conv=>whnf);refine pwa ?_;(conv=>whnf);obtain ⟨y1, h2, H⟩ := obnd_some H;refine ICalls.goW (c365 h2) (.cons (.refl _) (.cons (.nil _) .nil)) ?_;(conv=>whnf);obtain ⟨y3, h4, H⟩ := obnd_some H;refine (c339 h4).go ?_;(conv=>whnf);refine pwa ?_;(conv=>whnf);obtain ⟨r5, h6, H⟩ := obnd_some H;refine pw_join (ρ := (List Int)) (fun e => ⟨[(4, (.int .i64 y3)), (5, (vni e))], ⟨0, [], false⟩⟩) r5 ?_ ?_
  · refine pw_block ?_;refine pw_loop (τ := (List Int)) (fun e => ⟨[(0, (VS 3 (a0.map e_SII))), (4, (.int .i64 y3)), (5, (vni e))], ⟨0, [], false⟩⟩) h6 ?_ (fun _ => nl rfl) ?_
    · exact .sub' (nl rfl) (.cons rfl (.cons rfl (.cons rfl .nil)))
    · intro e9 x10 h11; unfold l340_2 at h11;refine pw_seq ?_;refine pwa ?_;(conv=>whnf);obtain ⟨_, _, q32⟩ := vsl_vni e9; rw [q32];(conv=>whnf);refine pw_cond ?_;(conv=>whnf);refine pbr_oite h11 (fun g12 h11 => ?_) (fun g12 h11 => ?_)
      · (conv=>whnf);refine pw_skip ?_;(conv=>whnf);refine pw_block ?_;refine pwa ?_;(conv=>whnf);refine pw_block ?_;refine pw_loop (τ := Int) (fun e => ⟨[(0, (VS 3 (a0.map e_SII))), (4, (.int .i64 y3)), (5, (vni e9)), (6, (.int .i64 e))], ⟨0, [], false⟩⟩) h11 ?_ (fun _ => nl rfl) ?_
        · exact .sub' (nl rfl) (.cons rfl (.cons rfl (.cons rfl (.cons rfl .nil))))
        · intro e13 x14 h15; unfold l340_1 at h15;refine pw_seq ?_;refine pwa ?_;(conv=>whnf);refine pw_cond ?_;(conv=>whnf);refine pbr_oite h15 (fun g16 h15 => ?_) (fun g16 h15 => ?_)
          · (conv=>whnf);refine pw_skip ?_;(conv=>whnf);refine pw_seq ?_;refine pw_block ?_;refine pw_seq ?_;refine pwa ?_;(conv=>whnf);obtain ⟨y17, h18, h15⟩ := obnd_some h15;refine ICalls.goW (c344 h18) (.cons (wk_vni _) (.cons (.refl _) .nil)) ?_;(conv=>whnf);refine pw_cond ?_;(conv=>whnf);refine pbr_oite h15 (fun g19 h15 => ?_) (fun g19 h15 => ?_)
            · (conv=>whnf);refine pw_exit ?_;(conv=>whnf);refine pw_ops ?_;refine po_all ?_;(conv=>whnf);cases h15;refine ⟨_, rfl, ?_⟩;exact .sub' (nl rfl) (.cons rfl (.cons rfl (.cons rfl (.cons rfl .nil))))
            · (conv=>whnf);refine pw_skip ?_;(conv=>whnf);refine pwa ?_;(conv=>whnf);obtain ⟨y20, h21, h15⟩ := obnd_some h15;refine ICalls.goFW (c38f h21) (.cons (wk_vni _) .nil) ?_;(conv=>whnf);refine app_o (l := y20) (m := ([e13] : List Int)) (f := eI) h15 (by rfl) (by rfl) (by rfl) (fun h15 => ?_);(conv=>whnf);refine pwa ?_;(conv=>whnf);obtain ⟨y22, h23, h15⟩ := obnd_some h15;refine ICalls.goW (c365 h23) (.cons (.refl _) (.cons (.vt _ _ _) .nil)) ?_;(conv=>whnf);obtain ⟨y24, h25, h15⟩ := obnd_some h15;refine (c339 h25).go ?_;(conv=>whnf);refine pw_cond ?_;(conv=>whnf);refine pbr_oite h15 (fun g26 h15 => ?_) (fun g26 h15 => ?_)
              · (conv=>whnf);refine pwa ?_;(conv=>whnf);refine pw_exit ?_;(conv=>whnf);obtain ⟨w29, rfl, h27⟩ := oinr_some h15;refine ⟨_, rfl, ?_⟩; rintro rfl;(conv=>whnf);obtain ⟨g28, h27⟩ := ogrd_some h27;cases h27;refine ⟨_, rfl, ?_⟩;refine Recast.trans (s' := ⟨[(0, (VS 3 (a0.map e_SII))), (4, (.int .i64 y3)), (5, (VS 1 ((y20 ++ ([e13] : List Int)).map eI)))], ⟨0, [], false⟩⟩) (by exact Recast.fz (fun _ => false) (nl rfl) .nil (.cons rfl (.same _ .cl) (.cons rfl (.same _ .cl) (.cons rfl .vtc  .nil)))) ?_;exact Recast.eq (congrArg (fun v => (⟨[(0, (VS 3 (a0.map e_SII))), (4, (.int .i64 y3)), (5, v)], ⟨0, [], false⟩⟩ : St)) (vni_ne g28).symm)
              · (conv=>whnf);refine pw_skip ?_;(conv=>whnf);refine pw_ops ?_;refine po_all ?_;(conv=>whnf);cases h15;refine ⟨_, rfl, ?_⟩;refine Recast.trunc (nl rfl) ?_ ?_
                · repeat (first | exact .nil | refine .cons rfl (by first | exact OBnd.rwc (nl rfl) rfl | exact OBnd.tail (nl rfl) | trivial) ?_)
                · repeat (first | exact .nil | refine .cons rfl (by first | exact Bnd.ptr (nl rfl) | exact Bnd.vt (nl rfl) | exact Bnd.cl) ?_)
          · (conv=>whnf);refine pw_exit ?_;(conv=>whnf);cases h15;refine ⟨_, rfl, ?_⟩; rintro rfl;(conv=>whnf);refine ⟨_, rfl, ?_⟩;exact .sub' (nl rfl) (.cons rfl (.cons rfl (.cons rfl .nil)))
      · (conv=>whnf);refine pw_exit ?_;(conv=>whnf);cases h11;refine ⟨_, rfl, ?_⟩; rintro rfl;(conv=>whnf);exact ⟨(.cons rfl (.cons rfl .nil)), rfl⟩
  · refine pwa ?_;(conv=>whnf);refine pw_ret ?_;(conv=>whnf);cases H; show ∃ D, Fz _ D 0 (.tuple ⟨[(vni r5), (.int .i64 y3)]⟩) _;exact ⟨fun _ => false, .tuplel (.cons .vni (.cons .cl (.nil)))⟩

/-- guidevane/guidevaneref08.Bound -/
noncomputable def f343 [LO]  (a0 : List (ByteArray × Int × Int)) (a1 : List Int) : Option Int :=
  obnd (
   oloop (τ := Int × Int × Int) (ρ := Int × Int) (fun e5 =>
    oite ((ilt e5.2.2 ((a1.map eI).length : Int))) (
     ogrd ((ile 0 e5.2.2)) (
     obnd (a1[e5.2.2.toNat]?) fun (x10 : Int) =>
     ogrd ((ile 0 x10)) (
     obnd (a0[x10.toNat]?) fun (x12 : ByteArray × Int × Int) =>
     obnd (a1[e5.2.2.toNat]?) fun (x13 : Int) =>
     ogrd ((ile 0 x13)) (
     obnd (a0[x13.toNat]?) fun (x15 : ByteArray × Int × Int) =>
     some (.inl (((IntKind.i64.wrap (e5.1 + x12.2.2)), (imax e5.2.1 x15.2.1), (IntKind.i64.wrap (e5.2.2 + (1 : Int))))))
     )
     )
     )
      ) (
     some (.inr ((e5.1, e5.2.1)))
      )
     ) (((0 : Int), (0 : Int), (0 : Int)))
    ) fun (r1 : Int × Int) =>
  some (IntKind.i64.wrap (r1.1 - r1.2))
set_option maxHeartbeats 1000000 in
theorem c343 [LO]  {a0 : List (ByteArray × Int × Int)} {a1 : List Int} {x : Int} (H : f343 a0 a1 = some x) : ICalls E 343 [(VS 3 (a0.map e_SII)), (VS 1 (a1.map eI))] AHeap.none fun v _ => v = (.int .i64 x) := by
  refine icalls_fn (pfnw ?_); unfold f343 at H;(conv=>whnf);refine pwa ?_;(conv=>whnf);refine pwa ?_;(conv=>whnf);obtain ⟨r1, h2, H⟩ := obnd_some H;refine pw_join (ρ := Int × Int) (fun e => ⟨[(5, (.int .i64 e.1)), (6, (.int .i64 e.2))], ⟨0, [], false⟩⟩) r1 ?_ ?_
  · refine pwa ?_;(conv=>whnf);refine pw_block ?_;refine pw_loop (τ := Int × Int × Int) (fun e => ⟨[(0, (VS 3 (a0.map e_SII))), (1, (VS 1 (a1.map eI))), (5, (.int .i64 e.1)), (6, (.int .i64 e.2.1)), (7, (.int .i64 e.2.2))], ⟨0, [], false⟩⟩) h2 ?_ (fun _ => nl rfl) ?_
    · exact .sub' (nl rfl) (.cons rfl (.cons rfl (.cons rfl (.cons rfl (.cons rfl .nil)))))
    · intro e5 x6 h7;refine pw_seq ?_;refine pwa ?_;(conv=>whnf);refine pw_cond ?_;(conv=>whnf);refine pbr_oite h7 (fun g8 h7 => ?_) (fun g8 h7 => ?_)
      · (conv=>whnf);refine pw_skip ?_;(conv=>whnf);refine pw_seq ?_;refine pw_block ?_;refine pw_draw ?_;(conv=>whnf);refine pbr_ogrd h7 (fun g9 h7 => ?_);(conv=>whnf);refine nth_o (l := a1) h7 (fun x10 _ h7 => ?_);(conv=>whnf);refine pbr_ogrd h7 (fun g11 h7 => ?_);(conv=>whnf);refine nth_o (l := a0) h7 (fun x12 _ h7 => ?_);(conv=>whnf);refine pbr_t g9 ?_;(conv=>whnf);refine nth_o (l := a1) h7 (fun x13 _ h7 => ?_);(conv=>whnf);refine pbr_ogrd h7 (fun g14 h7 => ?_);(conv=>whnf);refine nth_o (l := a0) h7 (fun x15 _ h7 => ?_);(conv=>whnf);refine ⟨?_, trivial⟩;(conv=>whnf);refine ⟨by repeat (first | exact trivial | refine And.intro rfl ?_), ?_⟩
        (conv=>whnf);refine ⟨?_, trivial⟩;(conv=>whnf);refine ⟨by repeat (first | exact trivial | refine And.intro rfl ?_), ?_⟩;(conv=>whnf);refine pw_ops ?_;refine po_all ?_;(conv=>whnf);cases h7;refine ⟨_, rfl, ?_⟩;exact .sub' (nl rfl) (.cons rfl (.cons rfl (.cons rfl (.cons rfl (.cons rfl .nil)))))
      · (conv=>whnf);refine pw_exit ?_;(conv=>whnf);cases h7;refine ⟨_, rfl, ?_⟩; rintro rfl;(conv=>whnf);exact ⟨(.cons rfl (.cons rfl .nil)), rfl⟩
  · refine pwa ?_;(conv=>whnf);refine pw_ret ?_;(conv=>whnf);cases H; rfl

/-- guidevane/guidevaneref08.groupOf -/
noncomputable def l366_1 [LO] (a0 : List (ByteArray × Int × Int)) (a1 : List Int) (p99 : (List (ByteArray × Int × Int)) → (List Int) → Int → Int → Option ((List Int) × Bool)) (a2 : Int) (a3 : Int) (e15 : Int) : Option ((Int) ⊕ ((Unit) ⊕ ((List Int) × Bool))) :=
  oite ((ilt e15 ((a0.map e_SII).length : Int))) (
   obnd (f38 a1) fun (y19 : (List Int)) =>
   ogrd (fits 8 (y19.length + ([e15] : List Int).length)) (
   obnd (p99 a0 (y19 ++ ([e15] : List Int)) (IntKind.i64.wrap (a2 - (1 : Int))) a3) fun (y21 : (List Int) × Bool) =>
   oite y21.2 (
    some (.inr (.inr ((y21.1, true))))
     ) (
    some (.inl (IntKind.i64.wrap (e15 + (1 : Int))))
     )
   )
    ) (
   some (.inr (.inl ()))
    )
noncomputable def r366 [LO] (p99 : (List (ByteArray × Int × Int)) → (List Int) → Int → Int → Option ((List Int) × Bool)) (a0 : List (ByteArray × Int × Int)) (a1 : List Int) (a2 : Int) (a3 : Int) : Option ((List Int) × Bool) :=
  oite ((ieq a2 (0 : Int))) (
   obnd (f343 a0 a1) fun (y2 : Int) =>
   some (a1, (ieq y2 a3))
    ) (
   obnd (
    oite ((ilt (0 : Int) ((a1.map eI).length : Int))) (
     ogrd ((ile 0 (IntKind.i64.wrap (((a1.map eI).length : Int) - (1 : Int))))) (
     obnd (a1[(IntKind.i64.wrap (((a1.map eI).length : Int) - (1 : Int))).toNat]?) fun (x10 : Int) =>
     some (IntKind.i64.wrap (x10 + (1 : Int)))
     )
      ) (
     some (0 : Int)
      )
     ) fun (r4 : Int) =>
   obndS (
    oloop (τ := Int) (ρ := (Unit) ⊕ ((List Int) × Bool)) (l366_1 a0 a1 p99 a2 a3) r4
     ) fun (_ : Unit) =>
   some (([] : List Int), false)
    )
set_option maxHeartbeats 1000000 in
theorem cr366 [LO] {p99 : (List (ByteArray × Int × Int)) → (List Int) → Int → Int → Option ((List Int) × Bool)} (hp99 : ∀ {a0 : List (ByteArray × Int × Int)} {a1 : List Int} {a2 : Int} {a3 : Int} {x : (List Int) × Bool}, p99 a0 a1 a2 a3 = some x → ICalls E 366 [(VS 3 (a0.map e_SII)), (VS 1 (a1.map eI)), (.int .i64 a2), (.int .i64 a3)] AHeap.none fun v _ => v = (.tuple ⟨[(VS 1 (x.1.map eI)), (.bool x.2)]⟩)) {a0 : List (ByteArray × Int × Int)} {a1 : List Int} {a2 : Int} {a3 : Int} {x : (List Int) × Bool} (H : r366 p99 a0 a1 a2 a3 = some x) : ICalls E 366 [(VS 3 (a0.map e_SII)), (VS 1 (a1.map eI)), (.int .i64 a2), (.int .i64 a3)] AHeap.none fun v _ => v = (.tuple ⟨[(VS 1 (x.1.map eI)), (.bool x.2)]⟩) := by
  refine ICalls.frz ?_;refine icalls_fn (pfnw ?_); unfold r366 at H;(conv=>whnf);refine pwa ?_;(conv=>whnf);refine pw_seq ?_;refine pwa ?_;(conv=>whnf);refine pw_cond ?_;(conv=>whnf);refine pbr_oite H (fun g1 H => ?_) (fun g1 H => ?_)
  · (conv=>whnf);refine pwa ?_;(conv=>whnf);obtain ⟨y2, h3, H⟩ := obnd_some H;refine (c343 h3).go ?_;(conv=>whnf);refine pw_ret ?_;(conv=>whnf);cases H; show ∃ D, Fz _ D 0 (.tuple ⟨[(VS 1 _), (.bool (ieq y2 a3))]⟩) _;exact ⟨fun _ => false, .tuplel (.cons .cl (.cons .cl (.nil)))⟩
  · (conv=>whnf);refine pw_skip ?_;(conv=>whnf);refine pwa ?_;(conv=>whnf);obtain ⟨r4, h5, H⟩ := obnd_some H;refine pw_join (ρ := Int) (fun e => ⟨[(0, (VS 3 (a0.map e_SII))), (1, (VS 1 (a1.map eI))), (2, (.int .i64 a2)), (3, (.int .i64 a3)), (10, (.int .i64 e))], ⟨0, [], false⟩⟩) r4 ?_ ?_
    · refine pwa ?_;(conv=>whnf);refine pw_cond ?_;(conv=>whnf);refine pbr_oite h5 (fun g8 h5 => ?_) (fun g8 h5 => ?_)
      · (conv=>whnf);refine pw_ops ?_;refine po_all ?_;(conv=>whnf);refine pbr_ogrd h5 (fun g9 h5 => ?_);(conv=>whnf);refine nth_o (l := a1) h5 (fun x10 _ h5 => ?_);(conv=>whnf);cases h5;exact ⟨(.cons rfl (.cons rfl (.cons rfl (.cons rfl (.cons rfl .nil))))), rfl⟩
      · (conv=>whnf);refine pw_skip ?_;(conv=>whnf);cases h5;exact ⟨(.cons rfl (.cons rfl (.cons rfl (.cons rfl (.cons rfl .nil))))), rfl⟩
    · obtain ⟨r11, h12, h13, h14⟩ := obndS_some H;refine pw_joinS (ρ := Unit) (fun e => ⟨[], ⟨0, [], false⟩⟩) r11 ?_ ?_
      · refine pwa ?_;(conv=>whnf);refine pw_block ?_;refine pw_loop (τ := Int) (fun e => ⟨[(0, (VS 3 (a0.map e_SII))), (1, (VS 1 (a1.map eI))), (2, (.int .i64 a2)), (3, (.int .i64 a3)), (11, (.int .i64 e))], ⟨0, [], false⟩⟩) h12 ?_ (fun _ => nl rfl) ?_
        · exact .sub' (nl rfl) (.cons rfl (.cons rfl (.cons rfl (.cons rfl (.cons rfl .nil)))))
        · intro e15 x16 h17; unfold l366_1 at h17;refine pw_seq ?_;refine pwa ?_;(conv=>whnf);refine pw_cond ?_;(conv=>whnf);refine pbr_oite h17 (fun g18 h17 => ?_) (fun g18 h17 => ?_)
          · (conv=>whnf);refine pw_skip ?_;(conv=>whnf);refine pw_seq ?_;refine pw_block ?_;refine pwa ?_;(conv=>whnf);obtain ⟨y19, h20, h17⟩ := obnd_some h17;refine ICalls.goFW (c38f h20) (.cons (.refl _) .nil) ?_;(conv=>whnf);refine app_o (l := y19) (m := ([e15] : List Int)) (f := eI) h17 (by rfl) (by rfl) (by rfl) (fun h17 => ?_);(conv=>whnf);obtain ⟨y21, h22, h17⟩ := obnd_some h17;refine ICalls.goW (hp99 h22) (.cons (.refl _) (.cons (.vt _ _ _) (.cons (.refl _) (.cons (.refl _) .nil)))) ?_;(conv=>whnf);refine pwa ?_;(conv=>whnf);refine pw_cond ?_;(conv=>whnf);refine pbr_oite h17 (fun g23 h17 => ?_) (fun g23 h17 => ?_)
            · (conv=>whnf);refine pwa ?_;(conv=>whnf);refine pw_ret ?_;(conv=>whnf);cases h17;refine ⟨_, rfl, ?_⟩; rintro rfl;(conv=>whnf);obtain rfl := h14 _ rfl; show ∃ D, Fz _ D 0 (.tuple ⟨[(VS 1 _), (.bool true)]⟩) _;exact ⟨fun _ => false, .tuplel (.cons .cl (.cons .cl (.nil)))⟩
            · (conv=>whnf);refine pw_skip ?_;(conv=>whnf);refine pw_ops ?_;refine po_all ?_;(conv=>whnf);cases h17;refine ⟨_, rfl, ?_⟩;refine Recast.trunc (nl rfl) ?_ ?_
              · repeat (first | exact .nil | refine .cons rfl (by first | exact OBnd.rwc (nl rfl) rfl | exact OBnd.tail (nl rfl) | trivial) ?_)
              · repeat (first | exact .nil | refine .cons rfl (by first | exact Bnd.ptr (nl rfl) | exact Bnd.vt (nl rfl) | exact Bnd.cl) ?_)
          · (conv=>whnf);refine pw_exit ?_;(conv=>whnf);cases h17;refine ⟨_, rfl, ?_⟩; rintro rfl;(conv=>whnf);exact ⟨_, rfl, ⟨.nil, rfl⟩⟩
      · intro r26 hr; have H := h13 _ hr;refine pwa ?_;(conv=>whnf);refine pw_ret ?_;(conv=>whnf);cases H; show ∃ D, Fz _ D 0 (.tuple ⟨[(.slice none 0 0), (.bool false)]⟩) _;exact ⟨fun _ => false, .tuplel (.cons (.nil _) (.cons .cl (.nil)))⟩
noncomputable def f366n [LO] : Nat → (List (ByteArray × Int × Int)) → (List Int) → Int → Int → Option ((List Int) × Bool)
  | 0 => fun _ _ _ _ => none
  | n + 1 => r366 (f366n n)
theorem c366n [LO] : ∀ (n : Nat) {a0 : List (ByteArray × Int × Int)} {a1 : List Int} {a2 : Int} {a3 : Int} {x : (List Int) × Bool}, f366n n a0 a1 a2 a3 = some x → ICalls E 366 [(VS 3 (a0.map e_SII)), (VS 1 (a1.map eI)), (.int .i64 a2), (.int .i64 a3)] AHeap.none fun v _ => v = (.tuple ⟨[(VS 1 (x.1.map eI)), (.bool x.2)]⟩)
  | 0, _, _, _, _, _, H => by cases H
  | n + 1, _, _, _, _, _, H => cr366 (fun h => c366n n h) H
noncomputable def f366 [LO] (a0 : List (ByteArray × Int × Int)) (a1 : List Int) (a2 : Int) (a3 : Int) : Option ((List Int) × Bool) := f366n (a2.toNat + 1) a0 a1 a2 a3
theorem c366 [LO] {a0 : List (ByteArray × Int × Int)} {a1 : List Int} {a2 : Int} {a3 : Int} {x : (List Int) × Bool} (H : f366 a0 a1 a2 a3 = some x) : ICalls E 366 [(VS 3 (a0.map e_SII)), (VS 1 (a1.map eI)), (.int .i64 a2), (.int .i64 a3)] AHeap.none fun v _ => v = (.tuple ⟨[(VS 1 (x.1.map eI)), (.bool x.2)]⟩) := c366n _ H

/-- guidevane/guidevaneref08.Group -/
noncomputable def l341_1 [LO] (a0 : List (ByteArray × Int × Int)) (y1 : (List Int) × Int) (e7 : Int) : Option ((Int) ⊕ ((Unit) ⊕ ((List Int)))) :=
  oite ((ile e7 ((a0.map e_SII).length : Int))) (
   obnd (f366 a0 ([] : List Int) e7 y1.2) fun (y11 : (List Int) × Bool) =>
   oite y11.2 (
    some (.inr (.inr (y11.1)))
     ) (
    some (.inl (IntKind.i64.wrap (e7 + (1 : Int))))
     )
    ) (
   some (.inr (.inl ()))
    )
noncomputable def f341 [LO]  (a0 : List (ByteArray × Int × Int)) : Option ((List Int)) :=
  obnd (f340 a0) fun (y1 : (List Int) × Int) =>
  obndS (
   oloop (τ := Int) (ρ := (Unit) ⊕ ((List Int))) (l341_1 a0 y1) (1 : Int)
    ) fun (_ : Unit) =>
  some ([] : List Int)
set_option maxHeartbeats 1000000 in
theorem c341 [LO]  {a0 : List (ByteArray × Int × Int)} {x : (List Int)} (H : f341 a0 = some x) : ICalls E 341 [(VS 3 (a0.map e_SII))] AHeap.none fun v _ => v = (VS 1 (x.map eI)) := by
  refine ICalls.frz ?_;refine icalls_fn (pfnw ?_); unfold f341 at H;(conv=>whnf);refine pwa ?_;(conv=>whnf);refine pwa ?_;(conv=>whnf);obtain ⟨y1, h2, H⟩ := obnd_some H;refine (c340 h2).go ?_;(conv=>whnf);obtain ⟨r3, h4, h5, h6⟩ := obndS_some H;refine pw_joinS (ρ := Unit) (fun e => ⟨[], ⟨0, [], false⟩⟩) r3 ?_ ?_
  · refine pwa ?_;(conv=>whnf);refine pw_block ?_;refine pw_loop (τ := Int) (fun e => ⟨[(0, (VS 3 (a0.map e_SII))), (4, (.int .i64 y1.2)), (5, (.int .i64 e))], ⟨0, [], false⟩⟩) h4 ?_ (fun _ => nl rfl) ?_
    · exact .sub' (nl rfl) (.cons rfl (.cons rfl (.cons rfl .nil)))
    · intro e7 x8 h9; unfold l341_1 at h9;refine pw_seq ?_;refine pwa ?_;(conv=>whnf);refine pw_cond ?_;(conv=>whnf);refine pbr_oite h9 (fun g10 h9 => ?_) (fun g10 h9 => ?_)
      · (conv=>whnf);refine pw_skip ?_;(conv=>whnf);refine pw_seq ?_;refine pw_block ?_;refine pwa ?_;(conv=>whnf);obtain ⟨y11, h12, h9⟩ := obnd_some h9;refine ICalls.goW (c366 h12) (.cons (.refl _) (.cons (.nil _) (.cons (.refl _) (.cons (.refl _) .nil)))) ?_;(conv=>whnf);refine pwa ?_;(conv=>whnf);refine pw_cond ?_;(conv=>whnf);refine pbr_oite h9 (fun g13 h9 => ?_) (fun g13 h9 => ?_)
        · (conv=>whnf);refine pwa ?_;(conv=>whnf);refine pw_ret ?_;(conv=>whnf);cases h9;refine ⟨_, rfl, ?_⟩; rintro rfl;(conv=>whnf);obtain rfl := h6 _ rfl; show ∃ D, Fz _ D 0 (VS 1 _) _;exact ⟨fun _ => false, .cl⟩
        · (conv=>whnf);refine pw_skip ?_;(conv=>whnf);refine pw_ops ?_;refine po_all ?_;(conv=>whnf);cases h9;refine ⟨_, rfl, ?_⟩;exact .sub' (nl rfl) (.cons rfl (.cons rfl (.cons rfl .nil)))
      · (conv=>whnf);refine pw_exit ?_;(conv=>whnf);cases h9;refine ⟨_, rfl, ?_⟩; rintro rfl;(conv=>whnf);exact ⟨_, rfl, ⟨.nil, rfl⟩⟩
  · intro r16 hr; have H := h5 _ hr;refine pwa ?_;(conv=>whnf);refine pw_ret ?_;(conv=>whnf);cases H; show ∃ D, Fz _ D 0 (.slice none 0 0) _;exact ⟨fun _ => false, .nil _⟩

/-- guidevane/guidevanelaw08.DispatchRevisions -/
noncomputable def l304_1 [LO] (a0 : List (ByteArray × Int × Int)) (e14 : Int) : Option ((Int) ⊕ ((Unit) ⊕ Bool)) :=
  oite ((ilt e14 ((a0.map e_SII).length : Int))) (
   ogrd ((ile 0 e14)) (
   obnd (a0[e14.toNat]?) fun (x19 : ByteArray × Int × Int) =>
   oite ((ilt (20 : Int) (x19.1.size : Int))) (
    some (.inr (.inr (true)))
     ) (
    some (.inl (IntKind.i64.wrap (e14 + (1 : Int))))
     )
   )
    ) (
   some (.inr (.inl ()))
    )
noncomputable def f304 [LO]  (a0 : List (ByteArray × Int × Int)) (a1 : List Int) : Option Bool :=
  obnd (f198) fun (y1 : Bool) =>
  oite (!y1) (
   some false
    ) (
   obnd (
    oite ((ilt (10 : Int) ((a0.map e_SII).length : Int))) (
     some true
      ) (
     some (ilt (10 : Int) ((a1.map eI).length : Int))
      )
     ) fun (r4 : Bool) =>
   oite r4 (
    some true
     ) (
    obndS (
     oloop (τ := Int) (ρ := (Unit) ⊕ Bool) (l304_1 a0) (0 : Int)
      ) fun (_ : Unit) =>
    obnd (f334 a0) fun (y24 : (List (ByteArray × Int × Int))) =>
    obnd (f244 y24) fun (y26 : Int × Int) =>
    obnd (f334 a0) fun (y28 : (List (ByteArray × Int × Int))) =>
    obnd (f38 a1) fun (y30 : (List Int)) =>
    ogrd (Nat.beq y30.length y30.length) (
    obnd (f335 y28 y30) fun (y33 : Int × Int) =>
    obnd (f334 a0) fun (y35 : (List (ByteArray × Int × Int))) =>
    obnd (f210 y35) fun (y37 : (List Int) × Int × Int) =>
    obnd (f334 a0) fun (y39 : (List (ByteArray × Int × Int))) =>
    obnd (f336 y39) fun (y41 : (List Int) × Int) =>
    obnd (f337 a0) fun (y43 : Int × Int) =>
    obnd (
     oite ((!(ieq y26.2 y43.2))) (
      some true
       ) (
      some (!(ieq y26.1 y43.1))
       )
      ) fun (r45 : Bool) =>
    oite r45 (
     some false
      ) (
     oite ((!(ieq y43.2 (0 : Int)))) (
      obnd (
       oite ((ieq y33.2 y43.2)) (
        some (ieq y37.2.2 y43.2)
         ) (
        some false
         )
        ) fun (r52 : Bool) =>
      obnd (
       oite r52 (
        some (ieq y41.2 y43.2)
         ) (
        some false
         )
        ) fun (r55 : Bool) =>
      obnd (
       oite r55 (
        some (ieq y33.1 (0 : Int))
         ) (
        some false
         )
        ) fun (r58 : Bool) =>
      obnd (
       oite r58 (
        some (ieq (IntKind.i64.wrap (((y37.1.map eI).length : Int) + ((y41.1.map eI).length : Int))) (0 : Int))
         ) (
        some false
         )
        ) fun (r61 : Bool) =>
      obnd (
       oite r61 (
        some (ieq y37.2.1 (0 : Int))
         ) (
        some false
         )
        ) fun (r64 : Bool) =>
      some r64
       ) (
      obnd (f338 a0 a1) fun (y67 : Int) =>
      obnd (
       obnd (
        oite ((!(ieq y67 (0 : Int)))) (
         oite ((!(ieq y33.2 y67))) (
          some true
           ) (
          some (!(ieq y33.1 (0 : Int)))
           )
          ) (
         some false
          )
         ) fun (r73 : Bool) =>
       oite r73 (
        some true
         ) (
        obnd (
         oite ((ieq y67 (0 : Int))) (
          oite ((!(ieq y33.2 (0 : Int)))) (
           some true
            ) (
           obnd (f339 a0 a1) fun (y82 : Int) =>
           some (!(ieq y33.1 y82))
            )
           ) (
          some false
           )
          ) fun (r78 : Bool) =>
        some r78
         )
        ) fun (r69 : Bool) =>
      oite r69 (
       some false
        ) (
       obnd (f340 a0) fun (y85 : (List Int) × Int) =>
       obnd (
        oite ((ieq y37.2.2 (0 : Int))) (
         obnd (f26 y37.1 y85.1) fun (y90 : Bool) =>
         some y90
          ) (
         some false
          )
         ) fun (r87 : Bool) =>
       obnd (
        oite r87 (
         some (ieq y37.2.1 y85.2)
          ) (
         some false
          )
         ) fun (r92 : Bool) =>
       obnd (
        oite r92 (
         some (ieq y41.2 (0 : Int))
          ) (
         some false
          )
         ) fun (r95 : Bool) =>
       obnd (
        oite r95 (
         obnd (f341 a0) fun (y101 : (List Int)) =>
         obnd (f26 y41.1 y101) fun (y103 : Bool) =>
         some y103
          ) (
         some false
          )
         ) fun (r98 : Bool) =>
       some r98
        )
       )
      )
    )
     )
    )
set_option maxHeartbeats 1000000 in
theorem c304 [LO]  {a0 : List (ByteArray × Int × Int)} {a1 : List Int} {x : Bool} (H : f304 a0 a1 = some x) : ICalls E 304 [(VS 3 (a0.map e_SII)), (VS 1 (a1.map eI))] AHeap.none fun v _ => v = (.bool x) := by
  refine icalls_fn (pfnw ?_); unfold f304 at H;(conv=>whnf);refine pwa ?_;(conv=>whnf);refine pw_seq ?_;refine pwa ?_;(conv=>whnf);obtain ⟨y1, h2, H⟩ := obnd_some H;refine (c198 h2).go ?_;(conv=>whnf);refine pw_cond ?_;(conv=>whnf);refine pbr_oite H (fun g3 H => ?_) (fun g3 H => ?_)
  · (conv=>whnf);refine pwa ?_;(conv=>whnf);refine pw_ret ?_;(conv=>whnf);cases H; rfl
  · (conv=>whnf);refine pw_skip ?_;(conv=>whnf);refine pw_seq ?_;obtain ⟨r4, h5, H⟩ := obnd_some H;refine pw_join (ρ := Bool) (fun e => ⟨[(0, (VS 3 (a0.map e_SII))), (1, (VS 1 (a1.map eI))), (28, (.bool e))], ⟨0, [], false⟩⟩) r4 ?_ ?_
    · refine pw_ops ?_;refine po_all ?_;(conv=>whnf);refine pbr_oite h5 (fun g8 h5 => ?_) (fun g8 h5 => ?_)
      · (conv=>whnf);(iterate 3 refine pbr_t g8 ?_;(conv=>whnf));cases h5;exact ⟨(.cons rfl (.cons rfl (.cons rfl .nil))), rfl⟩
      · (conv=>whnf);(iterate 3 refine pbr_f g8 ?_;(conv=>whnf));cases h5;exact ⟨(.cons rfl (.cons rfl (.cons rfl .nil))), rfl⟩
    · refine pw_cond ?_;(conv=>whnf);refine pbr_oite H (fun g9 H => ?_) (fun g9 H => ?_)
      · (conv=>whnf);refine pwa ?_;(conv=>whnf);refine pw_ret ?_;(conv=>whnf);cases H; rfl
      · (conv=>whnf);refine pw_skip ?_;(conv=>whnf);obtain ⟨r10, h11, h12, h13⟩ := obndS_some H;refine pw_joinS (ρ := Unit) (fun e => ⟨[(0, (VS 3 (a0.map e_SII))), (1, (VS 1 (a1.map eI)))], ⟨0, [], false⟩⟩) r10 ?_ ?_
        · refine pwa ?_;(conv=>whnf);refine pw_block ?_;refine pw_loop (τ := Int) (fun e => ⟨[(0, (VS 3 (a0.map e_SII))), (1, (VS 1 (a1.map eI))), (5, (.int .i64 e))], ⟨0, [], false⟩⟩) h11 ?_ (fun _ => nl rfl) ?_
          · exact .sub' (nl rfl) (.cons rfl (.cons rfl (.cons rfl .nil)))
          · intro e14 x15 h16; unfold l304_1 at h16;refine pw_seq ?_;refine pwa ?_;(conv=>whnf);refine pw_cond ?_;(conv=>whnf);refine pbr_oite h16 (fun g17 h16 => ?_) (fun g17 h16 => ?_)
            · (conv=>whnf);refine pw_skip ?_;(conv=>whnf);refine pw_seq ?_;refine pw_block ?_;refine pwa ?_;(conv=>whnf);refine pbr_ogrd h16 (fun g18 h16 => ?_);(conv=>whnf);refine nth_o (l := a0) h16 (fun x19 _ h16 => ?_);(conv=>whnf);refine pw_cond ?_;(conv=>whnf);refine pbr_oite h16 (fun g20 h16 => ?_) (fun g20 h16 => ?_)
              · (conv=>whnf);refine pwa ?_;(conv=>whnf);refine pw_ret ?_;(conv=>whnf);cases h16;refine ⟨_, rfl, ?_⟩; rintro rfl;(conv=>whnf);obtain rfl := h13 _ rfl; rfl
              · (conv=>whnf);refine pw_skip ?_;(conv=>whnf);refine pw_ops ?_;refine po_all ?_;(conv=>whnf);cases h16;refine ⟨_, rfl, ?_⟩;exact .sub' (nl rfl) (.cons rfl (.cons rfl (.cons rfl .nil)))
            · (conv=>whnf);refine pw_exit ?_;(conv=>whnf);cases h16;refine ⟨_, rfl, ?_⟩; rintro rfl;(conv=>whnf);exact ⟨_, rfl, ⟨(.cons rfl (.cons rfl .nil)), rfl⟩⟩
        · intro r23 hr; have H := h12 _ hr;refine pwa ?_;(conv=>whnf);obtain ⟨y24, h25, H⟩ := obnd_some H;refine (c334 h25).go ?_;(conv=>whnf);obtain ⟨y26, h27, H⟩ := obnd_some H;refine (c244 h27).go ?_;(conv=>whnf);refine pwa ?_;(conv=>whnf);obtain ⟨y28, h29, H⟩ := obnd_some H;refine (c334 h29).go ?_;(conv=>whnf);obtain ⟨y30, h31, H⟩ := obnd_some H;refine ICalls.goN (f := eI) (c38 h31) (.cons (.refl _) .nil) ?_;(conv=>whnf);obtain ⟨g32, H⟩ := ogrd_some H;obtain ⟨y33, h34, H⟩ := obnd_some H;refine ICalls.goD (c335 h34) (.cons .cl (.cons (.slm rfl g32 (fun _ => rfl)) .nil)) rfl ?_
          (conv=>whnf);refine pwa ?_;(conv=>whnf);obtain ⟨y35, h36, H⟩ := obnd_some H;refine (c334 h36).go ?_;(conv=>whnf);obtain ⟨y37, h38, H⟩ := obnd_some H;refine (c210 h38).go ?_;(conv=>whnf);refine pwa ?_;(conv=>whnf);obtain ⟨y39, h40, H⟩ := obnd_some H;refine (c334 h40).go ?_;(conv=>whnf);obtain ⟨y41, h42, H⟩ := obnd_some H;refine (c336 h42).go ?_;(conv=>whnf);refine pwa ?_;(conv=>whnf);obtain ⟨y43, h44, H⟩ := obnd_some H;refine (c337 h44).go ?_;(conv=>whnf);refine pw_seq ?_;obtain ⟨r45, h46, H⟩ := obnd_some H;refine pw_join (ρ := Bool) (fun e => ⟨[(0, (VS 3 (a0.map e_SII))), (1, (VS 1 (a1.map eI))), (8, (.int .i64 y33.1)), (9, (.int .i64 y33.2)), (10, (VS 1 (y37.1.map eI))), (11, (.int .i64 y37.2.1)), (12, (.int .i64 y37.2.2)), (13, (VS 1 (y41.1.map eI))), (14, (.int .i64 y41.2)), (16, (.int .i64 y43.2)), (81, (.bool e))], ⟨1, [(0, .rw (y30.map eI))], false⟩⟩) r45 ?_ ?_
          · refine pw_ops ?_;refine po_all ?_;(conv=>whnf);refine pbr_oite h46 (fun g49 h46 => ?_) (fun g49 h46 => ?_)
            · (conv=>whnf);(iterate 3 refine pbr_t g49 ?_;(conv=>whnf));cases h46;exact ⟨(.cons rfl (.cons rfl (.cons rfl (.cons rfl (.cons rfl (.cons rfl (.cons rfl (.cons rfl (.cons rfl (.cons rfl (.cons rfl .nil))))))))))), rfl⟩
            · (conv=>whnf);(iterate 3 refine pbr_f g49 ?_;(conv=>whnf));cases h46;exact ⟨(.cons rfl (.cons rfl (.cons rfl (.cons rfl (.cons rfl (.cons rfl (.cons rfl (.cons rfl (.cons rfl (.cons rfl (.cons rfl .nil))))))))))), rfl⟩
          · refine pw_cond ?_;(conv=>whnf);refine pbr_oite H (fun g50 H => ?_) (fun g50 H => ?_)
            · (conv=>whnf);refine pwa ?_;(conv=>whnf);refine pw_ret ?_;(conv=>whnf);cases H; rfl
            · (conv=>whnf);refine pw_skip ?_;(conv=>whnf);refine pw_seq ?_;refine pwa ?_;(conv=>whnf);refine pw_cond ?_;(conv=>whnf);refine pbr_oite H (fun g51 H => ?_) (fun g51 H => ?_)
              · (conv=>whnf);refine pw_so ?_;refine po_ops 4 ?_;(conv=>whnf);obtain ⟨r52, h53, H⟩ := obnd_some H;refine po_seg (τ := Bool) 4 (fun e => ⟨[(8, (.int .i64 y33.1)), (10, (VS 1 (y37.1.map eI))), (11, (.int .i64 y37.2.1)), (13, (VS 1 (y41.1.map eI))), (14, (.int .i64 y41.2)), (16, (.int .i64 y43.2)), (91, (.bool e))], ⟨1, [(0, .rw (y30.map eI))], false⟩⟩) r52 ?_ ?_
                · refine po_all ?_;(conv=>whnf);refine pbr_oite h53 (fun g54 h53 => ?_) (fun g54 h53 => ?_)
                  · (conv=>whnf);(iterate 3 refine pbr_t g54 ?_;(conv=>whnf));cases h53;exact ⟨(.cons rfl (.cons rfl (.cons rfl (.cons rfl (.cons rfl (.cons rfl (.cons rfl .nil))))))), rfl⟩
                  · (conv=>whnf);(iterate 3 refine pbr_f g54 ?_;(conv=>whnf));cases h53;exact ⟨(.cons rfl (.cons rfl (.cons rfl (.cons rfl (.cons rfl (.cons rfl (.cons rfl .nil))))))), rfl⟩
                · refine po_ops 1 ?_;(conv=>whnf);obtain ⟨r55, h56, H⟩ := obnd_some H;refine po_seg (τ := Bool) 4 (fun e => ⟨[(8, (.int .i64 y33.1)), (10, (VS 1 (y37.1.map eI))), (11, (.int .i64 y37.2.1)), (13, (VS 1 (y41.1.map eI))), (96, (.bool e))], ⟨1, [(0, .rw (y30.map eI))], false⟩⟩) r55 ?_ ?_
                  · refine po_all ?_;(conv=>whnf);refine pbr_oite h56 (fun g57 h56 => ?_) (fun g57 h56 => ?_)
                    · (conv=>whnf);(iterate 3 refine pbr_t g57 ?_;(conv=>whnf));cases h56;exact ⟨(.cons rfl (.cons rfl (.cons rfl (.cons rfl (.cons rfl .nil))))), rfl⟩
                    · (conv=>whnf);(iterate 3 refine pbr_f g57 ?_;(conv=>whnf));cases h56;exact ⟨(.cons rfl (.cons rfl (.cons rfl (.cons rfl (.cons rfl .nil))))), rfl⟩
                  · refine po_ops 1 ?_;(conv=>whnf);obtain ⟨r58, h59, H⟩ := obnd_some H;refine po_seg (τ := Bool) 3 (fun e => ⟨[(10, (VS 1 (y37.1.map eI))), (11, (.int .i64 y37.2.1)), (13, (VS 1 (y41.1.map eI))), (100, (.bool e))], ⟨1, [(0, .rw (y30.map eI))], false⟩⟩) r58 ?_ ?_
                    · refine po_all ?_;(conv=>whnf);refine pbr_oite h59 (fun g60 h59 => ?_) (fun g60 h59 => ?_)
                      · (conv=>whnf);refine pbr_t g60 ?_;(conv=>whnf);refine pbr_t g60 ?_;(conv=>whnf);cases h59;exact ⟨(.cons rfl (.cons rfl (.cons rfl (.cons rfl .nil)))), rfl⟩
                      · (conv=>whnf);refine pbr_f g60 ?_;(conv=>whnf);refine pbr_f g60 ?_;(conv=>whnf);cases h59;exact ⟨(.cons rfl (.cons rfl (.cons rfl (.cons rfl .nil)))), rfl⟩
                    · refine po_ops 1 ?_;(conv=>whnf);obtain ⟨r61, h62, H⟩ := obnd_some H;refine po_seg (τ := Bool) 7 (fun e => ⟨[(11, (.int .i64 y37.2.1)), (108, (.bool e))], ⟨1, [(0, .rw (y30.map eI))], false⟩⟩) r61 ?_ ?_
                      · refine po_all ?_;(conv=>whnf);refine pbr_oite h62 (fun g63 h62 => ?_) (fun g63 h62 => ?_)
                        · (conv=>whnf);(iterate 6 refine pbr_t g63 ?_;(conv=>whnf));cases h62;exact ⟨(.cons rfl (.cons rfl .nil)), rfl⟩
                        · (conv=>whnf);(iterate 6 refine pbr_f g63 ?_;(conv=>whnf));cases h62;exact ⟨(.cons rfl (.cons rfl .nil)), rfl⟩
                      · refine po_ops 1 ?_;(conv=>whnf);obtain ⟨r64, h65, H⟩ := obnd_some H;refine po_seg (τ := Bool) 3 (fun e => ⟨[(112, (.bool e))], ⟨1, [(0, .rw (y30.map eI))], false⟩⟩) r64 ?_ ?_
                        · refine po_all ?_;(conv=>whnf);refine pbr_oite h65 (fun g66 h65 => ?_) (fun g66 h65 => ?_)
                          · (conv=>whnf);refine pbr_t g66 ?_;(conv=>whnf);refine pbr_t g66 ?_;(conv=>whnf);cases h65;exact ⟨(.cons rfl .nil), rfl⟩
                          · (conv=>whnf);refine pbr_f g66 ?_;(conv=>whnf);refine pbr_f g66 ?_;(conv=>whnf);cases h65;exact ⟨(.cons rfl .nil), rfl⟩
                        · refine po_all ?_;(conv=>whnf);refine pw_ret ?_;(conv=>whnf);cases H; rfl
              · (conv=>whnf);refine pw_skip ?_;(conv=>whnf);refine pw_seq ?_;refine pwa ?_;(conv=>whnf);obtain ⟨y67, h68, H⟩ := obnd_some H;refine (c338 h68).go ?_;(conv=>whnf);obtain ⟨r69, h70, H⟩ := obnd_some H;refine pw_join (ρ := Bool) (fun e => ⟨[(0, (VS 3 (a0.map e_SII))), (10, (VS 1 (y37.1.map eI))), (11, (.int .i64 y37.2.1)), (12, (.int .i64 y37.2.2)), (13, (VS 1 (y41.1.map eI))), (14, (.int .i64 y41.2)), (141, (.bool e))], ⟨1, [(0, .rw (y30.map eI))], false⟩⟩) r69 ?_ ?_
                · refine pw_ops ?_;refine po_ops 3 ?_;(conv=>whnf);obtain ⟨r73, h74, h70⟩ := obnd_some h70;refine po_seg (τ := Bool) 8 (fun e => ⟨[(0, (VS 3 (a0.map e_SII))), (1, (VS 1 (a1.map eI))), (8, (.int .i64 y33.1)), (9, (.int .i64 y33.2)), (10, (VS 1 (y37.1.map eI))), (11, (.int .i64 y37.2.1)), (12, (.int .i64 y37.2.2)), (13, (VS 1 (y41.1.map eI))), (14, (.int .i64 y41.2)), (16, (.int .i64 y67)), (126, (.bool e))], ⟨1, [(0, .rw (y30.map eI))], false⟩⟩) r73 ?_ ?_
                  · refine po_all ?_;(conv=>whnf);refine pbr_oite h74 (fun g75 h74 => ?_) (fun g75 h74 => ?_)
                    · (conv=>whnf);(iterate 3 refine pbr_t g75 ?_;(conv=>whnf));refine pbr_oite h74 (fun g76 h74 => ?_) (fun g76 h74 => ?_)
                      · (conv=>whnf);refine pbr_t g76 ?_;(conv=>whnf);refine pbr_t g75 ?_;(conv=>whnf);refine pbr_t g76 ?_;(conv=>whnf);refine pbr_t g75 ?_;(conv=>whnf);cases h74;exact ⟨(.cons rfl (.cons rfl (.cons rfl (.cons rfl (.cons rfl (.cons rfl (.cons rfl (.cons rfl (.cons rfl (.cons rfl (.cons rfl .nil))))))))))), rfl⟩
                      · (conv=>whnf);refine pbr_f g76 ?_;(conv=>whnf);refine pbr_t g75 ?_;(conv=>whnf);refine pbr_f g76 ?_;(conv=>whnf);refine pbr_t g75 ?_;(conv=>whnf);cases h74;exact ⟨(.cons rfl (.cons rfl (.cons rfl (.cons rfl (.cons rfl (.cons rfl (.cons rfl (.cons rfl (.cons rfl (.cons rfl (.cons rfl .nil))))))))))), rfl⟩
                    · (conv=>whnf);(iterate 5 refine pbr_f g75 ?_;(conv=>whnf));cases h74;exact ⟨(.cons rfl (.cons rfl (.cons rfl (.cons rfl (.cons rfl (.cons rfl (.cons rfl (.cons rfl (.cons rfl (.cons rfl (.cons rfl .nil))))))))))), rfl⟩
                  · refine po_ops 4 ?_;(conv=>whnf);refine pbr_oite h70 (fun g77 h70 => ?_) (fun g77 h70 => ?_)
                    · (conv=>whnf);refine pbr_t g77 ?_;(conv=>whnf);refine pbr_t g77 ?_;(conv=>whnf);refine po_ops 10 ?_;(conv=>whnf);refine pbr_t g77 ?_;(conv=>whnf);refine po_all ?_;(conv=>whnf);refine pbr_t g77 ?_;(conv=>whnf);cases h70;exact ⟨(.cons rfl (.cons rfl (.cons rfl (.cons rfl (.cons rfl (.cons rfl (.cons rfl .nil))))))), rfl⟩
                    · (conv=>whnf);refine pbr_f g77 ?_;(conv=>whnf);refine pbr_f g77 ?_;(conv=>whnf);obtain ⟨r78, h79, h70⟩ := obnd_some h70;refine po_seg (τ := Bool) 10 (fun e => ⟨[(0, (VS 3 (a0.map e_SII))), (10, (VS 1 (y37.1.map eI))), (11, (.int .i64 y37.2.1)), (12, (.int .i64 y37.2.2)), (13, (VS 1 (y41.1.map eI))), (14, (.int .i64 y41.2)), (127, (.bool r73)), (140, (.bool e))], ⟨1, [(0, .rw (y30.map eI))], false⟩⟩) r78 ?_ ?_
                      · refine po_all ?_;(conv=>whnf);refine pbr_oite h79 (fun g80 h79 => ?_) (fun g80 h79 => ?_)
                        · (conv=>whnf);refine pbr_t g80 ?_;(conv=>whnf);refine pbr_t g80 ?_;(conv=>whnf);refine pbr_oite h79 (fun g81 h79 => ?_) (fun g81 h79 => ?_)
                          · (conv=>whnf);(iterate 4 refine pbr_t g81 ?_;(conv=>whnf));refine pbr_t g80 ?_;(conv=>whnf);refine pbr_t g81 ?_;(conv=>whnf);refine pbr_f g77 ?_;(conv=>whnf);refine pbr_t g80 ?_;(conv=>whnf);cases h79;exact ⟨(.cons rfl (.cons rfl (.cons rfl (.cons rfl (.cons rfl (.cons rfl (.cons rfl (.cons rfl .nil)))))))), rfl⟩
                          · (conv=>whnf);(iterate 3 refine pbr_f g81 ?_;(conv=>whnf));obtain ⟨y82, h83, h79⟩ := obnd_some h79;refine (c339 h83).go ?_;(conv=>whnf);refine pbr_f g81 ?_;(conv=>whnf);refine pbr_t g80 ?_;(conv=>whnf);refine pbr_f g81 ?_;(conv=>whnf);refine pbr_f g77 ?_;(conv=>whnf);refine pbr_t g80 ?_;(conv=>whnf);cases h79;exact ⟨(.cons rfl (.cons rfl (.cons rfl (.cons rfl (.cons rfl (.cons rfl (.cons rfl (.cons rfl .nil)))))))), rfl⟩
                        · (conv=>whnf);(iterate 3 refine pbr_f g80 ?_;(conv=>whnf));refine pbr_f g77 ?_;(conv=>whnf);refine pbr_f g80 ?_;(conv=>whnf);cases h79;exact ⟨(.cons rfl (.cons rfl (.cons rfl (.cons rfl (.cons rfl (.cons rfl (.cons rfl (.cons rfl .nil)))))))), rfl⟩
                      · refine po_all ?_;(conv=>whnf);refine pbr_f g77 ?_;(conv=>whnf);cases h70;exact ⟨(.cons rfl (.cons rfl (.cons rfl (.cons rfl (.cons rfl (.cons rfl (.cons rfl .nil))))))), rfl⟩
                · refine pw_cond ?_;(conv=>whnf);refine pbr_oite H (fun g84 H => ?_) (fun g84 H => ?_)
                  · (conv=>whnf);refine pwa ?_;(conv=>whnf);refine pw_ret ?_;(conv=>whnf);cases H; rfl
                  · (conv=>whnf);refine pw_skip ?_;(conv=>whnf);refine pwa ?_;(conv=>whnf);obtain ⟨y85, h86, H⟩ := obnd_some H;refine (c340 h86).go ?_;(conv=>whnf);refine pw_so ?_;refine po_ops 3 ?_;(conv=>whnf);obtain ⟨r87, h88, H⟩ := obnd_some H;refine po_seg (τ := Bool) 4 (fun e => ⟨[(0, (VS 3 (a0.map e_SII))), (11, (.int .i64 y37.2.1)), (13, (VS 1 (y41.1.map eI))), (14, (.int .i64 y41.2)), (18, (.int .i64 y85.2)), (153, (.bool e))], ⟨1, [(0, .rw (y30.map eI))], false⟩⟩) r87 ?_ ?_
                    · refine po_all ?_;(conv=>whnf);refine pbr_oite h88 (fun g89 h88 => ?_) (fun g89 h88 => ?_)
                      · (conv=>whnf);refine pbr_t g89 ?_;(conv=>whnf);refine pbr_t g89 ?_;(conv=>whnf);obtain ⟨y90, h91, h88⟩ := obnd_some h88;refine (c26 h91).go ?_;(conv=>whnf);refine pbr_t g89 ?_;(conv=>whnf);cases h88;exact ⟨(.cons rfl (.cons rfl (.cons rfl (.cons rfl (.cons rfl (.cons rfl .nil)))))), rfl⟩
                      · (conv=>whnf);(iterate 3 refine pbr_f g89 ?_;(conv=>whnf));cases h88;exact ⟨(.cons rfl (.cons rfl (.cons rfl (.cons rfl (.cons rfl (.cons rfl .nil)))))), rfl⟩
                    · refine po_ops 1 ?_;(conv=>whnf);obtain ⟨r92, h93, H⟩ := obnd_some H;refine po_seg (τ := Bool) 4 (fun e => ⟨[(0, (VS 3 (a0.map e_SII))), (13, (VS 1 (y41.1.map eI))), (14, (.int .i64 y41.2)), (158, (.bool e))], ⟨1, [(0, .rw (y30.map eI))], false⟩⟩) r92 ?_ ?_
                      · refine po_all ?_;(conv=>whnf);refine pbr_oite h93 (fun g94 h93 => ?_) (fun g94 h93 => ?_)
                        · (conv=>whnf);(iterate 3 refine pbr_t g94 ?_;(conv=>whnf));cases h93;exact ⟨(.cons rfl (.cons rfl (.cons rfl (.cons rfl .nil)))), rfl⟩
                        · (conv=>whnf);(iterate 3 refine pbr_f g94 ?_;(conv=>whnf));cases h93;exact ⟨(.cons rfl (.cons rfl (.cons rfl (.cons rfl .nil)))), rfl⟩
                      · refine po_ops 1 ?_;(conv=>whnf);obtain ⟨r95, h96, H⟩ := obnd_some H;refine po_seg (τ := Bool) 3 (fun e => ⟨[(0, (VS 3 (a0.map e_SII))), (13, (VS 1 (y41.1.map eI))), (162, (.bool e))], ⟨1, [(0, .rw (y30.map eI))], false⟩⟩) r95 ?_ ?_
                        · refine po_all ?_;(conv=>whnf);refine pbr_oite h96 (fun g97 h96 => ?_) (fun g97 h96 => ?_)
                          · (conv=>whnf);refine pbr_t g97 ?_;(conv=>whnf);refine pbr_t g97 ?_;(conv=>whnf);cases h96;exact ⟨(.cons rfl (.cons rfl (.cons rfl .nil))), rfl⟩
                          · (conv=>whnf);refine pbr_f g97 ?_;(conv=>whnf);refine pbr_f g97 ?_;(conv=>whnf);cases h96;exact ⟨(.cons rfl (.cons rfl (.cons rfl .nil))), rfl⟩
                        · refine po_ops 1 ?_;(conv=>whnf);obtain ⟨r98, h99, H⟩ := obnd_some H;refine po_seg (τ := Bool) 5 (fun e => ⟨[(168, (.bool e))], ⟨1, [(0, .rw (y30.map eI))], false⟩⟩) r98 ?_ ?_
                          · refine po_all ?_;(conv=>whnf);refine pbr_oite h99 (fun g100 h99 => ?_) (fun g100 h99 => ?_)
                            · (conv=>whnf);refine pbr_t g100 ?_;(conv=>whnf);refine pbr_t g100 ?_;(conv=>whnf);obtain ⟨y101, h102, h99⟩ := obnd_some h99;refine (c341 h102).go ?_;(conv=>whnf);refine pbr_t g100 ?_;(conv=>whnf);obtain ⟨y103, h104, h99⟩ := obnd_some h99;refine (c26 h104).go ?_;(conv=>whnf);refine pbr_t g100 ?_;(conv=>whnf);cases h99;exact ⟨(.cons rfl .nil), rfl⟩
                            · (conv=>whnf);(iterate 4 refine pbr_f g100 ?_;(conv=>whnf));cases h99;exact ⟨(.cons rfl .nil), rfl⟩
                          · refine po_all ?_;(conv=>whnf);refine pw_ret ?_;(conv=>whnf);cases H; rfl

end Go.Proofs.YtmbekcealcjabaaGreat.AM
