/- Computations of functions, and that the functions do them (printed by tools/lift.py). Conditions: none. -/
import Derived.Test.YtolapannkcdeeaaGreatAmRun
import Derived.Test.YtolapannkcdeeaaGreatAmMan
namespace Go.Proofs.YtolapannkcdeeaaGreat.AM
set_option linter.unusedSimpArgs false
set_option linter.unusedVariables false
set_option maxHeartbeats 1000000
open Go Go.RowKit
attribute [local irreducible] ICallV ICalls Recast rng
abbrev e_L1B (x : (List Bool)) : Value := VS 1 (x.map eB)
instance {x : (List Bool)} : Cl (e_L1B x) := inferInstanceAs (Cl (VS 1 (x.map eB)))
noncomputable def f307 [LO]  (_ : Int) (_ : Int) (a2 : List (ByteArray × Int × Int × Int)) : Option Bool :=
 oite ((ilt (7 : Int) ((a2.map e_SIII).length : Int))) (
 some false
 ) (
 obndS (
 oloop (τ := Int) (ρ := (Unit) ⊕ Bool) (fun e6 =>
 oite ((ilt e6 ((a2.map e_SIII).length : Int))) (
 ogrd ((ile 0 e6)) (
 obnd (a2[e6.toNat]?) fun (x11 : ByteArray × Int × Int × Int) =>
 oite ((ilt (20 : Int) (x11.1.size : Int))) (
 some (.inr (.inr (false)))
 ) (
 some (.inl (IntKind.i64.wrap (e6 + (1 : Int))))))
 ) (
 some (.inr (.inl ())))
 ) (0 : Int)
 ) fun (_ : Unit) =>
 some true)
theorem c307 [LO]  {a0 : Int} {a1 : Int} {a2 : List (ByteArray × Int × Int × Int)} {x : Bool} (H : f307 a0 a1 a2 = some x) : ICalls E 307 [(.agg ⟨[(iV a0), (iV a1), (VS 4 (a2.map e_SIII))]⟩)] AHeap.none fun v _ => v = (.bool x) := by
 refine icalls_fn (pfnw ?_);unfold f307 at H;refine R ?_;refine pw_seq ?_;refine R ?_;refine pbr_oite H (fun g1 H => ?_) (fun g1 H => ?_)
 · refine R ?_;cases H;rfl
 · refine R ?_;obtain ⟨r2, h3, h4, h5⟩ := obndS_some H;refine pw_joinS (ρ := Unit) (fun e => ⟨[], ⟨1, [(0, .rw [(iV a0), (iV a1), (VS 4 (a2.map e_SIII))])], false⟩⟩) r2 ?_ ?_
   · refine R ?_;refine pw_loop (τ := Int) (fun e => ⟨[(1, (pV 0 0)), (3, (iV e))], ⟨1, [(0, .rw [(iV a0), (iV a1), (VS 4 (a2.map e_SIII))])], false⟩⟩) h3 ?_ (fun _ => nl rfl) ?_
     · exact sb
     · intro e6 x7 h8;refine pw_seq ?_;refine R ?_;refine pbr_oite h8 (fun g9 h8 => ?_) (fun g9 h8 => ?_)
       · refine R ?_;refine pw_seq ?_;refine R ?_;refine pbr_ogrd h8 (fun g10 h8 => ?_);refine R ?_;refine nth_o (l := a2) h8 (fun x11 _ h8 => ?_);refine R ?_;refine pbr_oite h8 (fun g12 h8 => ?_) (fun g12 h8 => ?_)
         · refine R ?_;cases h8;refine ⟨_, rfl, ?_⟩;rintro rfl;refine R ?_;obtain rfl := h5 _ rfl;rfl
         · refine R ?_;cases h8;refine ⟨_, rfl, ?_⟩;exact sb
       · refine R ?_;cases h8;refine ⟨_, rfl, ?_⟩;rintro rfl;refine R ?_;exact ⟨_, rfl, cr⟩
   · intro r15 hr;have H := h4 _ hr;refine R ?_;cases H;rfl
noncomputable def f308  (_ : Int) (_ : Int) (_ : Int) (a3 : List (Int × Int × Int)) : Option Bool :=
 some (ile ((a3.map e_III).length : Int) (12 : Int))
theorem c308  {a0 : Int} {a1 : Int} {a2 : Int} {a3 : List (Int × Int × Int)} {x : Bool} (H : f308 a0 a1 a2 a3 = some x) : ICalls E 308 [(.agg ⟨[(iV a0), (iV a1), (iV a2), (VS 3 (a3.map e_III))]⟩)] AHeap.none fun v _ => v = (.bool x) := by
 refine icalls_fn (pfnw ?_);unfold f308 at H;refine R ?_;cases H;rfl
noncomputable def f309  (a0 : Int) (a1 : Int) (a2 : List (ByteArray × Int × Int × Int)) : Option (Int × Int × (List (ByteArray × Int × Int × Int))) :=
 ogrd (fits 40 (([] : List (ByteArray × Int × Int × Int)).length + a2.length)) (
 some (a0, a1, (([] : List (ByteArray × Int × Int × Int)) ++ a2)))
theorem c309  {a0 : Int} {a1 : Int} {a2 : List (ByteArray × Int × Int × Int)} {x : Int × Int × (List (ByteArray × Int × Int × Int))} (H : f309 a0 a1 a2 = some x) : ICalls E 309 [(.agg ⟨[(iV a0), (iV a1), (VS 4 (a2.map e_SIII))]⟩)] AHeap.none fun v _ => v = (.agg ⟨[(iV x.1), (iV x.2.1), (VS 4 (x.2.2.map e_SIII))]⟩) := by
 refine ICalls.frz ?_;refine icalls_fn (pfnw ?_);unfold f309 at H;refine R ?_;refine app_o (l := ([] : List (ByteArray × Int × Int × Int))) (m := a2) (f := e_SIII) H (by rfl) (by rfl) (by rfl) (fun H => ?_);refine R ?_;cases H;show ∃ D, Fz _ D 0 (.agg ⟨[(iV a0), (iV a1), (VT 4 _ 2)]⟩) _;exact ⟨fun _ => false, .aggl (.cons .cl (.cons .cl (.cons .vtc (.nil))))⟩
noncomputable def f310  (a0 : Int) (a1 : Int) (a2 : Int) (a3 : List (Int × Int × Int)) : Option (Int × Int × Int × (List (Int × Int × Int))) :=
 ogrd (fits 24 (([] : List (Int × Int × Int)).length + a3.length)) (
 some (a0, a1, a2, (([] : List (Int × Int × Int)) ++ a3)))
theorem c310  {a0 : Int} {a1 : Int} {a2 : Int} {a3 : List (Int × Int × Int)} {x : Int × Int × Int × (List (Int × Int × Int))} (H : f310 a0 a1 a2 a3 = some x) : ICalls E 310 [(.agg ⟨[(iV a0), (iV a1), (iV a2), (VS 3 (a3.map e_III))]⟩)] AHeap.none fun v _ => v = (.agg ⟨[(iV x.1), (iV x.2.1), (iV x.2.2.1), (VS 3 (x.2.2.2.map e_III))]⟩) := by
 refine ICalls.frz ?_;refine icalls_fn (pfnw ?_);unfold f310 at H;refine R ?_;refine app_o (l := ([] : List (Int × Int × Int))) (m := a3) (f := e_III) H (by rfl) (by rfl) (by rfl) (fun H => ?_);refine R ?_;cases H;show ∃ D, Fz _ D 0 (.agg ⟨[(iV a0), (iV a1), (iV a2), (VT 3 _ 2)]⟩) _;exact ⟨fun _ => false, .aggl (.cons .cl (.cons .cl (.cons .cl (.cons .vtc (.nil)))))⟩
noncomputable def f231 [LO]  (a0 : Int) (a1 : Int) (a2 : List (ByteArray × Int × Int × Int)) (a3 : Int) (a4 : Int) (a5 : Int) (a6 : List (Int × Int × Int)) (a7 : Int) : Option ((Option (List Int))) :=
 obnd (
 oloop (τ := (Option (List Int)) × Int) (ρ := (Option (List Int))) (fun e5 =>
 oite ((ilt e5.2 a7)) (
 obnd (
 oloop (τ := Int × (Option (List Int))) (ρ := (Option (List Int))) (fun e13 =>
 oite ((ilt e13.1 ((nsl e5.1).length : Int))) (
 obnd (
 ocase e5.1 (
 none
 ) fun (m22 : List Int) =>
 ogrd ((ile 0 e13.1)) (
 ogrd ((ilt e13.1 (m22.length : Int))) (
 obnd (m22[e13.1.toNat]?) fun (x25 : Int) =>
 oloop (τ := Int × (Option (List Int))) (ρ := (Option (List Int)) × Int) (fun e28 =>
 oite ((ilt e28.1 ((a2.map e_SIII).length : Int))) (
 obnd (f242 a0 a1 a2 a3 a4 a5 a6 x25 e5.2 e28.1) fun (y32 : Int) =>
 obnd (f243 a0 a1 a2 a3 a4 a5 a6 y32) fun (y34 : Bool) =>
 oite y34 (
 ocase e28.2 (
 some (.inl (((IntKind.i64.wrap (e28.1 + (1 : Int))), (some ([y32] : List Int)))))
 ) fun (m38 : List Int) =>
 ogrd (fits 8 (m38.length + ([y32] : List Int).length)) (
 some (.inl (((IntKind.i64.wrap (e28.1 + (1 : Int))), (some (m38 ++ ([y32] : List Int)))))))
 ) (
 some (.inl ((IntKind.i64.wrap (e28.1 + (1 : Int))), e28.2)))
 ) (
 some (.inr ((e28.2, x25))))
 ) ((0 : Int), e13.2)))
 ) fun (r17 : (Option (List Int)) × Int) =>
 some (.inl ((IntKind.i64.wrap (e13.1 + (1 : Int))), r17.1))
 ) (
 some (.inr (e13.2)))
 ) ((0 : Int), none)
 ) fun (r9 : (Option (List Int))) =>
 ocase r9 (
 some (.inl (none, (IntKind.i64.wrap (e5.2 + (1 : Int)))))
 ) fun (m43 : List Int) =>
 ogrd (Nat.blt m43.length 4611686018427387904) (
 ogrd (Nat.blt (srt m43).length 4611686018427387904) (
 some (.inl (((some (Lib.compact (srt m43))), (IntKind.i64.wrap (e5.2 + (1 : Int))))))))
 ) (
 some (.inr (e5.1)))
 ) (((some ([a3] : List Int)), (0 : Int)))
 ) fun (r1 : (Option (List Int))) =>
 ocase r1 (
 some none
 ) fun (m48 : List Int) =>
 some (some m48)
theorem c231 [LO]  {a0 : Int} {a1 : Int} {a2 : List (ByteArray × Int × Int × Int)} {a3 : Int} {a4 : Int} {a5 : Int} {a6 : List (Int × Int × Int)} {a7 : Int} {x : (Option (List Int))} (H : f231 a0 a1 a2 a3 a4 a5 a6 a7 = some x) : ICalls E 231 [(.agg ⟨[(iV a0), (iV a1), (VS 4 (a2.map e_SIII)), (iV a3), (iV a4), (iV a5), (VS 3 (a6.map e_III))]⟩), (iV a7)] AHeap.none fun v h' => ∃ b c, v = nsv b x c ∧ h'.get b = (nso x).live := by
 refine ICalls.modeT ?_;refine icalls_fn (pfnw ?_);unfold f231 at H;refine R ?_;obtain ⟨r1, h2, H⟩ := obnd_some H;refine pw_join (ρ := (Option (List Int))) (fun e => ⟨[(5, (nsv 2 e 1))], ⟨3, [(2, nso e), (0, .rw [(iV a0), (iV a1), (VS 4 (a2.map e_SIII)), (iV a3), (iV a4), (iV a5), (VS 3 (a6.map e_III))])], true⟩⟩) r1 ?_ ?_
 · refine R ?_;refine pw_loop (τ := (Option (List Int)) × Int) (fun e => ⟨[(2, (pV 0 0)), (5, (nsv 2 e.1 1)), (16, (iV a7)), (17, (iV e.2))], ⟨3, [(2, nso e.1), (0, .rw [(iV a0), (iV a1), (VS 4 (a2.map e_SIII)), (iV a3), (iV a4), (iV a5), (VS 3 (a6.map e_III))])], true⟩⟩) h2 ?_ (fun _ => nl rfl) ?_
   · exact (Recast.mv 1 2 (nl rfl) (nl rfl) (.cons (.mv rfl (nl rfl) rfl (oneL_map fun _ => rfl) .cl) (.cons (.rw (nn rfl) (nn rfl) (nl rfl) rfl rfl (.of (.cons .cl (.cons .cl (.cons .cl (.cons .cl (.cons .cl (.cons .cl (.cons .cl .nil))))))))) .nil)) (.cons rfl (.ptr (nn rfl) (nl rfl)) (.cons rfl (.slc (nl rfl)) (.cons rfl .cl (.cons rfl .cl .nil)))))
   · intro e5 x6 h7;refine R ?_;refine pw_seq ?_;refine R ?_;refine pbr_oite h7 (fun g8 h7 => ?_) (fun g8 h7 => ?_)
     · refine R ?_;refine pw_seq ?_;refine R ?_;obtain ⟨r9, h10, h7⟩ := obnd_some h7;refine pw_join (ρ := (Option (List Int))) (fun e => ⟨[(2, (pV 0 0)), (7, (pV 3 0)), (16, (iV a7)), (17, (iV e5.2))], ⟨5, [(4, nso e), (3, .rw [(nsv 4 e 2)]), (2, nso e5.1), (0, .rw [(iV a0), (iV a1), (VS 4 (a2.map e_SIII)), (iV a3), (iV a4), (iV a5), (VS 3 (a6.map e_III))])], true⟩⟩) r9 ?_ ?_
       · refine R ?_;obtain ⟨_, _, q41⟩ := vsl_nsv 2 e5.1 1;rw [q41];refine R ?_;refine pw_loop (τ := Int × (Option (List Int))) (fun e => ⟨[(2, (pV 0 0)), (6, (iV e5.2)), (7, (pV 3 0)), (16, (iV a7)), (17, (iV e5.2)), (20, (nsv 2 e5.1 1)), (21, (iV ((nsl e5.1).length : Int))), (22, (iV e.1))], ⟨5, [(4, nso e.2), (3, .rw [(nsv 4 e.2 2)]), (2, nso e5.1), (0, .rw [(iV a0), (iV a1), (VS 4 (a2.map e_SIII)), (iV a3), (iV a4), (iV a5), (VS 3 (a6.map e_III))])], true⟩⟩) h10 ?_ (fun _ => nl rfl) ?_
         · exact ((Recast.sub' (nl rfl) (.cons rfl (.cons rfl (.cons rfl (.cons rfl (.cons rfl (.cons rfl (.cons rfl (.cons rfl .nil)))))))) : Recast _ _ ⟨[(2, (pV 0 0)), (6, (iV e5.2)), (7, (pV 3 0)), (16, (iV a7)), (17, (iV e5.2)), (20, (nsv 2 e5.1 1)), (21, (iV ((nsl e5.1).length : Int))), (22, (iV 0))], ⟨4, [(3, .rw [(.slice none 0 0)]), (2, nso e5.1), (0, .rw [(iV a0), (iV a1), (VS 4 (a2.map e_SIII)), (iV a3), (iV a4), (iV a5), (VS 3 (a6.map e_III))])], true⟩⟩).trans (Recast.deadn 4 (nl rfl) (nl rfl)))
         · intro e13 x14 h15;refine R ?_;refine pw_seq ?_;refine R ?_;refine pbr_oite h15 (fun g16 h15 => ?_) (fun g16 h15 => ?_)
           · refine R ?_;obtain ⟨r17, h18, h15⟩ := obnd_some h15;refine pw_join (ρ := (Option (List Int)) × Int) (fun e => ⟨[(2, (pV 0 0)), (6, (iV e5.2)), (7, (pV 3 0)), (16, (iV a7)), (17, (iV e5.2)), (20, (nsv 2 e5.1 1)), (21, (iV ((nsl e5.1).length : Int))), (22, (iV e13.1))], ⟨10, [(8, .dead), (7, .rw [(iV e5.2)]), (6, .rw [(iV e.2)]), (5, .rw [(iV a0), (iV a1), (VS 4 (a2.map e_SIII)), (iV a3), (iV a4), (iV a5), (VS 3 (a6.map e_III))]), (9, nso e.1), (3, .rw [(nsv 9 e.1 2)]), (2, nso e5.1), (0, .rw [(iV a0), (iV a1), (VS 4 (a2.map e_SIII)), (iV a3), (iV a4), (iV a5), (VS 3 (a6.map e_III))])], true⟩⟩) r17 ?_ ?_
             · refine R ?_;refine ocase_o h18 (fun g21 h18 => ?_) (fun m22 g21 h18 => ?_)
               · rw [g21];refine R ?_;cases h18
               · rw [g21];refine R ?_;refine pbr_ogrd h18 (fun g23 h18 => ?_);refine R ?_;refine pbr_ogrd h18 (fun g24 h18 => ?_);refine R ?_;refine nth_a (l := m22) (f := eI) h18 (fun x25 h26 h18 => ?_);refine R ?_;refine pcalls_in ?_;refine R ?_;refine pw_range [2, 6, 7, 16, 17, 20, 21, 22, 29] ?_;refine R ?_;refine pcallv_in ?_;refine R ?_;refine pw_loop (τ := Int × (Option (List Int))) (fun e => ⟨[(0, (.func (.yield 8) #[] #[])), (1, (pV 5 0)), (2, (pV 6 0)), (3, (pV 7 0)), (10, (iV ((a2.map e_SIII).length : Int))), (11, (iV e.1))], ⟨10, [(8, .loop ⟨.ready, none, [(2, (pV 0 0)), (6, (iV e5.2)), (7, (pV 3 0)), (16, (iV a7)), (17, (iV e5.2)), (20, (.slice (some ⟨2, 0, none⟩) m22.length 1)), (21, (iV ((nsl (some m22)).length : Int))), (22, (iV e13.1)), (29, (.func (.func (E.id 251)) ⟨[]⟩ ⟨[(pV 5 0), (pV 6 0), (pV 7 0)]⟩))], 43, #[30, 31], (rng 29 0).1, (rng 29 0).2⟩), (7, .rw [(iV e5.2)]), (6, .rw [(iV x25)]), (5, .rw [(iV a0), (iV a1), (VS 4 (a2.map e_SIII)), (iV a3), (iV a4), (iV a5), (VS 3 (a6.map e_III))]), (9, nso e.2), (3, .rw [(nsv 9 e.2 2)]), (2, .rw (m22.map eI)), (0, .rw [(iV a0), (iV a1), (VS 4 (a2.map e_SIII)), (iV a3), (iV a4), (iV a5), (VS 3 (a6.map e_III))])], true⟩⟩) h18 ?_ (fun _ => nl rfl) ?_
                 · exact (Recast.mv 4 9 (nl rfl) (nl rfl) (.cons (.loop (nn rfl) (nn rfl) (nl rfl) rfl (.cons (.ptr (nn rfl) (nl rfl)) (.cons .cl (.cons (.ptr (nn rfl) (nl rfl)) (.cons .cl (.cons .cl (.cons (.slice (nn rfl) (nl rfl)) (.cons .cl (.cons .cl (.cons (.funcl .nil (.cons (.ptr (nn rfl) (nl rfl)) (.cons (.ptr (nn rfl) (nl rfl)) (.cons (.ptr (nn rfl) (nl rfl)) .nil)))) .nil)))))))))) (.cons (.rw (nn rfl) (nn rfl) (nl rfl) rfl rfl (.of (.cons .cl .nil))) (.cons (.rw (nn rfl) (nn rfl) (nl rfl) rfl rfl (.of (.cons .cl .nil))) (.cons (.rw (nn rfl) (nn rfl) (nl rfl) rfl rfl (.of (.cons .cl (.cons .cl (.cons .cl (.cons .cl (.cons .cl (.cons .cl (.cons .cl .nil))))))))) (.cons (.nsm (nl rfl) rfl) (.cons (.rw (nn rfl) (nn rfl) (nl rfl) rfl (oneL_c nsv_one rfl) (.of (.cons (.nsm (nl rfl)) .nil))) (.cons (.rw (nn rfl) (nn rfl) (nl rfl) rfl (oneL_map fun _ => rfl) .cl) (.cons (.rw (nn rfl) (nn rfl) (nl rfl) rfl rfl (.of (.cons .cl (.cons .cl (.cons .cl (.cons .cl (.cons .cl (.cons .cl (.cons .cl .nil))))))))) .nil)))))))) (.cons rfl (.yield (nn rfl) (nl rfl)) (.cons rfl (.ptr (nn rfl) (nl rfl)) (.cons rfl (.ptr (nn rfl) (nl rfl)) (.cons rfl (.ptr (nn rfl) (nl rfl)) (.cons rfl .cl (.cons rfl .cl .nil)))))))
                 · intro e28 x29 h30;refine R ?_;refine pw_seq ?_;refine R ?_;refine pbr_oite h30 (fun g31 h30 => ?_) (fun g31 h30 => ?_)
                   · refine R ?_;refine pw_seq ?_;refine R ?_;obtain ⟨y32, h33, h30⟩ := obnd_some h30;refine (c242 h33).go ?_;refine R ?_;obtain ⟨y34, h35, h30⟩ := obnd_some h30;refine (c243 h35).go ?_;refine R ?_;refine pbr_oite h30 (fun g36 h30 => ?_) (fun g36 h30 => ?_)
                     · refine R ?_;refine pcallv_yield ir231a0 ir231b0 rfl rfl ra231_0 rb231_0 ⟨_, _, _, _, rfl⟩ ?_;refine R ?_;refine ocase_o h30 (fun g37 h30 => ?_) (fun m38 g37 h30 => ?_)
                       · rw [g37];refine R ?_;refine ⟨by first | decide | simp [chunk], by first | decide | simp [chunk], ?_⟩;refine R ?_;cases h30;refine ⟨_, rfl, ?_⟩;refine Recast.trans (s' := ⟨[(0, (.func (.yield 8) #[] #[])), (1, (pV 5 0)), (2, (pV 6 0)), (3, (pV 7 0)), (10, (iV ((a2.map e_SIII).length : Int))), (11, (iV (IntKind.i64.wrap (e28.1 + (1 : Int)))))], ⟨12, [(8, .loop ⟨.ready, none, [(2, (pV 0 0)), (6, (iV e5.2)), (7, (pV 3 0)), (16, (iV a7)), (17, (iV e5.2)), (20, (.slice (some ⟨2, 0, none⟩) m22.length 1)), (21, (iV ((nsl (some m22)).length : Int))), (22, (iV e13.1)), (29, (.func (.func (E.id 251)) ⟨[]⟩ ⟨[(pV 5 0), (pV 6 0), (pV 7 0)]⟩))], 43, #[30, 31], (rng 29 0).1, (rng 29 0).2⟩), (7, .rw [(iV e5.2)]), (6, .rw [(iV x25)]), (5, .rw [(iV a0), (iV a1), (VS 4 (a2.map e_SIII)), (iV a3), (iV a4), (iV a5), (VS 3 (a6.map e_III))]), (11, .rw (([y32] : List Int).map eI)), (3, .rw [(.slice (some ⟨11, 0, none⟩) ([y32] : List Int).length 2)]), (2, .rw (m22.map eI)), (0, .rw [(iV a0), (iV a1), (VS 4 (a2.map e_SIII)), (iV a3), (iV a4), (iV a5), (VS 3 (a6.map e_III))])], true⟩⟩) (by exact Recast.fz (fun _ => false) (nl rfl) (.cons (.same rfl rfl (OBnd.loop (nl rfl) (.cons (.ptr (nl rfl)) (.cons .cl (.cons (.ptr (nl rfl)) (.cons .cl (.cons .cl (.cons (.slice (nl rfl)) (.cons .cl (.cons .cl (.cons (.funcl .nil (.cons (.ptr (nl rfl)) (.cons (.ptr (nl rfl)) (.cons (.ptr (nl rfl)) .nil)))) .nil))))))))))) (.cons (.same rfl rfl (OBnd.rwl (nl rfl) rfl (.cons .cl .nil))) (.cons (.same rfl rfl (OBnd.rwl (nl rfl) rfl (.cons .cl .nil))) (.cons (.same rfl rfl (OBnd.rwl (nl rfl) rfl (.cons .cl (.cons .cl (.cons .cl (.cons .cl (.cons .cl (.cons .cl (.cons .cl .nil))))))))) (.cons (.same rfl rfl (OBnd.rwc (nl rfl) (oneL_map fun _ => rfl))) (.cons (.same rfl rfl (OBnd.rwl (nl rfl) rfl (.cons (.slice (nl rfl)) .nil))) (.cons (.same rfl rfl (OBnd.rwc (nl rfl) (oneL_map fun _ => rfl))) (.cons (.same rfl rfl (OBnd.rwl (nl rfl) rfl (.cons .cl (.cons .cl (.cons .cl (.cons .cl (.cons .cl (.cons .cl (.cons .cl .nil))))))))) .nil)))))))) (.cons rfl (.same _ (.yield (nl rfl))) (.cons rfl (.same _ (.ptr (nl rfl))) (.cons rfl (.same _ (.ptr (nl rfl))) (.cons rfl (.same _ (.ptr (nl rfl))) (.cons rfl (.same _ .cl) (.cons rfl (.same _ .cl) .nil))))))) ?_
                         exact (Recast.mv 11 9 (nl rfl) (nl rfl) (.cons (.loop (nn rfl) (nn rfl) (nl rfl) rfl (.cons (.ptr (nn rfl) (nl rfl)) (.cons .cl (.cons (.ptr (nn rfl) (nl rfl)) (.cons .cl (.cons .cl (.cons (.slice (nn rfl) (nl rfl)) (.cons .cl (.cons .cl (.cons (.funcl .nil (.cons (.ptr (nn rfl) (nl rfl)) (.cons (.ptr (nn rfl) (nl rfl)) (.cons (.ptr (nn rfl) (nl rfl)) .nil)))) .nil)))))))))) (.cons (.rw (nn rfl) (nn rfl) (nl rfl) rfl rfl (.of (.cons .cl .nil))) (.cons (.rw (nn rfl) (nn rfl) (nl rfl) rfl rfl (.of (.cons .cl .nil))) (.cons (.rw (nn rfl) (nn rfl) (nl rfl) rfl rfl (.of (.cons .cl (.cons .cl (.cons .cl (.cons .cl (.cons .cl (.cons .cl (.cons .cl .nil))))))))) (.cons (.mv rfl (nl rfl) rfl (oneL_map fun _ => rfl) .cl) (.cons (.rw (nn rfl) (nn rfl) (nl rfl) rfl rfl (.of (.cons (.slicem (nl rfl)) .nil))) (.cons (.rw (nn rfl) (nn rfl) (nl rfl) rfl (oneL_map fun _ => rfl) .cl) (.cons (.rw (nn rfl) (nn rfl) (nl rfl) rfl rfl (.of (.cons .cl (.cons .cl (.cons .cl (.cons .cl (.cons .cl (.cons .cl (.cons .cl .nil))))))))) .nil)))))))) (.cons rfl (.yield (nn rfl) (nl rfl)) (.cons rfl (.ptr (nn rfl) (nl rfl)) (.cons rfl (.ptr (nn rfl) (nl rfl)) (.cons rfl (.ptr (nn rfl) (nl rfl)) (.cons rfl .cl (.cons rfl .cl .nil)))))))
                       · rw [g37];refine R ?_;refine appg_o (l := m38) (m := ([y32] : List Int)) h30 (Nat.beq_refl _) rfl (fun h30 => ?_);refine R ?_;cases h30;refine ⟨_, rfl, ?_⟩;refine Recast.trans (s' := ⟨[(0, (.func (.yield 8) #[] #[])), (1, (pV 5 0)), (2, (pV 6 0)), (3, (pV 7 0)), (10, (iV ((a2.map e_SIII).length : Int))), (11, (iV (IntKind.i64.wrap (e28.1 + (1 : Int)))))], ⟨12, [(8, .loop ⟨.ready, none, [(2, (pV 0 0)), (6, (iV e5.2)), (7, (pV 3 0)), (16, (iV a7)), (17, (iV e5.2)), (20, (.slice (some ⟨2, 0, none⟩) m22.length 1)), (21, (iV ((nsl (some m22)).length : Int))), (22, (iV e13.1)), (29, (.func (.func (E.id 251)) ⟨[]⟩ ⟨[(pV 5 0), (pV 6 0), (pV 7 0)]⟩))], 43, #[30, 31], (rng 29 0).1, (rng 29 0).2⟩), (7, .rw [(iV e5.2)]), (6, .rw [(iV x25)]), (5, .rw [(iV a0), (iV a1), (VS 4 (a2.map e_SIII)), (iV a3), (iV a4), (iV a5), (VS 3 (a6.map e_III))]), (11, .rw ((m38 ++ ([y32] : List Int)).map eI)), (3, .rw [(.slice (some ⟨11, 0, none⟩) (m38 ++ ([y32] : List Int)).length 2)]), (2, .rw (m22.map eI)), (0, .rw [(iV a0), (iV a1), (VS 4 (a2.map e_SIII)), (iV a3), (iV a4), (iV a5), (VS 3 (a6.map e_III))])], true⟩⟩) (by exact Recast.fz (fun _ => false) (nl rfl) (.cons (.same rfl rfl (OBnd.loop (nl rfl) (.cons (.ptr (nl rfl)) (.cons .cl (.cons (.ptr (nl rfl)) (.cons .cl (.cons .cl (.cons (.slice (nl rfl)) (.cons .cl (.cons .cl (.cons (.funcl .nil (.cons (.ptr (nl rfl)) (.cons (.ptr (nl rfl)) (.cons (.ptr (nl rfl)) .nil)))) .nil))))))))))) (.cons (.same rfl rfl (OBnd.rwl (nl rfl) rfl (.cons .cl .nil))) (.cons (.same rfl rfl (OBnd.rwl (nl rfl) rfl (.cons .cl .nil))) (.cons (.same rfl rfl (OBnd.rwl (nl rfl) rfl (.cons .cl (.cons .cl (.cons .cl (.cons .cl (.cons .cl (.cons .cl (.cons .cl .nil))))))))) (.cons (.same rfl rfl (OBnd.rwc (nl rfl) (oneL_map fun _ => rfl))) (.cons (.same rfl rfl (OBnd.rwl (nl rfl) rfl (.cons (.slice (nl rfl)) .nil))) (.cons (.same rfl rfl (OBnd.rwc (nl rfl) (oneL_map fun _ => rfl))) (.cons (.same rfl rfl (OBnd.rwl (nl rfl) rfl (.cons .cl (.cons .cl (.cons .cl (.cons .cl (.cons .cl (.cons .cl (.cons .cl .nil))))))))) .nil)))))))) (.cons rfl (.same _ (.yield (nl rfl))) (.cons rfl (.same _ (.ptr (nl rfl))) (.cons rfl (.same _ (.ptr (nl rfl))) (.cons rfl (.same _ (.ptr (nl rfl))) (.cons rfl (.same _ .cl) (.cons rfl (.same _ .cl) .nil))))))) ?_
                         exact (Recast.mv 11 9 (nl rfl) (nl rfl) (.cons (.loop (nn rfl) (nn rfl) (nl rfl) rfl (.cons (.ptr (nn rfl) (nl rfl)) (.cons .cl (.cons (.ptr (nn rfl) (nl rfl)) (.cons .cl (.cons .cl (.cons (.slice (nn rfl) (nl rfl)) (.cons .cl (.cons .cl (.cons (.funcl .nil (.cons (.ptr (nn rfl) (nl rfl)) (.cons (.ptr (nn rfl) (nl rfl)) (.cons (.ptr (nn rfl) (nl rfl)) .nil)))) .nil)))))))))) (.cons (.rw (nn rfl) (nn rfl) (nl rfl) rfl rfl (.of (.cons .cl .nil))) (.cons (.rw (nn rfl) (nn rfl) (nl rfl) rfl rfl (.of (.cons .cl .nil))) (.cons (.rw (nn rfl) (nn rfl) (nl rfl) rfl rfl (.of (.cons .cl (.cons .cl (.cons .cl (.cons .cl (.cons .cl (.cons .cl (.cons .cl .nil))))))))) (.cons (.mv rfl (nl rfl) rfl (oneL_map fun _ => rfl) .cl) (.cons (.rw (nn rfl) (nn rfl) (nl rfl) rfl rfl (.of (.cons (.slicem (nl rfl)) .nil))) (.cons (.rw (nn rfl) (nn rfl) (nl rfl) rfl (oneL_map fun _ => rfl) .cl) (.cons (.rw (nn rfl) (nn rfl) (nl rfl) rfl rfl (.of (.cons .cl (.cons .cl (.cons .cl (.cons .cl (.cons .cl (.cons .cl (.cons .cl .nil))))))))) .nil)))))))) (.cons rfl (.yield (nn rfl) (nl rfl)) (.cons rfl (.ptr (nn rfl) (nl rfl)) (.cons rfl (.ptr (nn rfl) (nl rfl)) (.cons rfl (.ptr (nn rfl) (nl rfl)) (.cons rfl .cl (.cons rfl .cl .nil)))))))
                     · refine R ?_;cases h30;refine ⟨_, rfl, ?_⟩;exact sb
                   · refine R ?_;cases h30;refine ⟨_, rfl, ?_⟩;rintro rfl;refine R ?_;(try rw [g21]);exact cr
             · refine R ?_;cases h15;refine ⟨_, rfl, ?_⟩;refine Recast.trans (s' := ⟨[(2, (pV 0 0)), (6, (iV e5.2)), (7, (pV 3 0)), (16, (iV a7)), (17, (iV e5.2)), (20, (nsv 2 e5.1 1)), (21, (iV ((nsl e5.1).length : Int))), (22, (iV (IntKind.i64.wrap (e13.1 + (1 : Int)))))], ⟨10, [(9, nso r17.1), (3, .rw [(nsv 9 r17.1 2)]), (2, nso e5.1), (0, .rw [(iV a0), (iV a1), (VS 4 (a2.map e_SIII)), (iV a3), (iV a4), (iV a5), (VS 3 (a6.map e_III))])], true⟩⟩) (by exact Recast.fz (fun _ => false) (nl rfl) (.cons (.same rfl rfl (.ns (nl rfl))) (.cons (.same rfl rfl (OBnd.rwl (nl rfl) (oneL_c nsv_one rfl) (.cons (.ns (nl rfl)) .nil))) (.cons (.same rfl rfl (.ns (nl rfl))) (.cons (.same rfl rfl (OBnd.rwl (nl rfl) rfl (.cons .cl (.cons .cl (.cons .cl (.cons .cl (.cons .cl (.cons .cl (.cons .cl .nil))))))))) .nil)))) (.cons rfl (.same _ (.ptr (nl rfl))) (.cons rfl (.same _ .cl) (.cons rfl (.same _ (.ptr (nl rfl))) (.cons rfl (.same _ .cl) (.cons rfl (.same _ .cl) (.cons rfl (.same _ (.ns (nl rfl))) (.cons rfl (.same _ .cl) (.cons rfl (.same _ .cl) .nil))))))))) ?_
               exact (Recast.mv 9 4 (nl rfl) (nl rfl) (.cons (.nsm (nl rfl) rfl) (.cons (.rw (nn rfl) (nn rfl) (nl rfl) rfl (oneL_c nsv_one rfl) (.of (.cons (.nsm (nl rfl)) .nil))) (.cons (.ns (nn rfl) (nn rfl) (nl rfl) rfl) (.cons (.rw (nn rfl) (nn rfl) (nl rfl) rfl rfl (.of (.cons .cl (.cons .cl (.cons .cl (.cons .cl (.cons .cl (.cons .cl (.cons .cl .nil))))))))) .nil)))) (.cons rfl (.ptr (nn rfl) (nl rfl)) (.cons rfl .cl (.cons rfl (.ptr (nn rfl) (nl rfl)) (.cons rfl .cl (.cons rfl .cl (.cons rfl (.ns (nn rfl) (nl rfl)) (.cons rfl .cl (.cons rfl .cl .nil)))))))))
           · refine R ?_;cases h15;refine ⟨_, rfl, ?_⟩;rintro rfl;refine R ?_;exact cr
       · refine pwa ?_;(conv=>whnf);refine ocase_o h7 (fun g42 h7 => ?_) (fun m43 g42 h7 => ?_)
         · rw [g42];(conv=>whnf);refine sort_nil ?_;(conv=>whnf);refine pw_ops ?_;refine po_all ?_;(conv=>whnf);refine compact_nil ?_;(conv=>whnf);refine pw_ops ?_;refine po_all ?_;(conv=>whnf);cases h7;refine ⟨_, rfl, ?_⟩; (try rw [g42]);exact Recast.fz (fun _ => false) (nl rfl) (.cons .dead (.cons (.same rfl rfl (OBnd.rwl (nl rfl) rfl (.cons .cl (.cons .cl (.cons .cl (.cons .cl (.cons .cl (.cons .cl (.cons .cl .nil))))))))) .nil)) (.cons rfl (.same _ (.ptr (nl rfl))) (.cons rfl (.same _ .cl) (.cons rfl (.same _ .cl) (.cons rfl (.same _ .cl) .nil))))
         · rw [g42];refine R ?_;obtain ⟨g44, h7⟩ := ogrd_some h7;refine sort_o (l := m43) rfl (Nat.beq_refl _) g44 ?_;refine R ?_;obtain ⟨g45, h7⟩ := ogrd_some h7;refine compact_o (l := (srt m43)) rfl (srt_len (Nat.beq_refl _)) g45 ?_;refine R ?_;cases h7;refine ⟨_, rfl, ?_⟩;refine Recast.trans (s' := ⟨[(2, (pV 0 0)), (5, (.slice (some ⟨4, 0, none⟩) (Lib.compact (srt m43)).length 1)), (16, (iV a7)), (17, (iV (IntKind.i64.wrap (e5.2 + (1 : Int)))))], ⟨5, [(4, .rw ((Lib.compact (srt m43)).map eI)), (0, .rw [(iV a0), (iV a1), (VS 4 (a2.map e_SIII)), (iV a3), (iV a4), (iV a5), (VS 3 (a6.map e_III))])], true⟩⟩) (by exact Recast.fz (fun _ => false) (nl rfl) (.cons (.same rfl rfl (OBnd.rwc (nl rfl) (oneL_map fun _ => rfl))) (.cons (.same rfl rfl (OBnd.rwl (nl rfl) rfl (.cons .cl (.cons .cl (.cons .cl (.cons .cl (.cons .cl (.cons .cl (.cons .cl .nil))))))))) .nil)) (.cons rfl (.same _ (.ptr (nl rfl))) (.cons rfl (.same _ (.slice (nl rfl))) (.cons rfl (.same _ .cl) (.cons rfl (.same _ .cl) .nil))))) ?_
           exact (Recast.mv 4 2 (nl rfl) (nl rfl) (.cons (.mv rfl (nl rfl) rfl (oneL_map fun _ => rfl) .cl) (.cons (.rw (nn rfl) (nn rfl) (nl rfl) rfl rfl (.of (.cons .cl (.cons .cl (.cons .cl (.cons .cl (.cons .cl (.cons .cl (.cons .cl .nil))))))))) .nil)) (.cons rfl (.ptr (nn rfl) (nl rfl)) (.cons rfl (.slicem (nl rfl)) (.cons rfl .cl (.cons rfl .cl .nil)))))
     · refine R ?_;cases h7;refine ⟨_, rfl, ?_⟩;rintro rfl;refine R ?_;exact cr
 · refine R ?_;refine ocase_o H (fun g47 H => ?_) (fun m48 g47 H => ?_)
   · rw [g47];refine R ?_;cases H;exact ⟨999, 0, rfl, rfl⟩
   · rw [g47];refine R ?_;cases H;exact ⟨2, 1, rfl, rfl⟩
noncomputable def f212 [LO]  (a0 : Int) (a1 : Int) (a2 : List (ByteArray × Int × Int × Int)) (a3 : Int) (a4 : Int) (a5 : Int) (a6 : List (Int × Int × Int)) (a7 : Int) : Option ((List Int) × Int) :=
 obnd (f219 a0 a1 a2 a3 a4 a5 a6) fun (y1 : Int × Int × (List (ByteArray × Int × Int × Int)) × Int × Int × Int × (List (Int × Int × Int)) × Int) =>
 obnd (f216 a7 (0 : Int) ((a6.map e_III).length : Int)) fun (y3 : Bool) =>
 obnd (f214 y3 (2 : Int)) fun (y5 : Int) =>
 obnd (f213 ([y1.2.2.2.2.2.2.2, y5] : List Int)) fun (y7 : Int) =>
 oite ((!(ieq y7 (0 : Int)))) (
 some (([] : List Int), y7)
 ) (
 obnd (f229 y1.1 y1.2.1 y1.2.2.1 y1.2.2.2.1 y1.2.2.2.2.1 y1.2.2.2.2.2.1 y1.2.2.2.2.2.2.1 (-1 : Int) (0 : Int)) fun (y10 : (List ((List Int)))) =>
 obnd (f231 y1.1 y1.2.1 y1.2.2.1 y1.2.2.2.1 y1.2.2.2.2.1 y1.2.2.2.2.2.1 y1.2.2.2.2.2.2.1 a7) fun (y12 : (Option (List Int))) =>
 ocase y12 (
 obnd (f70 (fun (z0 : Int) => f232 z0 y10 a7 y1.1 y1.2.1 y1.2.2.1 y1.2.2.2.1 y1.2.2.2.2.1 y1.2.2.2.2.2.1 y1.2.2.2.2.2.2.1) ([] : List Int)) fun (y16 : Int) =>
 oite ((ieq y16 (-1 : Int))) (
 some (([] : List Int), (0 : Int))
 ) (
 none)
 ) fun (m15 : List Int) =>
 obnd (f70 (fun (z0 : Int) => f232 z0 y10 a7 y1.1 y1.2.1 y1.2.2.1 y1.2.2.2.1 y1.2.2.2.2.1 y1.2.2.2.2.2.1 y1.2.2.2.2.2.2.1) m15) fun (y28 : Int) =>
 oite ((ieq y28 (-1 : Int))) (
 some (m15, (0 : Int))
 ) (
 obnd (
 oloop (τ := Int × Int × (List Int)) (ρ := Int × (List Int)) (fun e35 =>
 oite ((ilt e35.2.1 (m15.length : Int))) (
 ogrd ((ile 0 e35.2.1)) (
 obnd (e35.2.2[e35.2.1.toNat]?) fun (x40 : Int) =>
 obnd (f232 x40 y10 a7 y1.1 y1.2.1 y1.2.2.1 y1.2.2.2.1 y1.2.2.2.2.1 y1.2.2.2.2.2.1 y1.2.2.2.2.2.2.1) fun (y43 : Bool) =>
 oite (!y43) (
 ogrd ((ile 0 e35.1)) (
 ogrd ((ilt e35.1 (m15.length : Int))) (
 ogrd (Nat.blt e35.1.toNat e35.2.2.length) (
 some (.inl (((IntKind.i64.wrap (e35.1 + (1 : Int))), (IntKind.i64.wrap (e35.2.1 + (1 : Int))), (e35.2.2.set e35.1.toNat x40)))))))
 ) (
 some (.inl (e35.1, (IntKind.i64.wrap (e35.2.1 + (1 : Int))), e35.2.2))))
 ) (
 some (.inr ((e35.1, e35.2.2))))
 ) (y28, (IntKind.i64.wrap (y28 + (1 : Int))), m15)
 ) fun (r31 : Int × (List Int)) =>
 ogrd (ile 0 r31.1) (
 ogrd (ile r31.1 (m15.length : Int)) (
 ogrd (Nat.beq m15.length r31.2.length) (
 ogrd (ilt r31.1 (m15.length : Int)) (
 ogrd (Nat.ble r31.1.toNat (clrL r31.2 r31.1.toNat).length) (
 some (((clrL r31.2 r31.1.toNat).take r31.1.toNat), (0 : Int)))))))))
theorem c212 [LO]  {a0 : Int} {a1 : Int} {a2 : List (ByteArray × Int × Int × Int)} {a3 : Int} {a4 : Int} {a5 : Int} {a6 : List (Int × Int × Int)} {a7 : Int} {x : (List Int) × Int} (H : f212 a0 a1 a2 a3 a4 a5 a6 a7 = some x) : ICalls E 212 [(.agg ⟨[(iV a0), (iV a1), (VS 4 (a2.map e_SIII))]⟩), (.agg ⟨[(iV a3), (iV a4), (iV a5), (VS 3 (a6.map e_III))]⟩), (iV a7)] AHeap.none fun v _ => v = (.tuple ⟨[(VS 1 (x.1.map eI)), (iV x.2)]⟩) := by
 refine ICalls.frz ?_;refine icalls_fn (pfnw ?_);unfold f212 at H;refine R ?_;obtain ⟨y1, h2, H⟩ := obnd_some H;refine (c219 h2).go ?_;refine R ?_;refine pw_seq ?_;refine R ?_;obtain ⟨y3, h4, H⟩ := obnd_some H;refine (c216 h4).go ?_;refine R ?_;obtain ⟨y5, h6, H⟩ := obnd_some H;refine (c214 h6).go ?_;refine R ?_;obtain ⟨y7, h8, H⟩ := obnd_some H;refine ICalls.goW (c213 h8) (.cons (.vt _ _ _) .nil) ?_;refine R ?_
 refine pbr_oite H (fun g9 H => ?_) (fun g9 H => ?_)
 · refine R ?_;cases H;show ∃ D, Fz _ D 0 (.tuple ⟨[(.slice none 0 0), (iV y7)]⟩) _;exact ⟨fun _ => false, .tuplel (.cons (.nil _) (.cons .cl (.nil)))⟩
 · refine R ?_;obtain ⟨y10, h11, H⟩ := obnd_some H;refine (c229 h11).go ?_;refine R ?_;obtain ⟨y12, h13, H⟩ := obnd_some H;refine ocase_o H (fun g14 H => ?_) (fun m15 g14 H => ?_)
   · subst g14;refine ICalls.goNS0 (c231 h13) (.cons (.refl _) (.cons (.refl _) .nil)) ?_;refine R ?_;refine pcalls_in ?_;refine R ?_;obtain ⟨y16, h17, H⟩ := obnd_some H;refine ICalls.goD (c70 (fun _ _ h => (c232 h)) h17) (.cons .nilv (.cons (.func .nil (.cons (.ptr rfl (by intro v hv; simp only [List.mem_cons, List.not_mem_nil, or_false] at hv; rcases hv with rfl <;> rfl)) (.cons (.ptr rfl (by intro v hv; simp only [List.mem_cons, List.not_mem_nil, or_false] at hv; rcases hv with rfl <;> rfl)) (.cons (.ptr rfl (by intro v hv; simp only [List.mem_cons, List.not_mem_nil, or_false] at hv; rcases hv with rfl | rfl | rfl | rfl | rfl | rfl | rfl <;> rfl)) .nil)))) .nil)) rfl ?_
     refine R ?_;refine pw_seq ?_;refine R ?_;refine pbr_oite H (fun g18 H => ?_) (fun g18 H => ?_)
     · refine R ?_;cases H;show ∃ D, Fz _ D 0 (.tuple ⟨[(.slice none 0 0), (iV 0)]⟩) _;exact ⟨fun _ => false, .tuplel (.cons (.nil _) (.cons .cl (.nil)))⟩
     · refine R ?_;cases H
   · subst g14;refine ICalls.goNS1 (c231 h13) (.cons (.refl _) (.cons (.refl _) .nil)) ?_;refine R ?_;refine pcalls_in ?_;refine R ?_;obtain ⟨y28, h29, H⟩ := obnd_some H;refine ICalls.goD (c70 (fun _ _ h => (c232 h)) h29) (.cons (.slm rfl (Nat.beq_refl _) (fun _ => rfl)) (.cons (.func .nil (.cons (.ptr rfl (by intro v hv; simp only [List.mem_cons, List.not_mem_nil, or_false] at hv; rcases hv with rfl <;> rfl)) (.cons (.ptr rfl (by intro v hv; simp only [List.mem_cons, List.not_mem_nil, or_false] at hv; rcases hv with rfl <;> rfl)) (.cons (.ptr rfl (by intro v hv; simp only [List.mem_cons, List.not_mem_nil, or_false] at hv; rcases hv with rfl | rfl | rfl | rfl | rfl | rfl | rfl <;> rfl)) .nil)))) .nil)) rfl ?_
     refine R ?_;refine pw_seq ?_;refine R ?_;refine pbr_oite H (fun g30 H => ?_) (fun g30 H => ?_)
     · refine R ?_;cases H;exact ⟨fun b => Nat.beq b 6, .tuplel (.cons (.slm rfl rfl (Nat.beq_refl _) (fun _ => rfl)) (.cons .cl (.nil)))⟩
     · refine R ?_;obtain ⟨r31, h32, H⟩ := obnd_some H;refine pw_join (ρ := Int × (List Int)) (fun e => ⟨[(0, (.slice (some ⟨6, 0, none⟩) m15.length 1)), (5, (iV e.1))], ⟨7, [(6, .rw (e.2.map eI)), (5, .rw [(VS 1 (y10.map e_L1I))]), (4, .tail 2 1), (3, .rw [(iV y1.1), (iV y1.2.1), (VS 4 (y1.2.2.1.map e_SIII)), (iV y1.2.2.2.1), (iV y1.2.2.2.2.1), (iV y1.2.2.2.2.2.1), (VS 3 (y1.2.2.2.2.2.2.1.map e_III))]), (2, .rw [(iV a7)]), (1, .rw [(iV a3), (iV a4), (iV a5), (VS 3 (a6.map e_III))]), (0, .rw [(iV a0), (iV a1), (VS 4 (a2.map e_SIII))])], false⟩⟩) r31 ?_ ?_
       · refine R ?_;refine pw_loop (τ := Int × Int × (List Int)) (fun e => ⟨[(0, (.slice (some ⟨6, 0, none⟩) m15.length 1)), (1, (.func (.func (E.id 232)) ⟨[]⟩ ⟨[(pV 5 0), (pV 2 0), (pV 3 0)]⟩)), (5, (iV e.1)), (6, (iV e.2.1))], ⟨7, [(6, .rw (e.2.2.map eI)), (5, .rw [(VS 1 (y10.map e_L1I))]), (4, .tail 2 1), (3, .rw [(iV y1.1), (iV y1.2.1), (VS 4 (y1.2.2.1.map e_SIII)), (iV y1.2.2.2.1), (iV y1.2.2.2.2.1), (iV y1.2.2.2.2.2.1), (VS 3 (y1.2.2.2.2.2.2.1.map e_III))]), (2, .rw [(iV a7)]), (1, .rw [(iV a3), (iV a4), (iV a5), (VS 3 (a6.map e_III))]), (0, .rw [(iV a0), (iV a1), (VS 4 (a2.map e_SIII))])], false⟩⟩) h32 ?_ (fun _ => nl rfl) ?_
         · exact sb
         · intro e35 x36 h37;refine pw_seq ?_;refine R ?_;refine pbr_oite h37 (fun g38 h37 => ?_) (fun g38 h37 => ?_)
           · refine R ?_;refine pw_seq ?_;refine R ?_;refine pbr_ogrd h37 (fun g39 h37 => ?_);refine R ?_;refine nth_a (l := e35.2.2) (f := eI) h37 (fun x40 h41 h37 => ?_);refine R ?_;obtain ⟨y43, h44, h37⟩ := obnd_some h37;refine ICallV.goD (c232 h44) (.func .nil (.cons (.ptr rfl (by intro v hv; simp only [List.mem_cons, List.not_mem_nil, or_false] at hv; rcases hv with rfl <;> rfl)) (.cons (.ptr rfl (by intro v hv; simp only [List.mem_cons, List.not_mem_nil, or_false] at hv; rcases hv with rfl <;> rfl)) (.cons (.ptr rfl (by intro v hv; simp only [List.mem_cons, List.not_mem_nil, or_false] at hv; rcases hv with rfl | rfl | rfl | rfl | rfl | rfl | rfl <;> rfl)) .nil)))) (.cons .cl .nil) rfl ?_
             refine R ?_;refine pbr_oite h37 (fun g45 h37 => ?_) (fun g45 h37 => ?_)
             · refine R ?_;refine pbr_ogrd h37 (fun g46 h37 => ?_);refine R ?_;refine pbr_ogrd h37 (fun g47 h37 => ?_);refine R ?_;obtain ⟨g48, h37⟩ := ogrd_some h37;refine set_a (l := e35.2.2) (f := eI) (x := x40) g48 rfl ?_;refine R ?_;cases h37;refine ⟨_, rfl, ?_⟩;exact sb
             · refine R ?_;cases h37;refine ⟨_, rfl, ?_⟩;exact sb
           · refine R ?_;cases h37;refine ⟨_, rfl, ?_⟩;rintro rfl;refine R ?_;exact cr
       · refine R ?_;obtain ⟨g50, H⟩ := ogrd_some H;obtain ⟨g51, H⟩ := ogrd_some H;refine she_o (by rfl) g50 g51 ?_;refine R ?_;obtain ⟨g52, H⟩ := ogrd_some H;obtain ⟨g53, H⟩ := ogrd_some H;refine clr_o (l := r31.2) (by rfl) rfl g52 g50 g53 ?_;refine R ?_;refine shp_o (by rfl) g50 g51 ?_;refine R ?_;obtain ⟨g54, H⟩ := ogrd_some H;cases H;exact ⟨fun b => Nat.beq b 6, .tuplel (.cons (.slp rfl rfl g54 (fun _ => rfl)) (.cons .cl (.nil)))⟩
noncomputable def f15  (a0 : Int) (a1 : Int) (a2 : Int) : Option Bool :=
 obnd (
 oite ((ile a1 a0)) (
 some (ile a0 a2)
 ) (
 some false)
 ) fun (r1 : Bool) =>
 some r1
theorem c15  {a0 : Int} {a1 : Int} {a2 : Int} {x : Bool} (H : f15 a0 a1 a2 = some x) : ICalls E 15 [(iV a0), (iV a1), (iV a2)] AHeap.none fun v _ => v = (.bool x) := by
 refine icalls_fn (pfnw ?_); unfold f15 at H;(conv=>whnf);refine pwa ?_;(conv=>whnf);refine pw_so ?_;refine po_ops 4 ?_;(conv=>whnf);obtain ⟨r1, h2, H⟩ := obnd_some H;refine po_seg (τ := Bool) 4 (fun e => ⟨[(14, (.bool e))], ⟨0, [], false⟩⟩) r1 ?_ ?_
 · refine R ?_;refine pbr_oite h2 (fun g3 h2 => ?_) (fun g3 h2 => ?_)
   · refine R ?_;cases h2;exact cr
   · refine R ?_;cases h2;exact cr
 · refine R ?_;cases H;rfl
noncomputable def f91 [LO]  (a0 : ByteArray) : Option Bool :=
 obnd (
 oite ((ilt (a0.size : Int) (1 : Int))) (
 some true
 ) (
 some (ilt (12 : Int) (a0.size : Int)))
 ) fun (r1 : Bool) =>
 oite r1 (
 some false
 ) (
 obndS (
 oloop (τ := Int) (ρ := (Unit) ⊕ Bool) (fun e11 =>
 oite ((ilt e11 (a0.size : Int))) (
 ogrd ((ile 0 e11)) (
 obnd (a0.data.toList[e11.toNat]?) fun (x16 : UInt8) =>
 obnd (
 oite ((ile (97 : Int) (x16.toNat : Int))) (
 some (ile (x16.toNat : Int) (122 : Int))
 ) (
 some false)
 ) fun (r17 : Bool) =>
 obnd (
 oite r17 (
 some true
 ) (
 oite ((ile (65 : Int) (x16.toNat : Int))) (
 some (ile (x16.toNat : Int) (90 : Int))
 ) (
 some false))
 ) fun (r20 : Bool) =>
 obnd (
 oite (!r20) (
 obnd (
 oite ((ieq e11 (0 : Int))) (
 some true
 ) (
 oite ((!(ieq (x16.toNat : Int) (45 : Int)))) (
 oite ((ilt (x16.toNat : Int) (48 : Int))) (
 some true
 ) (
 some (ilt (57 : Int) (x16.toNat : Int)))
 ) (
 some false))
 ) fun (r29 : Bool) =>
 some r29
 ) (
 some false)
 ) fun (r24 : Bool) =>
 oite r24 (
 some (.inr (.inr (false)))
 ) (
 some (.inl (IntKind.i64.wrap (e11 + (1 : Int))))))
 ) (
 some (.inr (.inl ())))
 ) (0 : Int)
 ) fun (_ : Unit) =>
 some true)
theorem c91 [LO]  {a0 : ByteArray} {x : Bool} (H : f91 a0 = some x) : ICalls E 91 [(.string a0)] AHeap.none fun v _ => v = (.bool x) := by
  refine icalls_fn (pfnw ?_);unfold f91 at H;refine R ?_;refine pw_seq ?_;obtain ⟨r1, h2, H⟩ := obnd_some H;refine pw_join (ρ := Bool) (fun e => ⟨[(0, (.string a0)), (13, (.bool e))], ⟨0, [], false⟩⟩) r1 ?_ ?_
  · refine R ?_;refine pbr_oite h2 (fun g5 h2 => ?_) (fun g5 h2 => ?_)
    · refine R ?_;cases h2;exact cr
    · refine R ?_;cases h2;exact cr
  · refine R ?_;refine pbr_oite H (fun g6 H => ?_) (fun g6 H => ?_)
    · refine R ?_;cases H;rfl
    · refine R ?_;obtain ⟨r7, h8, h9, h10⟩ := obndS_some H;refine pw_joinS (ρ := Unit) (fun e => ⟨[], ⟨0, [], false⟩⟩) r7 ?_ ?_
      · refine R ?_;refine pw_loop (τ := Int) (fun e => ⟨[(0, (.string a0)), (3, (iV e))], ⟨0, [], false⟩⟩) h8 ?_ (fun _ => nl rfl) ?_
        · exact sb
        · intro e11 x12 h13;refine pw_seq ?_;refine R ?_;refine pbr_oite h13 (fun g14 h13 => ?_) (fun g14 h13 => ?_)
          · (conv=>whnf);refine pw_skip ?_;(conv=>whnf);refine pw_seq ?_;refine pw_block ?_;refine pwa ?_;(conv=>whnf);refine pbr_ogrd h13 (fun g15 h13 => ?_);(conv=>whnf);refine get_o h13 (fun x16 _ h13 => ?_);(conv=>whnf);refine pw_so ?_;refine po_ops 3 ?_;(conv=>whnf);obtain ⟨r17, h18, h13⟩ := obnd_some h13;refine po_seg (τ := Bool) 3 (fun e => ⟨[(0, (.string a0)), (3, (iV e11)), (4, (.int .u8 (x16.toNat : Int))), (28, (.bool e))], ⟨0, [], false⟩⟩) r17 ?_ ?_
            · refine R ?_;refine pbr_oite h18 (fun g19 h18 => ?_) (fun g19 h18 => ?_)
              · refine R ?_;cases h18;exact cr
              · refine R ?_;cases h18;exact cr
            · refine po_ops 1 ?_;(conv=>whnf);obtain ⟨r20, h21, h13⟩ := obnd_some h13;refine po_seg (τ := Bool) 7 (fun e => ⟨[(0, (.string a0)), (3, (iV e11)), (4, (.int .u8 (x16.toNat : Int))), (36, (.bool e))], ⟨0, [], false⟩⟩) r20 ?_ ?_
              · refine R ?_;refine pbr_oite h21 (fun g22 h21 => ?_) (fun g22 h21 => ?_)
                · refine R ?_;cases h21;exact cr
                · refine R ?_;refine pbr_oite h21 (fun g23 h21 => ?_) (fun g23 h21 => ?_)
                  · refine R ?_;cases h21;exact cr
                  · refine R ?_;cases h21;exact cr
              · refine po_all ?_;(conv=>whnf);obtain ⟨r24, h25, h13⟩ := obnd_some h13;refine pw_join (ρ := Bool) (fun e => ⟨[(0, (.string a0)), (3, (iV e11)), (54, (.bool e))], ⟨0, [], false⟩⟩) r24 ?_ ?_
                · refine pw_ops ?_;refine po_ops 6 ?_;(conv=>whnf);refine pbr_oite h25 (fun g28 h25 => ?_) (fun g28 h25 => ?_)
                  · (conv=>whnf);refine pbr_t g28 ?_;(conv=>whnf);refine pbr_t g28 ?_;(conv=>whnf);obtain ⟨r29, h30, h25⟩ := obnd_some h25;refine po_seg (τ := Bool) 11 (fun e => ⟨[(0, (.string a0)), (3, (iV e11)), (39, (.bool (!r20))), (40, (iV e11)), (41, (.bool (ieq e11 (0 : Int)))), (42, (.bool (ieq e11 (0 : Int)))), (53, (.bool e))], ⟨0, [], false⟩⟩) r29 ?_ ?_
                    · refine R ?_;refine pbr_oite h30 (fun g31 h30 => ?_) (fun g31 h30 => ?_)
                      · refine R ?_;cases h30;exact cr
                      · refine R ?_;refine pbr_oite h30 (fun g32 h30 => ?_) (fun g32 h30 => ?_)
                        · refine R ?_;refine pbr_oite h30 (fun g33 h30 => ?_) (fun g33 h30 => ?_)
                          · refine R ?_;cases h30;exact cr
                          · refine R ?_;cases h30;exact cr
                        · refine R ?_;cases h30;exact cr
                    · refine R ?_;cases h25;exact cr
                  · (conv=>whnf);refine pbr_f g28 ?_;(conv=>whnf);refine pbr_f g28 ?_;(conv=>whnf);refine po_ops 11 ?_;(conv=>whnf);refine pbr_f g28 ?_;(conv=>whnf);refine po_all ?_;(conv=>whnf);refine pbr_f g28 ?_;(conv=>whnf);cases h25;exact ⟨(.cons rfl (.cons rfl (.cons rfl .nil))), rfl⟩
                · refine R ?_;refine pbr_oite h13 (fun g34 h13 => ?_) (fun g34 h13 => ?_)
                  · refine R ?_;cases h13;refine ⟨_, rfl, ?_⟩;rintro rfl;refine R ?_;obtain rfl := h10 _ rfl;rfl
                  · refine R ?_;cases h13;refine ⟨_, rfl, ?_⟩;exact sb
          · refine R ?_;cases h13;refine ⟨_, rfl, ?_⟩;rintro rfl;refine R ?_;exact ⟨_, rfl, cr⟩
      · intro r37 hr;have H := h9 _ hr;refine R ?_;cases H;rfl
noncomputable def f364 [LO]  (a0 : List ByteArray) (a1 : ByteArray) : Option Bool :=
 obndS (
 oloop (τ := Int) (ρ := (Unit) ⊕ Bool) (fun e5 =>
 oite ((ilt e5 ((a0.map eS).length : Int))) (
 ogrd ((ile 0 e5)) (
 obnd (a0[e5.toNat]?) fun (x10 : ByteArray) =>
 oite ((x10.toList == a1.toList)) (
 some (.inr (.inr (true)))
 ) (
 some (.inl (IntKind.i64.wrap (e5 + (1 : Int))))))
 ) (
 some (.inr (.inl ())))
 ) (0 : Int)
 ) fun (_ : Unit) =>
 some false
theorem c364 [LO]  {a0 : List ByteArray} {a1 : ByteArray} {x : Bool} (H : f364 a0 a1 = some x) : ICalls E 364 [(VS 1 (a0.map eS)), (.string a1)] AHeap.none fun v _ => v = (.bool x) := by
 refine icalls_fn (pfnw ?_);unfold f364 at H;refine R ?_;obtain ⟨r1, h2, h3, h4⟩ := obndS_some H;refine pw_joinS (ρ := Unit) (fun e => ⟨[], ⟨0, [], false⟩⟩) r1 ?_ ?_
 · refine R ?_;refine pw_loop (τ := Int) (fun e => ⟨[(0, (VS 1 (a0.map eS))), (1, (.string a1)), (5, (iV e))], ⟨0, [], false⟩⟩) h2 ?_ (fun _ => nl rfl) ?_
   · exact sb
   · intro e5 x6 h7;refine pw_seq ?_;refine R ?_;refine pbr_oite h7 (fun g8 h7 => ?_) (fun g8 h7 => ?_)
     · refine R ?_;refine pw_seq ?_;refine R ?_;refine pbr_ogrd h7 (fun g9 h7 => ?_);refine R ?_;refine nth_o (l := a0) h7 (fun x10 _ h7 => ?_);refine R ?_;refine pbr_oite h7 (fun g11 h7 => ?_) (fun g11 h7 => ?_)
       · refine R ?_;cases h7;refine ⟨_, rfl, ?_⟩;rintro rfl;refine R ?_;obtain rfl := h4 _ rfl;rfl
       · refine R ?_;cases h7;refine ⟨_, rfl, ?_⟩;exact sb
     · refine R ?_;cases h7;refine ⟨_, rfl, ?_⟩;rintro rfl;refine R ?_;exact ⟨_, rfl, cr⟩
 · intro r14 hr;have H := h3 _ hr;refine R ?_;cases H;rfl
noncomputable def f354 [LO]  (a0 : ByteArray) (a1 : Int) (a2 : Int) (a3 : Int) (a4 : List ByteArray) : Option Int :=
 obnd (f91 a0) fun (y1 : Bool) =>
 oite (!y1) (
 some (4 : Int)
 ) (
 obnd (f364 a4 a0) fun (y4 : Bool) =>
 oite y4 (
 some (5 : Int)
 ) (
 obnd (
 obnd (f15 a1 (-10000 : Int) (10000 : Int)) fun (y11 : Bool) =>
 obnd (
 oite (!y11) (
 some true
 ) (
 obnd (f15 a2 (-10000 : Int) (10000 : Int)) fun (y16 : Bool) =>
 some (!y16))
 ) fun (r13 : Bool) =>
 oite r13 (
 some true
 ) (
 obnd (f15 a3 (0 : Int) (10000 : Int)) fun (y19 : Bool) =>
 some (!y19))
 ) fun (r7 : Bool) =>
 oite r7 (
 some (2 : Int)
 ) (
 some (0 : Int))))
theorem c354 [LO]  {a0 : ByteArray} {a1 : Int} {a2 : Int} {a3 : Int} {a4 : List ByteArray} {x : Int} (H : f354 a0 a1 a2 a3 a4 = some x) : ICalls E 354 [(.agg ⟨[(.string a0), (iV a1), (iV a2), (iV a3)]⟩), (VS 1 (a4.map eS))] AHeap.none fun v _ => v = (iV x) := by
 refine icalls_fn (pfnw ?_);unfold f354 at H;refine R ?_;refine pw_seq ?_;refine R ?_;obtain ⟨y1, h2, H⟩ := obnd_some H;refine (c91 h2).go ?_;refine R ?_;refine pbr_oite H (fun g3 H => ?_) (fun g3 H => ?_)
 · refine R ?_;cases H;rfl
 · refine R ?_;refine pw_seq ?_;refine R ?_;obtain ⟨y4, h5, H⟩ := obnd_some H;refine (c364 h5).go ?_;refine R ?_;refine pbr_oite H (fun g6 H => ?_) (fun g6 H => ?_)
   · refine R ?_;cases H;rfl
   · refine R ?_;refine pw_seq ?_;obtain ⟨r7, h8, H⟩ := obnd_some H;refine pw_join (ρ := Bool) (fun e => ⟨[(28, (.bool e))], ⟨1, [(0, .rw [(.string a0), (iV a1), (iV a2), (iV a3)])], false⟩⟩) r7 ?_ ?_
     · refine pw_ops ?_;refine po_ops 5 ?_;(conv=>whnf);obtain ⟨y11, h12, h8⟩ := obnd_some h8;refine (c15 h12).go ?_;(conv=>whnf);obtain ⟨r13, h14, h8⟩ := obnd_some h8;refine po_seg (τ := Bool) 5 (fun e => ⟨[(2, (pV 0 0)), (22, (.bool e))], ⟨1, [(0, .rw [(.string a0), (iV a1), (iV a2), (iV a3)])], false⟩⟩) r13 ?_ ?_
       · refine R ?_;refine pbr_oite h14 (fun g15 h14 => ?_) (fun g15 h14 => ?_)
         · refine R ?_;cases h14;exact cr
         · refine R ?_;obtain ⟨y16, h17, h14⟩ := obnd_some h14;refine (c15 h17).go ?_;refine R ?_;cases h14;exact cr
       · refine R ?_;refine pbr_oite h8 (fun g18 h8 => ?_) (fun g18 h8 => ?_)
         · refine R ?_;cases h8;exact cr
         · refine R ?_;obtain ⟨y19, h20, h8⟩ := obnd_some h8;refine (c15 h20).go ?_;refine R ?_;cases h8;exact cr
     · refine R ?_;refine pbr_oite H (fun g21 H => ?_) (fun g21 H => ?_)
       · refine R ?_;cases H;rfl
       · refine R ?_;cases H;rfl
noncomputable def f325 [LO]  (a0 : Int) (a1 : Int) (a2 : List (ByteArray × Int × Int × Int)) : Option (Int × Int) :=
 obnd (
 obnd (f15 a0 (0 : Int) (1000000 : Int)) fun (y5 : Bool) =>
 oite (!y5) (
 some true
 ) (
 obnd (f15 a1 (0 : Int) (1000000 : Int)) fun (y8 : Bool) =>
 some (!y8))
 ) fun (r1 : Bool) =>
 oite r1 (
 some ((0 : Int), (2 : Int))
 ) (
 oite ((ilt a1 a0)) (
 some ((0 : Int), (9 : Int))
 ) (
 oite ((ile (40 : Int) (IntKind.i64.wrap (a1 - a0)))) (
 some ((0 : Int), (8 : Int))
 ) (
 oite ((ieq ((a2.map e_SIII).length : Int) (0 : Int))) (
 some ((0 : Int), (10 : Int))
 ) (
 oite ((ilt (5 : Int) ((a2.map e_SIII).length : Int))) (
 some ((0 : Int), (8 : Int))
 ) (
 obndS (
 oloop (τ := (List ByteArray) × Int) (ρ := (Unit) ⊕ (Int × Int)) (fun e19 =>
 oite ((ilt e19.2 ((a2.map e_SIII).length : Int))) (
 ogrd ((ile 0 e19.2)) (
 obnd (a2[e19.2.toNat]?) fun (x24 : ByteArray × Int × Int × Int) =>
 obnd (f354 x24.1 x24.2.1 x24.2.2.1 x24.2.2.2 e19.1) fun (y25 : Int) =>
 oite ((!(ieq y25 (0 : Int)))) (
 some (.inr (.inr ((e19.2, y25))))
 ) (
 obnd (a2[e19.2.toNat]?) fun (x29 : ByteArray × Int × Int × Int) =>
 ogrd (fits 16 (e19.1.length + ([x29.1] : List ByteArray).length)) (
 some (.inl (((e19.1 ++ ([x29.1] : List ByteArray)), (IntKind.i64.wrap (e19.2 + (1 : Int)))))))))
 ) (
 some (.inr (.inl ())))
 ) ((([] : List ByteArray), (0 : Int)))
 ) fun (_ : Unit) =>
 some ((0 : Int), (0 : Int)))))))
theorem c325 [LO]  {a0 : Int} {a1 : Int} {a2 : List (ByteArray × Int × Int × Int)} {x : Int × Int} (H : f325 a0 a1 a2 = some x) : ICalls E 325 [(.agg ⟨[(iV a0), (iV a1), (VS 4 (a2.map e_SIII))]⟩)] AHeap.none fun v _ => v = (.tuple ⟨[(iV x.1), (iV x.2)]⟩) := by
 refine icalls_fn (pfnw ?_);unfold f325 at H;refine R ?_;refine pw_seq ?_;obtain ⟨r1, h2, H⟩ := obnd_some H;refine pw_join (ρ := Bool) (fun e => ⟨[(1, (pV 0 0)), (16, (.bool e))], ⟨1, [(0, .rw [(iV a0), (iV a1), (VS 4 (a2.map e_SIII))])], false⟩⟩) r1 ?_ ?_
 · refine R ?_;obtain ⟨y5, h6, h2⟩ := obnd_some h2;refine (c15 h6).go ?_;refine R ?_;refine pbr_oite h2 (fun g7 h2 => ?_) (fun g7 h2 => ?_)
   · refine R ?_;cases h2;exact cr
   · refine R ?_;obtain ⟨y8, h9, h2⟩ := obnd_some h2;refine (c15 h9).go ?_;refine R ?_;cases h2;exact cr
 · refine R ?_;refine pbr_oite H (fun g10 H => ?_) (fun g10 H => ?_)
   · refine R ?_;cases H;rfl
   · refine R ?_;refine pw_seq ?_;refine R ?_;refine pbr_oite H (fun g11 H => ?_) (fun g11 H => ?_)
     · refine R ?_;cases H;rfl
     · refine R ?_;refine pw_seq ?_;refine R ?_;refine pbr_oite H (fun g12 H => ?_) (fun g12 H => ?_)
       · refine R ?_;cases H;rfl
       · refine R ?_;refine pw_seq ?_;refine R ?_;refine pbr_oite H (fun g13 H => ?_) (fun g13 H => ?_)
         · refine R ?_;cases H;rfl
         · refine R ?_;refine pw_seq ?_;refine R ?_;refine pbr_oite H (fun g14 H => ?_) (fun g14 H => ?_)
           · refine R ?_;cases H;rfl
           · refine R ?_;obtain ⟨r15, h16, h17, h18⟩ := obndS_some H;refine pw_joinSR (ρ := Unit) (fun e => ⟨[], ⟨1, [(0, .rw [(iV a0), (iV a1), (VS 4 (a2.map e_SIII))])], false⟩⟩) r15 ?_ ?_
             · refine R ?_;refine pw_loop (τ := (List ByteArray) × Int) (fun e => ⟨[(1, (pV 0 0)), (4, (VT 1 (e.1.map eS) 1)), (5, (iV e.2))], ⟨2, [(1, .tail (e.1.map eS).length 1), (0, .rw [(iV a0), (iV a1), (VS 4 (a2.map e_SIII))])], false⟩⟩) h16 ?_ (fun _ => nl rfl) ?_
               · exact (Recast.nilTs 1 (nl rfl) (.same rfl (.turn rfl (.same rfl .nil))))
               · intro e19 x20 h21;refine pw_seq ?_;refine R ?_;refine pbr_oite h21 (fun g22 h21 => ?_) (fun g22 h21 => ?_)
                 · refine R ?_;refine pw_seq ?_;refine R ?_;refine pw_seq ?_;refine R ?_;refine pbr_ogrd h21 (fun g23 h21 => ?_);refine R ?_;refine nth_o (l := a2) h21 (fun x24 _ h21 => ?_);refine R ?_;obtain ⟨y25, h26, h21⟩ := obnd_some h21;refine ICalls.goW (c354 h26) (.cons (.refl _) (.cons (.vt _ _ _) .nil)) ?_;refine R ?_;refine pbr_oite h21 (fun g27 h21 => ?_) (fun g27 h21 => ?_)
                   · refine R ?_;cases h21;refine ⟨_, rfl, ?_⟩;rintro rfl;refine R ?_;obtain rfl := h18 _ rfl;rfl
                   · refine R ?_;refine nth_o (l := a2) h21 (fun x29 _ h21 => ?_);refine R ?_;refine app_o (l := e19.1) (m := ([x29.1] : List ByteArray)) (f := eS) h21 (by rfl) (by rfl) (by rfl) (fun h21 => ?_);refine R ?_;cases h21;refine ⟨_, rfl, ?_⟩;refine Recast.trunc (nl rfl) ?_ ?_
                     · repeat (first | exact .nil | refine .cons rfl (by first | exact OBnd.rwc (nl rfl) rfl | exact OBnd.tail (nl rfl) | trivial) ?_)
                     · repeat (first | exact .nil | refine .cons rfl (by first | exact Bnd.ptr (nl rfl) | exact Bnd.vt (nl rfl) | exact Bnd.cl) ?_)
                 · refine R ?_;cases h21;refine ⟨_, rfl, ?_⟩;rintro rfl;refine R ?_;refine ⟨_, rfl, ?_⟩;exact rfz
             · intro r31 hr;have H := h17 _ hr;refine R ?_;cases H;rfl
noncomputable def f347 [LO]  (a0 : Int) (a1 : Int) (a2 : List (ByteArray × Int × Int × Int)) : Option Int :=
 obnd (f325 a0 a1 a2) fun (y1 : Int × Int) =>
 some y1.2
theorem c347 [LO]  {a0 : Int} {a1 : Int} {a2 : List (ByteArray × Int × Int × Int)} {x : Int} (H : f347 a0 a1 a2 = some x) : ICalls E 347 [(.agg ⟨[(iV a0), (iV a1), (VS 4 (a2.map e_SIII))]⟩)] AHeap.none fun v _ => v = (iV x) := by
 refine icalls_fn (pfnw ?_);unfold f347 at H;refine R ?_;obtain ⟨y1, h2, H⟩ := obnd_some H;refine (c325 h2).go ?_;refine R ?_;cases H;rfl
noncomputable def f355  (a0 : Int) : Option Bool :=
 obnd (f15 a0 (-10000 : Int) (10000 : Int)) fun (y1 : Bool) =>
 some y1
theorem c355  {a0 : Int} {x : Bool} (H : f355 a0 = some x) : ICalls E 355 [(iV a0)] AHeap.none fun v _ => v = (.bool x) := by
 refine icalls_fn (pfnw ?_);unfold f355 at H;refine R ?_;obtain ⟨y1, h2, H⟩ := obnd_some H;refine (c15 h2).go ?_;refine R ?_;cases H;rfl
noncomputable def f326 [LO]  (a0 : Int) (a1 : Int) (a2 : List (ByteArray × Int × Int × Int)) (a3 : Int) (a4 : Int) (a5 : Int) (a6 : List (Int × Int × Int)) : Option (Int × Int) :=
 obnd (f347 a0 a1 a2) fun (y1 : Int) =>
 oite ((!(ieq y1 (0 : Int)))) (
 some ((0 : Int), y1)
 ) (
 obnd (f15 a3 a0 a1) fun (y4 : Bool) =>
 oite (!y4) (
 some ((0 : Int), (2 : Int))
 ) (
 obnd (f15 a4 (0 : Int) ((IntKind.i64.wrap (((a2.map e_SIII).length : Int) - (1 : Int))))) fun (y7 : Bool) =>
 oite (!y7) (
 some ((0 : Int), (6 : Int))
 ) (
 obnd (f355 a5) fun (y10 : Bool) =>
 oite (!y10) (
 some ((0 : Int), (2 : Int))
 ) (
 oite ((ieq ((a6.map e_III).length : Int) (0 : Int))) (
 some ((0 : Int), (10 : Int))
 ) (
 oite ((ilt (10 : Int) ((a6.map e_III).length : Int))) (
 some ((0 : Int), (8 : Int))
 ) (
 obndS (
 oloop (τ := Int) (ρ := (Unit) ⊕ (Int × Int)) (fun e19 =>
 oite ((ilt e19 ((a6.map e_III).length : Int))) (
 ogrd ((ile 0 e19)) (
 obnd (a6[e19.toNat]?) fun (x24 : Int × Int × Int) =>
 obnd (
 obnd (f355 x24.1) fun (y29 : Bool) =>
 obnd (
 oite (!y29) (
 some true
 ) (
 obnd (f355 x24.2.1) fun (y34 : Bool) =>
 some (!y34))
 ) fun (r31 : Bool) =>
 oite r31 (
 some true
 ) (
 obnd (f355 x24.2.2) fun (y37 : Bool) =>
 some (!y37))
 ) fun (r25 : Bool) =>
 oite r25 (
 some (.inr (.inr ((e19, (2 : Int)))))
 ) (
 oite ((ilt x24.1 x24.2.1)) (
 some (.inr (.inr ((e19, (9 : Int)))))
 ) (
 some (.inl (IntKind.i64.wrap (e19 + (1 : Int)))))))
 ) (
 some (.inr (.inl ())))
 ) (0 : Int)
 ) fun (_ : Unit) =>
 some ((0 : Int), (0 : Int))))))))
theorem c326 [LO]  {a0 : Int} {a1 : Int} {a2 : List (ByteArray × Int × Int × Int)} {a3 : Int} {a4 : Int} {a5 : Int} {a6 : List (Int × Int × Int)} {x : Int × Int} (H : f326 a0 a1 a2 a3 a4 a5 a6 = some x) : ICalls E 326 [(.agg ⟨[(iV a0), (iV a1), (VS 4 (a2.map e_SIII))]⟩), (.agg ⟨[(iV a3), (iV a4), (iV a5), (VS 3 (a6.map e_III))]⟩)] AHeap.none fun v _ => v = (.tuple ⟨[(iV x.1), (iV x.2)]⟩) := by
 refine icalls_fn (pfnw ?_);unfold f326 at H;refine R ?_;refine pw_seq ?_;refine R ?_;obtain ⟨y1, h2, H⟩ := obnd_some H;refine (c347 h2).go ?_;refine R ?_;refine pbr_oite H (fun g3 H => ?_) (fun g3 H => ?_)
 · refine R ?_;cases H;rfl
 · refine R ?_;refine pw_seq ?_;refine R ?_;obtain ⟨y4, h5, H⟩ := obnd_some H;refine (c15 h5).go ?_;refine R ?_;refine pbr_oite H (fun g6 H => ?_) (fun g6 H => ?_)
   · refine R ?_;cases H;rfl
   · refine R ?_;refine pw_seq ?_;refine R ?_;obtain ⟨y7, h8, H⟩ := obnd_some H;refine (c15 h8).go ?_;refine R ?_;refine pbr_oite H (fun g9 H => ?_) (fun g9 H => ?_)
     · refine R ?_;cases H;rfl
     · refine R ?_;refine pw_seq ?_;refine R ?_;obtain ⟨y10, h11, H⟩ := obnd_some H;refine (c355 h11).go ?_;refine R ?_;refine pbr_oite H (fun g12 H => ?_) (fun g12 H => ?_)
       · refine R ?_;cases H;rfl
       · refine R ?_;refine pw_seq ?_;refine R ?_;refine pbr_oite H (fun g13 H => ?_) (fun g13 H => ?_)
         · refine R ?_;cases H;rfl
         · refine R ?_;refine pw_seq ?_;refine R ?_;refine pbr_oite H (fun g14 H => ?_) (fun g14 H => ?_)
           · refine R ?_;cases H;rfl
           · refine R ?_;obtain ⟨r15, h16, h17, h18⟩ := obndS_some H;refine pw_joinS (ρ := Unit) (fun e => ⟨[], ⟨2, [(1, .rw [(iV a3), (iV a4), (iV a5), (VS 3 (a6.map e_III))]), (0, .rw [(iV a0), (iV a1), (VS 4 (a2.map e_SIII))])], false⟩⟩) r15 ?_ ?_
             · refine R ?_;refine pw_loop (τ := Int) (fun e => ⟨[(3, (pV 1 0)), (7, (iV e))], ⟨2, [(1, .rw [(iV a3), (iV a4), (iV a5), (VS 3 (a6.map e_III))]), (0, .rw [(iV a0), (iV a1), (VS 4 (a2.map e_SIII))])], false⟩⟩) h16 ?_ (fun _ => nl rfl) ?_
               · exact sb
               · intro e19 x20 h21;refine pw_seq ?_;refine R ?_;refine pbr_oite h21 (fun g22 h21 => ?_) (fun g22 h21 => ?_)
                 · refine R ?_;refine pw_seq ?_;refine R ?_;refine pbr_ogrd h21 (fun g23 h21 => ?_);refine R ?_;refine nth_o (l := a6) h21 (fun x24 _ h21 => ?_);refine R ?_;refine pw_seq ?_;obtain ⟨r25, h26, h21⟩ := obnd_some h21;refine pw_join (ρ := Bool) (fun e => ⟨[(3, (pV 1 0)), (7, (iV e19)), (8, (pV 2 0)), (69, (.bool e))], ⟨3, [(2, .rw [(iV x24.1), (iV x24.2.1), (iV x24.2.2)]), (1, .rw [(iV a3), (iV a4), (iV a5), (VS 3 (a6.map e_III))]), (0, .rw [(iV a0), (iV a1), (VS 4 (a2.map e_SIII))])], false⟩⟩) r25 ?_ ?_
                   · refine pw_ops ?_;refine po_ops 5 ?_;(conv=>whnf);obtain ⟨y29, h30, h26⟩ := obnd_some h26;refine (c355 h30).go ?_;(conv=>whnf);obtain ⟨r31, h32, h26⟩ := obnd_some h26;refine po_seg (τ := Bool) 5 (fun e => ⟨[(3, (pV 1 0)), (7, (iV e19)), (8, (pV 2 0)), (63, (.bool e))], ⟨3, [(2, .rw [(iV x24.1), (iV x24.2.1), (iV x24.2.2)]), (1, .rw [(iV a3), (iV a4), (iV a5), (VS 3 (a6.map e_III))]), (0, .rw [(iV a0), (iV a1), (VS 4 (a2.map e_SIII))])], false⟩⟩) r31 ?_ ?_
                     · refine R ?_;refine pbr_oite h32 (fun g33 h32 => ?_) (fun g33 h32 => ?_)
                       · refine R ?_;cases h32;exact cr
                       · refine R ?_;obtain ⟨y34, h35, h32⟩ := obnd_some h32;refine (c355 h35).go ?_;refine R ?_;cases h32;exact cr
                     · refine R ?_;refine pbr_oite h26 (fun g36 h26 => ?_) (fun g36 h26 => ?_)
                       · refine R ?_;cases h26;exact cr
                       · refine R ?_;obtain ⟨y37, h38, h26⟩ := obnd_some h26;refine (c355 h38).go ?_;refine R ?_;cases h26;exact cr
                   · refine R ?_;refine pbr_oite h21 (fun g39 h21 => ?_) (fun g39 h21 => ?_)
                     · refine R ?_;cases h21;refine ⟨_, rfl, ?_⟩;rintro rfl;refine R ?_;obtain rfl := h18 _ rfl;rfl
                     · refine R ?_;refine pbr_oite h21 (fun g41 h21 => ?_) (fun g41 h21 => ?_)
                       · refine R ?_;cases h21;refine ⟨_, rfl, ?_⟩;rintro rfl;refine R ?_;obtain rfl := h18 _ rfl;rfl
                       · refine R ?_;cases h21;refine ⟨_, rfl, ?_⟩;refine Recast.trunc (nl rfl) ?_ ?_
                         · repeat (first | exact .nil | refine .cons rfl (by first | exact OBnd.rwc (nl rfl) rfl | exact OBnd.tail (nl rfl) | trivial) ?_)
                         · repeat (first | exact .nil | refine .cons rfl (by first | exact Bnd.ptr (nl rfl) | exact Bnd.vt (nl rfl) | exact Bnd.cl) ?_)
                 · refine R ?_;cases h21;refine ⟨_, rfl, ?_⟩;rintro rfl;refine R ?_;exact ⟨_, rfl, cr⟩
             · intro r44 hr;have H := h17 _ hr;refine R ?_;cases H;rfl
noncomputable def f311 [LO]  (a0 : Int) (a1 : Int) (a2 : List (ByteArray × Int × Int × Int)) (a3 : Int) (a4 : Int) (a5 : Int) (a6 : List (Int × Int × Int)) : Option Int :=
 obnd (f326 a0 a1 a2 a3 a4 a5 a6) fun (y1 : Int × Int) =>
 some y1.2
theorem c311 [LO]  {a0 : Int} {a1 : Int} {a2 : List (ByteArray × Int × Int × Int)} {a3 : Int} {a4 : Int} {a5 : Int} {a6 : List (Int × Int × Int)} {x : Int} (H : f311 a0 a1 a2 a3 a4 a5 a6 = some x) : ICalls E 311 [(.agg ⟨[(iV a0), (iV a1), (VS 4 (a2.map e_SIII))]⟩), (.agg ⟨[(iV a3), (iV a4), (iV a5), (VS 3 (a6.map e_III))]⟩)] AHeap.none fun v _ => v = (iV x) := by
 refine icalls_fn (pfnw ?_);unfold f311 at H;refine R ?_;obtain ⟨y1, h2, H⟩ := obnd_some H;refine (c326 h2).go ?_;refine R ?_;cases H;rfl
end Go.Proofs.YtolapannkcdeeaaGreat.AM
