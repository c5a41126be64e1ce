/- Computations of functions, and that the functions do them (printed by tools/lift.py). Conditions: none. -/
import Derived.Test.YtgfglinlmnbjbaaGreatAmRun
import Derived.Test.YtgfglinlmnbjbaaGreatAmLf0
namespace Go.Proofs.YtgfglinlmnbjbaaGreat.AM
set_option linter.unusedSimpArgs false
set_option linter.unusedVariables false
set_option maxHeartbeats 1000000
open Go Go.RowKit
attribute [local irreducible] ICallV ICalls Recast rng
noncomputable def f272 [LO]  (a0 : List ((List (Int × (List Int) × Int × (List Int))))) : Option ((List (Int × (List Int) × Int × (List Int))) × Bool) :=
 obnd (mtxW a0) fun (w1 : Nat) =>
 obndS (
 ogrd (Nat.ble a0.length 1000) (
 ogrd (prmB (List.range a0.length)) (
 oloop (τ := Int × (List (List (Int × (List Int) × Int × (List Int)))) × (List Nat)) (ρ := ((List (List (Int × (List Int) × Int × (List Int)))) × (List Nat)) ⊕ ((List (Int × (List Int) × Int × (List Int))) × Bool)) (fun e9 =>
 oite ((ilt e9.1 ((a0.map e_L4IL1IIL1Ie).length : Int))) (
 obndS (
 obnd (
 ogrd (Nat.ble e9.2.1.length 1000) (
 ogrd (prmB e9.2.2) (
 oloop (τ := Int) (ρ := Int) (fun e23 =>
 oite ((ilt e23 ((a0.map e_L4IL1IIL1Ie).length : Int))) (
 ogrd ((ile 0 e23)) (
 ogrd ((ilt e23 (a0.length : Int))) (
 obnd (e9.2.2[e23.toNat]?) fun (x29 : Nat) =>
 ogrd ((ile 0 e9.1)) (
 ogrd ((ilt e9.1 (w1 : Int))) (
 obnd (e9.2.1[x29]?) fun (r35 : List (Int × (List Int) × Int × (List Int))) =>
 obnd (r35[e9.1.toNat]?) fun (x34 : Int × (List Int) × Int × (List Int)) =>
 obnd (f282 x34.1 x34.2.1 x34.2.2.1 x34.2.2.2) fun (y38 : Int) =>
 oite ((ieq y38 (0 : Int))) (
 some (.inl (IntKind.i64.wrap (e23 + (1 : Int))))
 ) (
 some (.inr (e23)))))))
 ) (
 some (.inr (e23)))
 ) e9.1))
 ) fun (r17 : Int) =>
 oite ((ieq r17 ((a0.map e_L4IL1IIL1Ie).length : Int))) (
 some (.inr (.inr (.inr ((([] : List (Int × (List Int) × Int × (List Int))), false)))))
 ) (
 ogrd ((ile 0 r17)) (
 ogrd ((ilt r17 (a0.length : Int))) (
 obnd (e9.2.2[r17.toNat]?) fun (x47 : Nat) =>
 ogrd ((ile 0 e9.1)) (
 ogrd ((ilt e9.1 (a0.length : Int))) (
 obnd (e9.2.2[e9.1.toNat]?) fun (x52 : Nat) =>
 ogrd (Nat.blt e9.1.toNat e9.2.2.length) (
 ogrd (Nat.blt r17.toNat (e9.2.2.set e9.1.toNat x47).length) (
 ogrd (Nat.ble e9.2.1.length 1000) (
 ogrd (prmB ((e9.2.2.set e9.1.toNat x47).set r17.toNat x52)) (
 oloop (τ := Int × (List (List (Int × (List Int) × Int × (List Int))))) (ρ := ((List (List (Int × (List Int) × Int × (List Int)))) × (List Nat)) ⊕ ((Int × (List (List (Int × (List Int) × Int × (List Int)))) × (List Nat)) ⊕ (((List (List (Int × (List Int) × Int × (List Int)))) × (List Nat)) ⊕ ((List (Int × (List Int) × Int × (List Int))) × Bool)))) (fun e59 =>
 oite ((ilt e59.1 ((a0.map e_L4IL1IIL1Ie).length : Int))) (
 obnd (
 oite ((ieq e59.1 e9.1)) (
 ogrd (Nat.ble e59.2.length 1000) (
 some e59.2)
 ) (
 ogrd ((ile 0 e59.1)) (
 ogrd ((ilt e59.1 (a0.length : Int))) (
 obnd (((e9.2.2.set e9.1.toNat x47).set r17.toNat x52)[e59.1.toNat]?) fun (x71 : Nat) =>
 ogrd ((ilt e9.1 (w1 : Int))) (
 ogrd (Nat.ble e59.2.length 1000) (
 obnd (e59.2[x71]?) fun (r77 : List (Int × (List Int) × Int × (List Int))) =>
 obnd (r77[e9.1.toNat]?) fun (x76 : Int × (List Int) × Int × (List Int)) =>
 obnd (f282 x76.1 x76.2.1 x76.2.2.1 x76.2.2.2) fun (y80 : Int) =>
 oite ((ieq y80 (0 : Int))) (
 some e59.2
 ) (
 obnd (
 obnd (((e9.2.2.set e9.1.toNat x47).set r17.toNat x52)[e59.1.toNat]?) fun (x87 : Nat) =>
 obnd (e59.2[x87]?) fun (r91 : List (Int × (List Int) × Int × (List Int))) =>
 obnd (r91[e9.1.toNat]?) fun (x90 : Int × (List Int) × Int × (List Int)) =>
 obnd (((e9.2.2.set e9.1.toNat x47).set r17.toNat x52)[e9.1.toNat]?) fun (x94 : Nat) =>
 obnd (e59.2[x94]?) fun (r98 : List (Int × (List Int) × Int × (List Int))) =>
 obnd (r98[e9.1.toNat]?) fun (x97 : Int × (List Int) × Int × (List Int)) =>
 obnd (f283 x90.1 x90.2.1 x90.2.2.1 x90.2.2.2 x97.1 x97.2.1 x97.2.2.1 x97.2.2.2) fun (y101 : Int × (List Int) × Int × (List Int)) =>
 some (y101.1, y101.2.1, y101.2.2.1, y101.2.2.2)
 ) fun (r83 : Int × (List Int) × Int × (List Int)) =>
 oloop (τ := Int × (List (List (Int × (List Int) × Int × (List Int))))) (ρ := (List (List (Int × (List Int) × Int × (List Int))))) (fun e103 =>
 oite ((ile e103.1 ((a0.map e_L4IL1IIL1Ie).length : Int))) (
 obnd (((e9.2.2.set e9.1.toNat x47).set r17.toNat x52)[e59.1.toNat]?) fun (x107 : Nat) =>
 obnd (((e9.2.2.set e9.1.toNat x47).set r17.toNat x52)[e59.1.toNat]?) fun (x110 : Nat) =>
 ogrd ((ile 0 e103.1)) (
 ogrd ((ilt e103.1 (w1 : Int))) (
 ogrd (Nat.ble e103.2.length 1000) (
 obnd (e103.2[x110]?) fun (r117 : List (Int × (List Int) × Int × (List Int))) =>
 obnd (r117[e103.1.toNat]?) fun (x116 : Int × (List Int) × Int × (List Int)) =>
 obnd (((e9.2.2.set e9.1.toNat x47).set r17.toNat x52)[e9.1.toNat]?) fun (x120 : Nat) =>
 obnd (e103.2[x120]?) fun (r124 : List (Int × (List Int) × Int × (List Int))) =>
 obnd (r124[e103.1.toNat]?) fun (x123 : Int × (List Int) × Int × (List Int)) =>
 obnd (f277 r83.1 r83.2.1 r83.2.2.1 r83.2.2.2 x123.1 x123.2.1 x123.2.2.1 x123.2.2.2) fun (y127 : Int × (List Int) × Int × (List Int)) =>
 obnd (f284 x116.1 x116.2.1 x116.2.2.1 x116.2.2.2 y127.1 y127.2.1 y127.2.2.1 y127.2.2.2) fun (y129 : Int × (List Int) × Int × (List Int)) =>
 obnd (e103.2[x107]?) fun (r131 : List (Int × (List Int) × Int × (List Int))) =>
 ogrd (Nat.blt e103.1.toNat r131.length) (
 some (.inl (((IntKind.i64.wrap (e103.1 + (1 : Int))), (e103.2.set x107 (r131.set e103.1.toNat (y129.1, y129.2.1, y129.2.2.1, y129.2.2.2))))))))))
 ) (
 oinr (
 ogrd (Nat.ble e103.2.length 1000) (
 some e103.2)))
 ) (e9.1, e59.2)))))))
 ) fun (r63 : (List (List (Int × (List Int) × Int × (List Int))))) =>
 ogrd (Nat.ble r63.length 1000) (
 some (.inl ((IntKind.i64.wrap (e59.1 + (1 : Int))), r63)))
 ) (
 oinr (
 ogrd (Nat.ble e59.2.length 1000) (
 some (.inl (e59.2, ((e9.2.2.set e9.1.toNat x47).set r17.toNat x52))))))
 ) ((0 : Int), e9.2.1))))))))))
 ) fun (r141 : (List (List (Int × (List Int) × Int × (List Int)))) × (List Nat)) =>
 ogrd (Nat.ble r141.1.length 1000) (
 ogrd (prmB r141.2) (
 some (.inl ((IntKind.i64.wrap (e9.1 + (1 : Int))), r141.1, r141.2))))
 ) (
 oinr (
 ogrd (Nat.ble e9.2.1.length 1000) (
 ogrd (prmB e9.2.2) (
 some (.inl (e9.2.1, e9.2.2))))))
 ) (((0 : Int), a0, (List.range a0.length)))))
 ) fun (r148 : (List (List (Int × (List Int) × Int × (List Int)))) × (List Nat)) =>
 obnd (
 ogrd (Nat.ble r148.1.length 1000) (
 ogrd (prmB r148.2) (
 oloop (τ := (List (Int × (List Int) × Int × (List Int))) × Int) (ρ := (List (Int × (List Int) × Int × (List Int)))) (fun e155 =>
 oite ((ilt e155.2 ((a0.map e_L4IL1IIL1Ie).length : Int))) (
 ogrd ((ile 0 e155.2)) (
 ogrd ((ilt e155.2 (a0.length : Int))) (
 obnd (r148.2[e155.2.toNat]?) fun (x161 : Nat) =>
 ogrd ((ilt ((a0.map e_L4IL1IIL1Ie).length : Int) (w1 : Int))) (
 obnd (r148.1[x161]?) fun (r166 : List (Int × (List Int) × Int × (List Int))) =>
 obnd (r166[((a0.map e_L4IL1IIL1Ie).length : Int).toNat]?) fun (x165 : Int × (List Int) × Int × (List Int)) =>
 obnd (r148.2[e155.2.toNat]?) fun (x169 : Nat) =>
 ogrd ((ilt e155.2 (w1 : Int))) (
 obnd (r148.1[x169]?) fun (r174 : List (Int × (List Int) × Int × (List Int))) =>
 obnd (r174[e155.2.toNat]?) fun (x173 : Int × (List Int) × Int × (List Int)) =>
 obnd (f283 x165.1 x165.2.1 x165.2.2.1 x165.2.2.2 x173.1 x173.2.1 x173.2.2.1 x173.2.2.2) fun (y177 : Int × (List Int) × Int × (List Int)) =>
 ogrd (fits 64 (e155.1.length + ([(y177.1, y177.2.1, y177.2.2.1, y177.2.2.2)] : List (Int × (List Int) × Int × (List Int))).length)) (
 some (.inl (((e155.1 ++ ([(y177.1, y177.2.1, y177.2.2.1, y177.2.2.2)] : List (Int × (List Int) × Int × (List Int)))), (IntKind.i64.wrap (e155.2 + (1 : Int)))))))))))
 ) (
 some (.inr (e155.1)))
 ) ((([] : List (Int × (List Int) × Int × (List Int))), (0 : Int)))))
 ) fun (r149 : (List (Int × (List Int) × Int × (List Int)))) =>
 some (r149, true)
theorem c272 [LO]  {a0 : List ((List (Int × (List Int) × Int × (List Int))))} {x : (List (Int × (List Int) × Int × (List Int))) × Bool} (H : f272 a0 = some x) : ICalls E 272 [(VS 1 (a0.map e_L4IL1IIL1Ie))] AHeap.none fun v _ => v = (.tuple ⟨[(VS 4 (x.1.map e_IL1IIL1I)), (.bool x.2)]⟩) := by
  refine ICalls.frz ?_;refine ICalls.modeT ?_;refine icalls_fn (pfnw ?_);unfold f272 at H;refine R ?_;obtain ⟨w1, h2, H⟩ := obnd_some H;refine mtx_init h2 ?_ ?_ ?_ ?_
  · rfl
  · rfl
  · rfl
  refine R ?_;obtain ⟨r3, h4, h5, h6⟩ := obndS_some H;refine pw_joinS (ρ := (List (List (Int × (List Int) × Int × (List Int)))) × (List Nat)) (fun e => ⟨[(4, (iV ((a0.map e_L4IL1IIL1Ie).length : Int))), (5, (.slice (some ⟨0, 0, none⟩) a0.length 2))], ⟨5000, ([(0, .rw (e.2.map (rsl w1 4)))] ++ famS e_IL1IIL1I 0 e.1), false⟩⟩) r3 ?_ ?_
  · refine R ?_;obtain ⟨g7, h4⟩ := ogrd_some h4;obtain ⟨g8, h4⟩ := ogrd_some h4;refine pw_loop (τ := Int × (List (List (Int × (List Int) × Int × (List Int)))) × (List Nat)) (fun e => ⟨[(4, (iV ((a0.map e_L4IL1IIL1Ie).length : Int))), (5, (.slice (some ⟨0, 0, none⟩) a0.length 2)), (7, (iV e.1))], ⟨5000, ([(0, .rw (e.2.2.map (rsl w1 4)))] ++ famS e_IL1IIL1I 0 e.2.1), false⟩⟩) h4 ?_ (fun _ => nl rfl) ?_
    · exact sb
    · intro e9 x10 h11;refine pw_seq ?_;refine R ?_;refine pbr_oite h11 (fun g12 h11 => ?_) (fun g12 h11 => ?_)
      · refine R ?_;obtain ⟨r13, h14, h15, h16⟩ := obndS_some h11;refine pw_joinS (ρ := (List (List (Int × (List Int) × Int × (List Int)))) × (List Nat)) (fun e => ⟨[(4, (iV ((a0.map e_L4IL1IIL1Ie).length : Int))), (5, (.slice (some ⟨0, 0, none⟩) a0.length 2)), (7, (iV e9.1))], ⟨5000, ([(0, .rw (e.2.map (rsl w1 4)))] ++ famS e_IL1IIL1I 0 e.1), false⟩⟩) r13 ?_ ?_
        · refine R ?_;obtain ⟨r17, h18, h14⟩ := obnd_some h14;refine pw_join (ρ := Int) (fun e => ⟨[(4, (iV ((a0.map e_L4IL1IIL1Ie).length : Int))), (5, (.slice (some ⟨0, 0, none⟩) a0.length 2)), (7, (iV e9.1)), (8, (iV e))], ⟨5000, ([(0, .rw (e9.2.2.map (rsl w1 4)))] ++ famS e_IL1IIL1I 0 e9.2.1), false⟩⟩) r17 ?_ ?_
          · refine R ?_;obtain ⟨g21, h18⟩ := ogrd_some h18;obtain ⟨g22, h18⟩ := ogrd_some h18;refine pw_loop (τ := Int) (fun e => ⟨[(4, (iV ((a0.map e_L4IL1IIL1Ie).length : Int))), (5, (.slice (some ⟨0, 0, none⟩) a0.length 2)), (7, (iV e9.1)), (8, (iV e))], ⟨5000, ([(0, .rw (e9.2.2.map (rsl w1 4)))] ++ famS e_IL1IIL1I 0 e9.2.1), false⟩⟩) h18 ?_ (fun _ => nl rfl) ?_
            · exact sb
            · intro e23 x24 h25;refine pw_seq ?_;refine R ?_;refine pbr_oite h25 (fun g26 h25 => ?_) (fun g26 h25 => ?_)
              · refine R ?_;refine pbr_ogrd h25 (fun g27 h25 => ?_);refine R ?_;refine pbr_ogrd h25 (fun g28 h25 => ?_);refine R ?_;refine nth_a (l := e9.2.2) (f := (rsl w1 4)) h25 (fun x29 h30 h25 => ?_);refine R ?_;refine pbr_ogrd h25 (fun g32 h25 => ?_);refine R ?_;refine pbr_ogrd h25 (fun g33 h25 => ?_);refine R ?_;refine ldF (f := e_IL1IIL1I) h25 (fun r hr => ((mlook rfl (lt1000 hr g21)).trans (famS_at0 hr))) (fun r35 x34 h36 h37 h25 => ?_)
                refine R ?_;obtain ⟨y38, h39, h25⟩ := obnd_some h25;refine (c282 h39).go ?_;refine R ?_;refine pbr_oite h25 (fun g40 h25 => ?_) (fun g40 h25 => ?_)
                · refine R ?_;cases h25;refine ⟨_, rfl, ?_⟩;exact sb
                · refine R ?_;cases h25;refine ⟨_, rfl, ?_⟩;rintro rfl;refine R ?_;exact cr
              · refine R ?_;cases h25;refine ⟨_, rfl, ?_⟩;rintro rfl;refine R ?_;exact cr
          · refine pw_seq ?_;refine R ?_;refine pbr_oite h14 (fun g43 h14 => ?_) (fun g43 h14 => ?_)
            · refine R ?_;cases h14;obtain rfl := h16 _ rfl;refine ⟨_, rfl, ?_⟩;rintro rfl;refine R ?_;obtain rfl := h6 _ rfl;show ∃ D, Fz _ D 0 (.tuple ⟨[(.slice none 0 0), (.bool false)]⟩) _;exact ⟨fun _ => false, .tuplel (.cons (.nil _) (.cons .cl (.nil)))⟩
            · refine R ?_;refine pbr_ogrd h14 (fun g45 h14 => ?_);refine R ?_;refine pbr_ogrd h14 (fun g46 h14 => ?_);refine R ?_;refine nth_a (l := e9.2.2) (f := (rsl w1 4)) h14 (fun x47 h48 h14 => ?_);refine R ?_;refine pbr_ogrd h14 (fun g50 h14 => ?_);refine R ?_;refine pbr_ogrd h14 (fun g51 h14 => ?_);refine R ?_;refine nth_a (l := e9.2.2) (f := (rsl w1 4)) h14 (fun x52 h53 h14 => ?_);refine R ?_;obtain ⟨g55, h14⟩ := ogrd_some h14;refine set_a (l := e9.2.2) (f := (rsl w1 4)) (x := x47) g55 rfl ?_
              refine R ?_;refine ⟨by repeat (first | exact trivial | refine And.intro rfl ?_ | refine And.intro (lev_a (l := e9.2.2) (f := (rsl w1 4)) rfl h48) ?_ | refine And.intro (lev_a (l := e9.2.2) (f := (rsl w1 4)) rfl h53) ?_), ?_⟩;refine R ?_;obtain ⟨g56, h14⟩ := ogrd_some h14;refine set_a (l := (e9.2.2.set e9.1.toNat x47)) (f := (rsl w1 4)) (x := x52) g56 rfl ?_;refine R ?_;refine ⟨by repeat (first | exact trivial | refine And.intro rfl ?_ | refine And.intro (lev_a (l := e9.2.2) (f := (rsl w1 4)) rfl h48) ?_ | refine And.intro (lev_a (l := e9.2.2) (f := (rsl w1 4)) rfl h53) ?_), ?_⟩
              refine R ?_;obtain ⟨g57, h14⟩ := ogrd_some h14;obtain ⟨g58, h14⟩ := ogrd_some h14;refine pw_loop (τ := Int × (List (List (Int × (List Int) × Int × (List Int))))) (fun e => ⟨[(4, (iV ((a0.map e_L4IL1IIL1Ie).length : Int))), (5, (.slice (some ⟨0, 0, none⟩) a0.length 2)), (7, (iV e9.1)), (9, (iV e.1))], ⟨5000, ([(0, .rw (((e9.2.2.set e9.1.toNat x47).set r17.toNat x52).map (rsl w1 4)))] ++ famS e_IL1IIL1I 0 e.2), false⟩⟩) h14 ?_ (fun _ => nl rfl) ?_
              · exact sb
              · intro e59 x60 h61;refine pw_seq ?_;refine R ?_;refine pbr_oite h61 (fun g62 h61 => ?_) (fun g62 h61 => ?_)
                · refine R ?_;obtain ⟨r63, h64, h61⟩ := obnd_some h61;refine pw_joinR (ρ := (List (List (Int × (List Int) × Int × (List Int))))) (fun e => ⟨[(4, (iV ((a0.map e_L4IL1IIL1Ie).length : Int))), (5, (.slice (some ⟨0, 0, none⟩) a0.length 2)), (7, (iV e9.1)), (9, (iV e59.1))], ⟨5000, ([(0, .rw (((e9.2.2.set e9.1.toNat x47).set r17.toNat x52).map (rsl w1 4)))] ++ famS e_IL1IIL1I 0 e), false⟩⟩) r63 ?_ ?_
                  · refine R ?_;refine pw_seq ?_;refine R ?_;refine pbr_oite h64 (fun g67 h64 => ?_) (fun g67 h64 => ?_)
                    · (conv=>whnf);(iterate 9 refine pbr_t g67 ?_;(conv=>whnf));refine pw_cond ?_;(conv=>whnf);refine pw_exit ?_;(conv=>whnf);obtain ⟨g68, h64⟩ := ogrd_some h64;cases h64;exact Recast.fz (fun _ => false) (nl rfl) (.cons (.same rfl rfl (OBnd.prm (nl rfl) (nl rfl) g58)) (FzHL.famS0 (f := e_IL1IIL1I) (nl rfl) (fun _ _ => rfl) (fun i r hr => ((mlook rfl (lt1000 hr g68)).trans (famS_at0 hr))) g68)) (.cons rfl (.same _ .cl) (.cons rfl (.same _ (.slice (nl rfl))) (.cons rfl (.same _ .cl) (.cons rfl (.same _ .cl) .nil))))
                    · refine R ?_;refine pbr_ogrd h64 (fun g69 h64 => ?_);refine R ?_;refine pbr_ogrd h64 (fun g70 h64 => ?_);refine R ?_;refine nth_a (l := ((e9.2.2.set e9.1.toNat x47).set r17.toNat x52)) (f := (rsl w1 4)) h64 (fun x71 h72 h64 => ?_);refine R ?_;refine pbr_ogrd h64 (fun g74 h64 => ?_);refine R ?_;obtain ⟨g75, h64⟩ := ogrd_some h64;refine ldF (f := e_IL1IIL1I) h64 (fun r hr => ((mlook rfl (lt1000 hr g75)).trans (famS_at0 hr))) (fun r77 x76 h78 h79 h64 => ?_)
                      refine R ?_;obtain ⟨y80, h81, h64⟩ := obnd_some h64;refine (c282 h81).go ?_;refine R ?_;refine pbr_oite h64 (fun g82 h64 => ?_) (fun g82 h64 => ?_)
                      · (conv=>whnf);refine pw_exit ?_;(conv=>whnf);cases h64;exact Recast.fz (fun _ => false) (nl rfl) (.cons (.same rfl rfl (OBnd.prm (nl rfl) (nl rfl) g58)) (FzHL.famS0 (f := e_IL1IIL1I) (nl rfl) (fun _ _ => rfl) (fun i r hr => ((mlook rfl (lt1000 hr g75)).trans (famS_at0 hr))) g75)) (.cons rfl (.same _ .cl) (.cons rfl (.same _ (.slice (nl rfl))) (.cons rfl (.same _ .cl) (.cons rfl (.same _ .cl) .nil))))
                      · (conv=>whnf);refine pw_skip ?_;(conv=>whnf);obtain ⟨r83, h84, h64⟩ := obnd_some h64;refine pw_join (ρ := Int × (List Int) × Int × (List Int)) (fun e => ⟨[(4, (iV ((a0.map e_L4IL1IIL1Ie).length : Int))), (5, (.slice (some ⟨0, 0, none⟩) a0.length 2)), (7, (iV e9.1)), (9, (iV e59.1)), (10, (pV 5000 0))], ⟨5001, ([(5000, .rw [(iV e.1), (VS 1 (e.2.1.map eI)), (iV e.2.2.1), (VS 1 (e.2.2.2.map eI))]), (0, .rw (((e9.2.2.set e9.1.toNat x47).set r17.toNat x52).map (rsl w1 4)))] ++ famS e_IL1IIL1I 0 e59.2), false⟩⟩) r83 ?_ ?_
                        · refine R ?_;refine nth_a (l := ((e9.2.2.set e9.1.toNat x47).set r17.toNat x52)) (f := (rsl w1 4)) h84 (fun x87 h88 h84 => ?_);refine R ?_;refine ldF (f := e_IL1IIL1I) h84 (fun r hr => ((mlook rfl (lt1000 hr g75)).trans (famS_at0 hr))) (fun r91 x90 h92 h93 h84 => ?_);refine R ?_;refine nth_a (l := ((e9.2.2.set e9.1.toNat x47).set r17.toNat x52)) (f := (rsl w1 4)) h84 (fun x94 h95 h84 => ?_)
                          refine R ?_;refine ldF (f := e_IL1IIL1I) h84 (fun r hr => ((mlook rfl (lt1000 hr g75)).trans (famS_at0 hr))) (fun r98 x97 h99 h100 h84 => ?_);refine R ?_;refine ⟨?_, ?_⟩
                          · refine R ?_;obtain ⟨y101, h102, h84⟩ := obnd_some h84;refine (c283 h102).go ?_;refine R ?_;refine ⟨by repeat (first | exact trivial | refine And.intro rfl ?_ | refine And.intro (lev_a (l := ((e9.2.2.set e9.1.toNat x47).set r17.toNat x52)) (f := (rsl w1 4)) rfl h88) ?_ | refine And.intro (levF (f := e_IL1IIL1I) h92 h93 (fun r hr => ((mlook rfl (lt1000 hr g75)).trans (famS_at0 hr)))) ?_ | refine And.intro (lev_a (l := ((e9.2.2.set e9.1.toNat x47).set r17.toNat x52)) (f := (rsl w1 4)) rfl h95) ?_ | refine And.intro (levF (f := e_IL1IIL1I) h99 h100 (fun r hr => ((mlook rfl (lt1000 hr g75)).trans (famS_at0 hr)))) ?_), ?_⟩
                            refine R ?_;refine ⟨by repeat (first | exact trivial | refine And.intro rfl ?_ | refine And.intro (lev_a (l := ((e9.2.2.set e9.1.toNat x47).set r17.toNat x52)) (f := (rsl w1 4)) rfl h88) ?_ | refine And.intro (levF (f := e_IL1IIL1I) h92 h93 (fun r hr => ((mlook rfl (lt1000 hr g75)).trans (famS_at0 hr)))) ?_ | refine And.intro (lev_a (l := ((e9.2.2.set e9.1.toNat x47).set r17.toNat x52)) (f := (rsl w1 4)) rfl h95) ?_ | refine And.intro (levF (f := e_IL1IIL1I) h99 h100 (fun r hr => ((mlook rfl (lt1000 hr g75)).trans (famS_at0 hr)))) ?_), ?_⟩;refine R ?_
                            refine R ?_;refine ⟨by repeat (first | exact trivial | refine And.intro rfl ?_ | refine And.intro (lev_a (l := ((e9.2.2.set e9.1.toNat x47).set r17.toNat x52)) (f := (rsl w1 4)) rfl h88) ?_ | refine And.intro (levF (f := e_IL1IIL1I) h92 h93 (fun r hr => ((mlook rfl (lt1000 hr g75)).trans (famS_at0 hr)))) ?_ | refine And.intro (lev_a (l := ((e9.2.2.set e9.1.toNat x47).set r17.toNat x52)) (f := (rsl w1 4)) rfl h95) ?_ | refine And.intro (levF (f := e_IL1IIL1I) h99 h100 (fun r hr => ((mlook rfl (lt1000 hr g75)).trans (famS_at0 hr)))) ?_), ?_⟩;refine R ?_;cases h84;exact cr
                          · obtain ⟨y101, h102, h84⟩ := obnd_some h84;refine R ?_;refine ⟨by repeat (first | exact trivial | refine And.intro rfl ?_ | refine And.intro (lev_a (l := ((e9.2.2.set e9.1.toNat x47).set r17.toNat x52)) (f := (rsl w1 4)) rfl h88) ?_ | refine And.intro (levF (f := e_IL1IIL1I) h92 h93 (fun r hr => ((mlook rfl (lt1000 hr g75)).trans (famS_at0 hr)))) ?_ | refine And.intro (lev_a (l := ((e9.2.2.set e9.1.toNat x47).set r17.toNat x52)) (f := (rsl w1 4)) rfl h95) ?_ | refine And.intro (levF (f := e_IL1IIL1I) h99 h100 (fun r hr => ((mlook rfl (lt1000 hr g75)).trans (famS_at0 hr)))) ?_), ?_⟩
                            refine R ?_;refine (c283 h102).go ?_;refine R ?_;refine ⟨by repeat (first | exact trivial | refine And.intro rfl ?_ | refine And.intro (lev_a (l := ((e9.2.2.set e9.1.toNat x47).set r17.toNat x52)) (f := (rsl w1 4)) rfl h88) ?_ | refine And.intro (levF (f := e_IL1IIL1I) h92 h93 (fun r hr => ((mlook rfl (lt1000 hr g75)).trans (famS_at0 hr)))) ?_ | refine And.intro (lev_a (l := ((e9.2.2.set e9.1.toNat x47).set r17.toNat x52)) (f := (rsl w1 4)) rfl h95) ?_ | refine And.intro (levF (f := e_IL1IIL1I) h99 h100 (fun r hr => ((mlook rfl (lt1000 hr g75)).trans (famS_at0 hr)))) ?_), ?_⟩
                            refine R ?_;refine ⟨by repeat (first | exact trivial | refine And.intro rfl ?_ | refine And.intro (lev_a (l := ((e9.2.2.set e9.1.toNat x47).set r17.toNat x52)) (f := (rsl w1 4)) rfl h88) ?_ | refine And.intro (levF (f := e_IL1IIL1I) h92 h93 (fun r hr => ((mlook rfl (lt1000 hr g75)).trans (famS_at0 hr)))) ?_ | refine And.intro (lev_a (l := ((e9.2.2.set e9.1.toNat x47).set r17.toNat x52)) (f := (rsl w1 4)) rfl h95) ?_ | refine And.intro (levF (f := e_IL1IIL1I) h99 h100 (fun r hr => ((mlook rfl (lt1000 hr g75)).trans (famS_at0 hr)))) ?_), ?_⟩;refine R ?_;cases h84
                            exact cr
                        · refine R ?_;refine pw_loop (τ := Int × (List (List (Int × (List Int) × Int × (List Int))))) (fun e => ⟨[(4, (iV ((a0.map e_L4IL1IIL1Ie).length : Int))), (5, (.slice (some ⟨0, 0, none⟩) a0.length 2)), (7, (iV e9.1)), (9, (iV e59.1)), (10, (pV 5000 0)), (11, (iV e.1))], ⟨5001, ([(5000, .rw [(iV r83.1), (VS 1 (r83.2.1.map eI)), (iV r83.2.2.1), (VS 1 (r83.2.2.2.map eI))]), (0, .rw (((e9.2.2.set e9.1.toNat x47).set r17.toNat x52).map (rsl w1 4)))] ++ famS e_IL1IIL1I 0 e.2), false⟩⟩) h64 ?_ (fun _ => nl rfl) ?_
                          · exact sb
                          · intro e103 x104 h105;refine pw_seq ?_;refine R ?_;refine pbr_oite h105 (fun g106 h105 => ?_) (fun g106 h105 => ?_)
                            · refine R ?_;refine pw_seq ?_;refine R ?_;refine nth_a (l := ((e9.2.2.set e9.1.toNat x47).set r17.toNat x52)) (f := (rsl w1 4)) h105 (fun x107 h108 h105 => ?_);refine R ?_;refine nth_a (l := ((e9.2.2.set e9.1.toNat x47).set r17.toNat x52)) (f := (rsl w1 4)) h105 (fun x110 h111 h105 => ?_);refine R ?_;refine pbr_ogrd h105 (fun g113 h105 => ?_);refine R ?_;refine pbr_ogrd h105 (fun g114 h105 => ?_)
                              refine R ?_;obtain ⟨g115, h105⟩ := ogrd_some h105;refine ldF (f := e_IL1IIL1I) h105 (fun r hr => ((mlook rfl (lt1000 hr g115)).trans ((mlook rfl (lt1000 hr g115)).trans (famS_at0 hr)))) (fun r117 x116 h118 h119 h105 => ?_);refine R ?_;refine nth_a (l := ((e9.2.2.set e9.1.toNat x47).set r17.toNat x52)) (f := (rsl w1 4)) h105 (fun x120 h121 h105 => ?_);refine R ?_;refine ldF (f := e_IL1IIL1I) h105 (fun r hr => ((mlook rfl (lt1000 hr g115)).trans ((mlook rfl (lt1000 hr g115)).trans (famS_at0 hr)))) (fun r124 x123 h125 h126 h105 => ?_)
                              refine R ?_;obtain ⟨y127, h128, h105⟩ := obnd_some h105;refine (c277 h128).go ?_;refine R ?_;refine ⟨by repeat (first | exact trivial | refine And.intro rfl ?_ | refine And.intro (lev_a (l := ((e9.2.2.set e9.1.toNat x47).set r17.toNat x52)) (f := (rsl w1 4)) rfl h108) ?_ | refine And.intro (lev_a (l := ((e9.2.2.set e9.1.toNat x47).set r17.toNat x52)) (f := (rsl w1 4)) rfl h111) ?_ | refine And.intro (levF (f := e_IL1IIL1I) h118 h119 (fun r hr => ((mlook rfl (lt1000 hr g115)).trans ((mlook rfl (lt1000 hr g115)).trans (famS_at0 hr))))) ?_ | refine And.intro (lev_a (l := ((e9.2.2.set e9.1.toNat x47).set r17.toNat x52)) (f := (rsl w1 4)) rfl h121) ?_ | refine And.intro (levF (f := e_IL1IIL1I) h125 h126 (fun r hr => ((mlook rfl (lt1000 hr g115)).trans ((mlook rfl (lt1000 hr g115)).trans (famS_at0 hr))))) ?_), ?_⟩
                              refine R ?_;obtain ⟨y129, h130, h105⟩ := obnd_some h105;refine (c284 h130).go ?_;refine R ?_;refine ⟨by repeat (first | exact trivial | refine And.intro rfl ?_ | refine And.intro (lev_a (l := ((e9.2.2.set e9.1.toNat x47).set r17.toNat x52)) (f := (rsl w1 4)) rfl h108) ?_ | refine And.intro (lev_a (l := ((e9.2.2.set e9.1.toNat x47).set r17.toNat x52)) (f := (rsl w1 4)) rfl h111) ?_ | refine And.intro (levF (f := e_IL1IIL1I) h118 h119 (fun r hr => ((mlook rfl (lt1000 hr g115)).trans ((mlook rfl (lt1000 hr g115)).trans (famS_at0 hr))))) ?_ | refine And.intro (lev_a (l := ((e9.2.2.set e9.1.toNat x47).set r17.toNat x52)) (f := (rsl w1 4)) rfl h121) ?_ | refine And.intro (levF (f := e_IL1IIL1I) h125 h126 (fun r hr => ((mlook rfl (lt1000 hr g115)).trans ((mlook rfl (lt1000 hr g115)).trans (famS_at0 hr))))) ?_), ?_⟩
                              refine R ?_;obtain ⟨r131, h132, h105⟩ := obnd_some h105;obtain ⟨g133, h105⟩ := ogrd_some h105;rw [getF (f := e_IL1IIL1I) h132 (fun r hr => ((mlook rfl (lt1000 hr g115)).trans ((mlook rfl (lt1000 hr g115)).trans (famS_at0 hr))))];refine R ?_;refine setF (f := e_IL1IIL1I) (y := (y129.1, y129.2.1, y129.2.2.1, y129.2.2.2)) g133 ?_;refine pputm (h1 := ⟨5001, ([(5000, .rw [(iV r83.1), (VS 1 (r83.2.1.map eI)), (iV r83.2.2.1), (VS 1 (r83.2.2.2.map eI))]), (0, .rw (((e9.2.2.set e9.1.toNat x47).set r17.toNat x52).map (rsl w1 4)))] ++ famS e_IL1IIL1I 0 (e103.2.set x107 (r131.set e103.1.toNat (y129.1, y129.2.1, y129.2.2.1, y129.2.2.2)))), false⟩) (congrArg (fun l => AHeap.mk 5001 l false) ((mput rfl (lt1000 h132 g115)).trans (congrArg (fun l => _ :: l) ((mput rfl (lt1000 h132 g115)).trans (congrArg (fun l => _ :: l) (famS_put0 h132)))))) ?_
                              refine R ?_;refine ⟨by repeat (first | exact trivial | refine And.intro rfl ?_ | refine And.intro (lev_a (l := ((e9.2.2.set e9.1.toNat x47).set r17.toNat x52)) (f := (rsl w1 4)) rfl h108) ?_ | refine And.intro (lev_a (l := ((e9.2.2.set e9.1.toNat x47).set r17.toNat x52)) (f := (rsl w1 4)) rfl h111) ?_ | refine And.intro (levF (f := e_IL1IIL1I) h118 h119 (fun r hr => ((mlook rfl (lt1000 hr g115)).trans ((mlook rfl (lt1000 hr g115)).trans (famS_at0 hr))))) ?_ | refine And.intro (lev_a (l := ((e9.2.2.set e9.1.toNat x47).set r17.toNat x52)) (f := (rsl w1 4)) rfl h121) ?_ | refine And.intro (levF (f := e_IL1IIL1I) h125 h126 (fun r hr => ((mlook rfl (lt1000 hr g115)).trans ((mlook rfl (lt1000 hr g115)).trans (famS_at0 hr))))) ?_), ?_⟩
                              refine R ?_;cases h105;refine ⟨_, rfl, ?_⟩;exact sb
                            · (conv=>whnf);refine pw_exit ?_;(conv=>whnf);obtain ⟨w136, rfl, h134⟩ := oinr_some h105;refine ⟨_, rfl, ?_⟩; rintro rfl;(conv=>whnf);obtain ⟨g135, h134⟩ := ogrd_some h134;cases h134;exact Recast.fz (fun _ => false) (nl rfl) (.cons (.same rfl rfl (OBnd.prm (nl rfl) (nl rfl) g58)) (FzHL.famS0 (f := e_IL1IIL1I) (nl rfl) (fun _ _ => rfl) (fun i r hr => ((mlook rfl (lt1000 hr g135)).trans ((mlook rfl (lt1000 hr g135)).trans (famS_at0 hr)))) g135)) (.cons rfl (.same _ .cl) (.cons rfl (.same _ (.slice (nl rfl))) (.cons rfl (.same _ .cl) (.cons rfl (.same _ .cl) .nil))))
                  · refine R ?_;obtain ⟨g137, h61⟩ := ogrd_some h61;cases h61;refine ⟨_, rfl, ?_⟩;exact sb
                · refine R ?_;obtain ⟨w140, rfl, h138⟩ := oinr_some h61;refine ⟨_, rfl, ?_⟩;rintro rfl;refine R ?_;obtain ⟨g139, h138⟩ := ogrd_some h138;cases h138;exact ⟨_, rfl, cr⟩
        · intro r141 hr;have h11 := h15 _ hr;refine R ?_;obtain ⟨g142, h11⟩ := ogrd_some h11;obtain ⟨g143, h11⟩ := ogrd_some h11;cases h11;refine ⟨_, rfl, ?_⟩;exact sb
      · refine R ?_;obtain ⟨w147, rfl, h144⟩ := oinr_some h11;refine ⟨_, rfl, ?_⟩;rintro rfl;refine R ?_;obtain ⟨g145, h144⟩ := ogrd_some h144;obtain ⟨g146, h144⟩ := ogrd_some h144;cases h144;exact ⟨_, rfl, cr⟩
  · intro r148 hr;have H := h5 _ hr;refine R ?_;obtain ⟨r149, h150, H⟩ := obnd_some H;refine pw_join (ρ := (List (Int × (List Int) × Int × (List Int)))) (fun e => ⟨[(12, (VT 4 (e.map e_IL1IIL1I) 5000))], ⟨5001, ([(5000, .tail (e.map e_IL1IIL1I).length 4), (0, .rw (r148.2.map (rsl w1 4)))] ++ famS e_IL1IIL1I 0 r148.1), false⟩⟩) r149 ?_ ?_
    · refine R ?_;obtain ⟨g153, h150⟩ := ogrd_some h150;obtain ⟨g154, h150⟩ := ogrd_some h150;refine pw_loop (τ := (List (Int × (List Int) × Int × (List Int))) × Int) (fun e => ⟨[(4, (iV ((a0.map e_L4IL1IIL1Ie).length : Int))), (5, (.slice (some ⟨0, 0, none⟩) a0.length 2)), (12, (VT 4 (e.1.map e_IL1IIL1I) 5000)), (13, (iV e.2))], ⟨5001, ([(5000, .tail (e.1.map e_IL1IIL1I).length 4), (0, .rw (r148.2.map (rsl w1 4)))] ++ famS e_IL1IIL1I 0 r148.1), false⟩⟩) h150 ?_ (fun _ => nl rfl) ?_
      · exact (Recast.nilTs 4 (nl rfl) (.same rfl (.same rfl (.turn rfl (.same rfl .nil)))))
      · intro e155 x156 h157;refine pw_seq ?_;refine R ?_;refine pbr_oite h157 (fun g158 h157 => ?_) (fun g158 h157 => ?_)
        · refine R ?_;refine pw_seq ?_;refine R ?_;refine pbr_ogrd h157 (fun g159 h157 => ?_);refine R ?_;refine pbr_ogrd h157 (fun g160 h157 => ?_);refine R ?_;refine nth_a (l := r148.2) (f := (rsl w1 4)) h157 (fun x161 h162 h157 => ?_);refine R ?_;refine pbr_ogrd h157 (fun g164 h157 => ?_);refine R ?_;refine ldF (f := e_IL1IIL1I) h157 (fun r hr => ((mlook rfl (lt1000 hr g153)).trans ((mlook rfl (lt1000 hr g153)).trans (famS_at0 hr)))) (fun r166 x165 h167 h168 h157 => ?_);refine R ?_
          refine R ?_;refine nth_a (l := r148.2) (f := (rsl w1 4)) h157 (fun x169 h170 h157 => ?_);refine R ?_;refine pbr_ogrd h157 (fun g172 h157 => ?_);refine R ?_;refine ldF (f := e_IL1IIL1I) h157 (fun r hr => ((mlook rfl (lt1000 hr g153)).trans ((mlook rfl (lt1000 hr g153)).trans (famS_at0 hr)))) (fun r174 x173 h175 h176 h157 => ?_);refine R ?_;obtain ⟨y177, h178, h157⟩ := obnd_some h157;refine (c283 h178).go ?_;refine R ?_;refine ⟨by repeat (first | exact trivial | refine And.intro rfl ?_ | refine And.intro (lev_a (l := r148.2) (f := (rsl w1 4)) rfl h162) ?_ | refine And.intro (levF (f := e_IL1IIL1I) h167 h168 (fun r hr => ((mlook rfl (lt1000 hr g153)).trans ((mlook rfl (lt1000 hr g153)).trans (famS_at0 hr))))) ?_ | refine And.intro (lev_a (l := r148.2) (f := (rsl w1 4)) rfl h170) ?_ | refine And.intro (levF (f := e_IL1IIL1I) h175 h176 (fun r hr => ((mlook rfl (lt1000 hr g153)).trans ((mlook rfl (lt1000 hr g153)).trans (famS_at0 hr))))) ?_), ?_⟩
          (conv=>whnf);refine ⟨?_, trivial⟩;(conv=>whnf);refine ⟨by repeat (first | exact trivial | refine And.intro rfl ?_ | refine And.intro (lev_a (l := r148.2) (f := (rsl w1 4)) rfl h162) ?_ | refine And.intro (levF (f := e_IL1IIL1I) h167 h168 (fun r hr => ((mlook rfl (lt1000 hr g153)).trans ((mlook rfl (lt1000 hr g153)).trans (famS_at0 hr))))) ?_ | refine And.intro (lev_a (l := r148.2) (f := (rsl w1 4)) rfl h170) ?_ | refine And.intro (levF (f := e_IL1IIL1I) h175 h176 (fun r hr => ((mlook rfl (lt1000 hr g153)).trans ((mlook rfl (lt1000 hr g153)).trans (famS_at0 hr))))) ?_), ?_⟩;(conv=>whnf);refine ⟨?_, trivial⟩
          refine R ?_;refine app_o (l := e155.1) (m := ([(y177.1, y177.2.1, y177.2.2.1, y177.2.2.2)] : List (Int × (List Int) × Int × (List Int)))) (f := e_IL1IIL1I) h157 (by rfl) (by rfl) (by rfl) (fun h157 => ?_);refine R ?_;refine ⟨by repeat (first | exact trivial | refine And.intro rfl ?_ | refine And.intro (lev_a (l := r148.2) (f := (rsl w1 4)) rfl h162) ?_ | refine And.intro (levF (f := e_IL1IIL1I) h167 h168 (fun r hr => ((mlook rfl (lt1000 hr g153)).trans ((mlook rfl (lt1000 hr g153)).trans (famS_at0 hr))))) ?_ | refine And.intro (lev_a (l := r148.2) (f := (rsl w1 4)) rfl h170) ?_ | refine And.intro (levF (f := e_IL1IIL1I) h175 h176 (fun r hr => ((mlook rfl (lt1000 hr g153)).trans ((mlook rfl (lt1000 hr g153)).trans (famS_at0 hr))))) ?_), ?_⟩
          (conv=>whnf);refine ⟨?_, trivial⟩;(conv=>whnf);refine ⟨by repeat (first | exact trivial | refine And.intro rfl ?_ | refine And.intro (lev_a (l := r148.2) (f := (rsl w1 4)) rfl h162) ?_ | refine And.intro (levF (f := e_IL1IIL1I) h167 h168 (fun r hr => ((mlook rfl (lt1000 hr g153)).trans ((mlook rfl (lt1000 hr g153)).trans (famS_at0 hr))))) ?_ | refine And.intro (lev_a (l := r148.2) (f := (rsl w1 4)) rfl h170) ?_ | refine And.intro (levF (f := e_IL1IIL1I) h175 h176 (fun r hr => ((mlook rfl (lt1000 hr g153)).trans ((mlook rfl (lt1000 hr g153)).trans (famS_at0 hr))))) ?_), ?_⟩;(conv=>whnf);refine pw_ops ?_
          refine po_all ?_;(conv=>whnf);cases h157;refine ⟨_, rfl, ?_⟩;exact Recast.fz (fun _ => false) (nl rfl) (.cons (.same rfl rfl (OBnd.tail (nl rfl))) (.cons (.same rfl rfl (OBnd.prm (nl rfl) (nl rfl) g154)) (FzHL.famS0 (f := e_IL1IIL1I) (nl rfl) (fun _ _ => rfl) (fun i r hr => ((mlook rfl (lt1000 hr g153)).trans ((mlook rfl (lt1000 hr g153)).trans ((mlook rfl (lt1000 hr g153)).trans (famS_at0 hr))))) g153))) (.cons rfl (.same _ .cl) (.cons rfl (.same _ (.slice (nl rfl))) (.cons rfl (.same _ (.vt (nl rfl))) (.cons rfl (.same _ .cl) .nil))))
        · refine R ?_;cases h157;refine ⟨_, rfl, ?_⟩;rintro rfl;refine R ?_;exact cr
    · refine R ?_;cases H;show ∃ D, Fz _ D 0 (.tuple ⟨[(VT 4 _ 5000), (.bool true)]⟩) _;exact ⟨fun _ => false, .tuplel (.cons .vtc (.cons .cl (.nil)))⟩
noncomputable def f276 [LO]  (a0 : Int) (a1 : List Int) : Option (Int × Bool) :=
 oite ((ilt (2 : Int) ((a1.map eI).length : Int))) (
 some ((0 : Int), false)
 ) (
 obnd (
 oloop (τ := Int × Int) (ρ := Int) (fun e6 =>
 oite ((ile (0 : Int) e6.2)) (
 ogrd ((ile 0 e6.2)) (
 obnd (a1[e6.2.toNat]?) fun (x11 : Int) =>
 some (.inl (((IntKind.i64.wrap ((IntKind.i64.wrap (e6.1 * (1000000000 : Int))) + x11)), (IntKind.i64.wrap (e6.2 - (1 : Int)))))))
 ) (
 some (.inr (e6.1)))
 ) (((0 : Int), (IntKind.i64.wrap (((a1.map eI).length : Int) - (1 : Int)))))
 ) fun (r2 : Int) =>
 some ((IntKind.i64.wrap (a0 * r2)), true))
theorem c276 [LO]  {a0 : Int} {a1 : List Int} {x : Int × Bool} (H : f276 a0 a1 = some x) : ICalls E 276 [(.agg ⟨[(iV a0), (VS 1 (a1.map eI))]⟩)] AHeap.none fun v _ => v = (.tuple ⟨[(iV x.1), (.bool x.2)]⟩) := by
 refine icalls_fn (pfnw ?_);unfold f276 at H;refine R ?_;refine pw_seq ?_;refine R ?_;refine pbr_oite H (fun g1 H => ?_) (fun g1 H => ?_)
 · refine R ?_;cases H;rfl
 · refine R ?_;obtain ⟨r2, h3, H⟩ := obnd_some H;refine pw_join (ρ := Int) (fun e => ⟨[(1, (pV 0 0)), (4, (iV e))], ⟨1, [(0, .rw [(iV a0), (VS 1 (a1.map eI))])], false⟩⟩) r2 ?_ ?_
   · refine R ?_;refine pw_loop (τ := Int × Int) (fun e => ⟨[(1, (pV 0 0)), (4, (iV e.1)), (5, (iV e.2))], ⟨1, [(0, .rw [(iV a0), (VS 1 (a1.map eI))])], false⟩⟩) h3 ?_ (fun _ => nl rfl) ?_
     · exact sb
     · intro e6 x7 h8;refine pw_seq ?_;refine R ?_;refine pbr_oite h8 (fun g9 h8 => ?_) (fun g9 h8 => ?_)
       · (conv=>whnf);refine pw_skip ?_;(conv=>whnf);refine pw_seq ?_;refine pw_block ?_;refine pw_ops ?_;refine po_all ?_;(conv=>whnf);refine pbr_ogrd h8 (fun g10 h8 => ?_);(conv=>whnf);refine nth_o (l := a1) h8 (fun x11 _ h8 => ?_);(conv=>whnf);refine pw_ops ?_;refine po_all ?_;(conv=>whnf);cases h8;refine ⟨_, rfl, ?_⟩;exact .sub' (nl rfl) (.cons rfl (.cons rfl (.cons rfl .nil)))
       · refine R ?_;cases h8;refine ⟨_, rfl, ?_⟩;rintro rfl;refine R ?_;exact cr
   · refine R ?_;cases H;rfl
noncomputable def f278 [LO]  (a0 : Int) (a1 : List Int) (a2 : Int) (a3 : List Int) : Option (Int × (List Int)) :=
 obnd (f289 a0 a1 a2 a3) fun (y1 : Int × (List Int)) =>
 some (y1.1, y1.2)
theorem c278 [LO]  {a0 : Int} {a1 : List Int} {a2 : Int} {a3 : List Int} {x : Int × (List Int)} (H : f278 a0 a1 a2 a3 = some x) : ICalls E 278 [(.agg ⟨[(iV a0), (VS 1 (a1.map eI)), (iV a2), (VS 1 (a3.map eI))]⟩)] AHeap.none fun v _ => v = (.agg ⟨[(iV x.1), (VS 1 (x.2.map eI))]⟩) := by
 refine ICalls.frz ?_;refine icalls_fn (pfnw ?_);unfold f278 at H;refine R ?_;obtain ⟨y1, h2, H⟩ := obnd_some H;refine (c289 h2).go ?_;refine R ?_;cases H;show ∃ D, Fz _ D 0 (.agg ⟨[(iV y1.1), (VS 1 _)]⟩) _;exact ⟨fun _ => false, .cl⟩
noncomputable def f266 [LO]  (a0 : List (Int × Int × Int)) (a1 : Int) : Option (Int × Int × Int × Int × Int × Int × Int) :=
 obnd (f270 a1) fun (y1 : (List Int)) =>
 obnd (
 oloop (τ := (List ((List (Int × (List Int) × Int × (List Int))))) × Int) (ρ := (List ((List (Int × (List Int) × Int × (List Int)))))) (fun e7 =>
 oite ((ilt e7.2 ((y1.map eI).length : Int))) (
 obnd (
 oloop (τ := (List (Int × (List Int) × Int × (List Int))) × Int) (ρ := (List (Int × (List Int) × Int × (List Int)))) (fun e15 =>
 oite ((ile e15.2 ((y1.map eI).length : Int))) (
 obnd (
 oloop (τ := Int × Int) (ρ := Int) (fun e23 =>
 oite ((ilt e23.2 ((a0.map e_III).length : Int))) (
 ogrd ((ile 0 e23.2)) (
 obnd (a0[e23.2.toNat]?) fun (x28 : Int × Int × Int) =>
 obnd (f34 x28.1 x28.2.1 x28.2.2) fun (y29 : Int × Int × Int × Int × Int) =>
 oite ((ilt e15.2 ((y1.map eI).length : Int))) (
 ogrd ((ile 0 e7.2)) (
 obnd (y1[e7.2.toNat]?) fun (x33 : Int) =>
 ogrd ((ile 0 x33)) (
 ogrd ((ilt x33 5)) (
 obnd (([y29.1, y29.2.1, y29.2.2.1, y29.2.2.2.1, y29.2.2.2.2] : List Int)[(0 + x33.toNat * 1)]?) fun (x36 : Int) =>
 ogrd ((ile 0 e15.2)) (
 obnd (y1[e15.2.toNat]?) fun (x38 : Int) =>
 ogrd ((ile 0 x38)) (
 ogrd ((ilt x38 5)) (
 obnd (([y29.1, y29.2.1, y29.2.2.1, y29.2.2.2.1, y29.2.2.2.2] : List Int)[(0 + x38.toNat * 1)]?) fun (x41 : Int) =>
 some (.inl (((IntKind.i64.wrap (e23.1 + (IntKind.i64.wrap (x36 * x41)))), (IntKind.i64.wrap (e23.2 + (1 : Int))))))))))))
 ) (
 ogrd ((ile 0 e7.2)) (
 obnd (y1[e7.2.toNat]?) fun (x43 : Int) =>
 ogrd ((ile 0 x43)) (
 ogrd ((ilt x43 5)) (
 obnd (([y29.1, y29.2.1, y29.2.2.1, y29.2.2.2.1, y29.2.2.2.2] : List Int)[(0 + x43.toNat * 1)]?) fun (x46 : Int) =>
 obnd (a0[e23.2.toNat]?) fun (x47 : Int × Int × Int) =>
 some (.inl (((IntKind.i64.wrap (e23.1 + (IntKind.i64.wrap (x46 * x47.2.2)))), (IntKind.i64.wrap (e23.2 + (1 : Int)))))))))))
 ) (
 some (.inr (e23.1)))
 ) (((0 : Int), (0 : Int)))
 ) fun (r19 : Int) =>
 obnd (f271 r19) fun (y49 : Int × (List Int) × Int × (List Int)) =>
 ogrd (fits 64 (e15.1.length + ([(y49.1, y49.2.1, y49.2.2.1, y49.2.2.2)] : List (Int × (List Int) × Int × (List Int))).length)) (
 some (.inl (((e15.1 ++ ([(y49.1, y49.2.1, y49.2.2.1, y49.2.2.2)] : List (Int × (List Int) × Int × (List Int)))), (IntKind.i64.wrap (e15.2 + (1 : Int)))))))
 ) (
 some (.inr (e15.1)))
 ) ((([] : List (Int × (List Int) × Int × (List Int))), (0 : Int)))
 ) fun (r11 : (List (Int × (List Int) × Int × (List Int)))) =>
 ogrd (fits 24 (e7.1.length + ([r11] : List ((List (Int × (List Int) × Int × (List Int))))).length)) (
 some (.inl (((e7.1 ++ ([r11] : List ((List (Int × (List Int) × Int × (List Int)))))), (IntKind.i64.wrap (e7.2 + (1 : Int)))))))
 ) (
 some (.inr (e7.1)))
 ) ((([] : List ((List (Int × (List Int) × Int × (List Int))))), (0 : Int)))
 ) fun (r3 : (List ((List (Int × (List Int) × Int × (List Int)))))) =>
 obnd (f272 r3) fun (y53 : (List (Int × (List Int) × Int × (List Int))) × Bool) =>
 oite (!y53.2) (
 some ((0 : Int), (0 : Int), (0 : Int), (0 : Int), (0 : Int), (0 : Int), (12 : Int))
 ) (
 obnd (f273 (1 : Int)) fun (y56 : Int × (List Int)) =>
 obnd (
 oloop (τ := Int × Int × (List Int)) (ρ := Int × (List Int)) (fun e62 =>
 oite ((ilt e62.1 ((y53.1.map e_IL1IIL1I).length : Int))) (
 ogrd ((ile 0 e62.1)) (
 obnd (y53.1[e62.1.toNat]?) fun (x67 : Int × (List Int) × Int × (List Int)) =>
 obnd (y53.1[e62.1.toNat]?) fun (x68 : Int × (List Int) × Int × (List Int)) =>
 obnd (f275 e62.2.1 e62.2.2 x67.2.2.1 x67.2.2.2) fun (y69 : Int × (List Int) × Int × (List Int)) =>
 obnd (f274 y69.1 y69.2.1 x68.2.2.1 x68.2.2.2) fun (y71 : Int × (List Int)) =>
 some (.inl ((IntKind.i64.wrap (e62.1 + (1 : Int))), y71.1, y71.2)))
 ) (
 some (.inr ((e62.2.1, e62.2.2))))
 ) ((0 : Int), y56.1, y56.2)
 ) fun (r58 : Int × (List Int)) =>
 obnd (f276 r58.1 r58.2) fun (y74 : Int × Bool) =>
 obnd (
 oite (!y74.2) (
 some true
 ) (
 some (ilt (1000000000000 : Int) y74.1))
 ) fun (r76 : Bool) =>
 oite r76 (
 some ((0 : Int), (0 : Int), (0 : Int), (0 : Int), (0 : Int), (0 : Int), (8 : Int))
 ) (
 obndS (
 oloop (τ := Int × Int × Int × Int × Int × Int) (ρ := (Int × Int × Int × Int × Int) ⊕ (Int × Int × Int × Int × Int × Int × Int)) (fun e86 =>
 oite ((ilt e86.1 ((y53.1.map e_IL1IIL1I).length : Int))) (
 obnd (
 ogrd ((ile 0 e86.1)) (
 obnd (y53.1[e86.1.toNat]?) fun (x95 : Int × (List Int) × Int × (List Int)) =>
 obnd (f271 y74.1) fun (y96 : Int × (List Int) × Int × (List Int)) =>
 obnd (f277 x95.1 x95.2.1 x95.2.2.1 x95.2.2.2 y96.1 y96.2.1 y96.2.2.1 y96.2.2.2) fun (y98 : Int × (List Int) × Int × (List Int)) =>
 some (y98.1, y98.2.1, y98.2.2.1, y98.2.2.2))
 ) fun (r90 : Int × (List Int) × Int × (List Int)) =>
 obnd (f278 r90.1 r90.2.1 r90.2.2.1 r90.2.2.2) fun (y100 : Int × (List Int)) =>
 obnd (f276 y100.1 y100.2) fun (y102 : Int × Bool) =>
 obnd (
 oite (!y102.2) (
 some true
 ) (
 obnd (f15 y102.1 (-1000000000000 : Int) (1000000000000 : Int)) fun (y109 : Bool) =>
 some (!y109))
 ) fun (r104 : Bool) =>
 oite r104 (
 some (.inr (.inr (((0 : Int), (0 : Int), (0 : Int), (0 : Int), (0 : Int), (0 : Int), (8 : Int)))))
 ) (
 ogrd ((ile 0 e86.1)) (
 obnd (y1[e86.1.toNat]?) fun (x114 : Int) =>
 ogrd ((ile 0 x114)) (
 ogrd ((ilt x114 5)) (
 some (.inl (((IntKind.i64.wrap (e86.1 + (1 : Int))), (sel x114.toNat 0 y102.1 e86.2.1), (sel x114.toNat 1 y102.1 e86.2.2.1), (sel x114.toNat 2 y102.1 e86.2.2.2.1), (sel x114.toNat 3 y102.1 e86.2.2.2.2.1), (sel x114.toNat 4 y102.1 e86.2.2.2.2.2))))))))
 ) (
 some (.inr (.inl (e86.2.1, e86.2.2.1, e86.2.2.2.1, e86.2.2.2.2.1, e86.2.2.2.2.2))))
 ) (((0 : Int), (0 : Int), (0 : Int), (0 : Int), (0 : Int), (0 : Int)))
 ) fun (r118 : Int × Int × Int × Int × Int) =>
 some (y74.1, r118.1, r118.2.1, r118.2.2.1, r118.2.2.2.1, r118.2.2.2.2, (0 : Int))))
theorem c266 [LO]  {a0 : List (Int × Int × Int)} {a1 : Int} {x : Int × Int × Int × Int × Int × Int × Int} (H : f266 a0 a1 = some x) : ICalls E 266 [(VS 3 (a0.map e_III)), (iV a1)] AHeap.none fun v _ => v = (.tuple ⟨[(.agg ⟨[(iV x.1), (iV x.2.1), (iV x.2.2.1), (iV x.2.2.2.1), (iV x.2.2.2.2.1), (iV x.2.2.2.2.2.1)]⟩), (iV x.2.2.2.2.2.2)]⟩) := by
  refine icalls_fn (pfnw ?_);unfold f266 at H;refine R ?_;obtain ⟨y1, h2, H⟩ := obnd_some H;refine (c270 h2).go ?_;refine R ?_;obtain ⟨r3, h4, H⟩ := obnd_some H;refine pw_join (ρ := (List ((List (Int × (List Int) × Int × (List Int)))))) (fun e => ⟨[(4, (pV 0 0)), (6, (VS 1 (y1.map eI))), (7, (VT 1 (e.map e_L4IL1IIL1Ie) 1))], ⟨2, [(1, .tail (e.map e_L4IL1IIL1Ie).length 1), (0, .rw [(iV 0), (iV 0), (iV 0), (iV 0), (iV 0), (iV 0)])], false⟩⟩) r3 ?_ ?_
  · refine R ?_;refine pw_loop (τ := (List ((List (Int × (List Int) × Int × (List Int))))) × Int) (fun e => ⟨[(0, (VS 3 (a0.map e_III))), (4, (pV 0 0)), (6, (VS 1 (y1.map eI))), (7, (VT 1 (e.1.map e_L4IL1IIL1Ie) 1)), (8, (iV e.2))], ⟨2, [(1, .tail (e.1.map e_L4IL1IIL1Ie).length 1), (0, .rw [(iV 0), (iV 0), (iV 0), (iV 0), (iV 0), (iV 0)])], false⟩⟩) h4 ?_ (fun _ => nl rfl) ?_
    · exact (Recast.nilTs 1 (nl rfl) (.same rfl (.same rfl (.same rfl (.turn rfl (.same rfl .nil))))))
    · intro e7 x8 h9;refine pw_seq ?_;refine R ?_;refine pbr_oite h9 (fun g10 h9 => ?_) (fun g10 h9 => ?_)
      · refine R ?_;refine pw_seq ?_;refine R ?_;obtain ⟨r11, h12, h9⟩ := obnd_some h9;refine pw_joinR (ρ := (List (Int × (List Int) × Int × (List Int)))) (fun e => ⟨[(0, (VS 3 (a0.map e_III))), (4, (pV 0 0)), (6, (VS 1 (y1.map eI))), (7, (VT 1 (e7.1.map e_L4IL1IIL1Ie) 1)), (8, (iV e7.2)), (9, (VS 4 (e.map e_IL1IIL1I)))], ⟨3, [(1, .tail (e7.1.map e_L4IL1IIL1Ie).length 1), (0, .rw [(iV 0), (iV 0), (iV 0), (iV 0), (iV 0), (iV 0)])], false⟩⟩) r11 ?_ ?_
        · refine R ?_;refine pw_loop (τ := (List (Int × (List Int) × Int × (List Int))) × Int) (fun e => ⟨[(0, (VS 3 (a0.map e_III))), (4, (pV 0 0)), (6, (VS 1 (y1.map eI))), (7, (VT 1 (e7.1.map e_L4IL1IIL1Ie) 1)), (8, (iV e7.2)), (9, (VT 4 (e.1.map e_IL1IIL1I) 2)), (10, (iV e.2))], ⟨3, [(2, .tail (e.1.map e_IL1IIL1I).length 4), (1, .tail (e7.1.map e_L4IL1IIL1Ie).length 1), (0, .rw [(iV 0), (iV 0), (iV 0), (iV 0), (iV 0), (iV 0)])], false⟩⟩) h12 ?_ (fun _ => nl rfl) ?_
          · exact (Recast.nilTs 4 (nl rfl) (.same rfl (.same rfl (.same rfl (.same rfl (.same rfl (.turn rfl (.same rfl .nil))))))))
          · intro e15 x16 h17;refine pw_seq ?_;refine R ?_;refine pbr_oite h17 (fun g18 h17 => ?_) (fun g18 h17 => ?_)
            · refine R ?_;refine pw_seq ?_;refine R ?_;obtain ⟨r19, h20, h17⟩ := obnd_some h17;refine pw_join (ρ := Int) (fun e => ⟨[(0, (VS 3 (a0.map e_III))), (4, (pV 0 0)), (6, (VS 1 (y1.map eI))), (7, (VT 1 (e7.1.map e_L4IL1IIL1Ie) 1)), (8, (iV e7.2)), (9, (VT 4 (e15.1.map e_IL1IIL1I) 2)), (10, (iV e15.2)), (11, (iV e))], ⟨3, [(2, .tail (e15.1.map e_IL1IIL1I).length 4), (1, .tail (e7.1.map e_L4IL1IIL1Ie).length 1), (0, .rw [(iV 0), (iV 0), (iV 0), (iV 0), (iV 0), (iV 0)])], false⟩⟩) r19 ?_ ?_
              · refine R ?_;refine pw_loop (τ := Int × Int) (fun e => ⟨[(0, (VS 3 (a0.map e_III))), (4, (pV 0 0)), (6, (VS 1 (y1.map eI))), (7, (VT 1 (e7.1.map e_L4IL1IIL1Ie) 1)), (8, (iV e7.2)), (9, (VT 4 (e15.1.map e_IL1IIL1I) 2)), (10, (iV e15.2)), (11, (iV e.1)), (12, (iV e.2))], ⟨3, [(2, .tail (e15.1.map e_IL1IIL1I).length 4), (1, .tail (e7.1.map e_L4IL1IIL1Ie).length 1), (0, .rw [(iV 0), (iV 0), (iV 0), (iV 0), (iV 0), (iV 0)])], false⟩⟩) h20 ?_ (fun _ => nl rfl) ?_
                · exact sb
                · intro e23 x24 h25;refine pw_seq ?_;refine R ?_;refine pbr_oite h25 (fun g26 h25 => ?_) (fun g26 h25 => ?_)
                  · refine R ?_;refine pw_seq ?_;refine R ?_;refine pbr_ogrd h25 (fun g27 h25 => ?_);refine R ?_;refine nth_o (l := a0) h25 (fun x28 _ h25 => ?_);refine R ?_;obtain ⟨y29, h30, h25⟩ := obnd_some h25;refine (c34 h30).go ?_;refine R ?_;refine pbr_oite h25 (fun g31 h25 => ?_) (fun g31 h25 => ?_)
                    · refine R ?_;refine pbr_ogrd h25 (fun g32 h25 => ?_);refine R ?_;refine nth_o (l := y1) h25 (fun x33 _ h25 => ?_);refine R ?_;refine pbr_ogrd h25 (fun g34 h25 => ?_);refine R ?_;refine pbr_ogrd h25 (fun g35 h25 => ?_);refine R ?_;refine nth_o (f := eI) (l := ([y29.1, y29.2.1, y29.2.2.1, y29.2.2.2.1, y29.2.2.2.2] : List Int)) h25 (fun x36 _ h25 => ?_);refine R ?_;refine pbr_ogrd h25 (fun g37 h25 => ?_);refine R ?_;refine nth_o (l := y1) h25 (fun x38 _ h25 => ?_);refine R ?_;refine pbr_ogrd h25 (fun g39 h25 => ?_);refine R ?_;refine pbr_ogrd h25 (fun g40 h25 => ?_)
                      refine R ?_;refine nth_o (f := eI) (l := ([y29.1, y29.2.1, y29.2.2.1, y29.2.2.2.1, y29.2.2.2.2] : List Int)) h25 (fun x41 _ h25 => ?_);refine R ?_;refine aR ?_;refine R ?_;cases h25;refine ⟨_, rfl, ?_⟩;refine Recast.trunc (nl rfl) ?_ ?_
                      · repeat (first | exact .nil | refine .cons rfl (by first | exact OBnd.rwc (nl rfl) rfl | exact OBnd.tail (nl rfl) | trivial) ?_)
                      · repeat (first | exact .nil | refine .cons rfl (by first | exact Bnd.ptr (nl rfl) | exact Bnd.vt (nl rfl) | exact Bnd.cl) ?_)
                    · refine R ?_;refine pbr_ogrd h25 (fun g42 h25 => ?_);refine R ?_;refine nth_o (l := y1) h25 (fun x43 _ h25 => ?_);refine R ?_;refine pbr_ogrd h25 (fun g44 h25 => ?_);refine R ?_;refine pbr_ogrd h25 (fun g45 h25 => ?_);refine R ?_;refine nth_o (f := eI) (l := ([y29.1, y29.2.1, y29.2.2.1, y29.2.2.2.1, y29.2.2.2.2] : List Int)) h25 (fun x46 _ h25 => ?_);refine R ?_;refine nth_o (l := a0) h25 (fun x47 _ h25 => ?_);refine R ?_;refine aR ?_
                      refine R ?_;cases h25;refine ⟨_, rfl, ?_⟩;refine Recast.trunc (nl rfl) ?_ ?_
                      · repeat (first | exact .nil | refine .cons rfl (by first | exact OBnd.rwc (nl rfl) rfl | exact OBnd.tail (nl rfl) | trivial) ?_)
                      · repeat (first | exact .nil | refine .cons rfl (by first | exact Bnd.ptr (nl rfl) | exact Bnd.vt (nl rfl) | exact Bnd.cl) ?_)
                  · refine R ?_;cases h25;refine ⟨_, rfl, ?_⟩;rintro rfl;refine R ?_;exact cr
              · refine R ?_;obtain ⟨y49, h50, h17⟩ := obnd_some h17;refine (c271 h50).go ?_;refine R ?_;refine app_o (l := e15.1) (m := ([(y49.1, y49.2.1, y49.2.2.1, y49.2.2.2)] : List (Int × (List Int) × Int × (List Int)))) (f := e_IL1IIL1I) h17 (by rfl) (by rfl) (by rfl) (fun h17 => ?_);refine R ?_;cases h17;refine ⟨_, rfl, ?_⟩;refine Recast.trunc (nl rfl) ?_ ?_
                · repeat (first | exact .nil | refine .cons rfl (by first | exact OBnd.rwc (nl rfl) rfl | exact OBnd.tail (nl rfl) | trivial) ?_)
                · repeat (first | exact .nil | refine .cons rfl (by first | exact Bnd.ptr (nl rfl) | exact Bnd.vt (nl rfl) | exact Bnd.cl) ?_)
            · refine R ?_;cases h17;refine ⟨_, rfl, ?_⟩;rintro rfl;refine R ?_;exact Recast.fz (fun b => Nat.beq b 2) (nl rfl) (.cons (.same rfl rfl (OBnd.tail (nl rfl))) (.cons (.same rfl rfl (OBnd.rwl (nl rfl) rfl (.cons .cl (.cons .cl (.cons .cl (.cons .cl (.cons .cl (.cons .cl .nil)))))))) .nil)) (.cons rfl (.same _ .cl) (.cons rfl (.same _ (.ptr (nl rfl))) (.cons rfl (.same _ .cl) (.cons rfl (.same _ (.vt (nl rfl))) (.cons rfl (.same _ .cl) (.cons rfl (.vtc) .nil))))))
        · refine R ?_;refine app_o (l := e7.1) (m := ([r11] : List ((List (Int × (List Int) × Int × (List Int)))))) (f := e_L4IL1IIL1Ie) h9 (by rfl) (by rfl) (by rfl) (fun h9 => ?_);refine R ?_;cases h9;refine ⟨_, rfl, ?_⟩;refine Recast.trunc (nl rfl) ?_ ?_
          · repeat (first | exact .nil | refine .cons rfl (by first | exact OBnd.rwc (nl rfl) rfl | exact OBnd.tail (nl rfl) | trivial) ?_)
          · repeat (first | exact .nil | refine .cons rfl (by first | exact Bnd.ptr (nl rfl) | exact Bnd.vt (nl rfl) | exact Bnd.cl) ?_)
      · refine R ?_;cases h9;refine ⟨_, rfl, ?_⟩;rintro rfl;refine R ?_;exact cr
  · refine R ?_;obtain ⟨y53, h54, H⟩ := obnd_some H;refine ICalls.goW (c272 h54) (.cons (.vt _ _ _) .nil) ?_;refine R ?_;refine pw_seq ?_;refine R ?_;refine pbr_oite H (fun g55 H => ?_) (fun g55 H => ?_)
    · refine R ?_;cases H;rfl
    · refine R ?_;obtain ⟨y56, h57, H⟩ := obnd_some H;refine (c273 h57).go ?_;refine R ?_;obtain ⟨r58, h59, H⟩ := obnd_some H;refine pw_join (ρ := Int × (List Int)) (fun e => ⟨[(4, (pV 0 0)), (6, (VS 1 (y1.map eI))), (14, (VS 4 (y53.1.map e_IL1IIL1I))), (16, (pV 2 0))], ⟨3, [(2, .rw [(iV e.1), (VS 1 (e.2.map eI))]), (1, .tail (r3.map e_L4IL1IIL1Ie).length 1), (0, .rw [(iV 0), (iV 0), (iV 0), (iV 0), (iV 0), (iV 0)])], false⟩⟩) r58 ?_ ?_
      · refine R ?_;refine pw_loop (τ := Int × Int × (List Int)) (fun e => ⟨[(4, (pV 0 0)), (6, (VS 1 (y1.map eI))), (14, (VS 4 (y53.1.map e_IL1IIL1I))), (16, (pV 2 0)), (17, (iV e.1))], ⟨3, [(2, .rw [(iV e.2.1), (VS 1 (e.2.2.map eI))]), (1, .tail (r3.map e_L4IL1IIL1Ie).length 1), (0, .rw [(iV 0), (iV 0), (iV 0), (iV 0), (iV 0), (iV 0)])], false⟩⟩) h59 ?_ (fun _ => nl rfl) ?_
        · exact sb
        · intro e62 x63 h64;refine pw_seq ?_;refine R ?_;refine pbr_oite h64 (fun g65 h64 => ?_) (fun g65 h64 => ?_)
          · refine R ?_;refine pw_seq ?_;refine R ?_;refine pbr_ogrd h64 (fun g66 h64 => ?_);refine R ?_;refine nth_o (l := y53.1) h64 (fun x67 _ h64 => ?_);refine R ?_;refine nth_o (l := y53.1) h64 (fun x68 _ h64 => ?_);refine R ?_;obtain ⟨y69, h70, h64⟩ := obnd_some h64;refine (c275 h70).go ?_;refine R ?_;refine aR ?_;refine R ?_;obtain ⟨y71, h72, h64⟩ := obnd_some h64;refine (c274 h72).go ?_
            refine R ?_;refine aR ?_;refine R ?_;refine aR ?_;refine R ?_;cases h64;refine ⟨_, rfl, ?_⟩;exact sb
          · refine R ?_;cases h64;refine ⟨_, rfl, ?_⟩;rintro rfl;refine R ?_;exact cr
      · refine R ?_;obtain ⟨y74, h75, H⟩ := obnd_some H;refine (c276 h75).go ?_;refine R ?_;refine pw_seq ?_;obtain ⟨r76, h77, H⟩ := obnd_some H;refine pw_join (ρ := Bool) (fun e => ⟨[(4, (pV 0 0)), (6, (VS 1 (y1.map eI))), (14, (VS 4 (y53.1.map e_IL1IIL1I))), (18, (pV 3 0)), (19, (iV y74.1)), (132, (.bool e))], ⟨4, [(3, .rw [(iV 0), (iV 0), (iV 0), (iV 0), (iV 0), (iV 0)]), (2, .rw [(iV r58.1), (VS 1 (r58.2.map eI))]), (1, .tail (r3.map e_L4IL1IIL1Ie).length 1), (0, .rw [(iV 0), (iV 0), (iV 0), (iV 0), (iV 0), (iV 0)])], false⟩⟩) r76 ?_ ?_
        · refine R ?_;refine pbr_oite h77 (fun g80 h77 => ?_) (fun g80 h77 => ?_)
          · refine R ?_;cases h77;exact cr
          · refine R ?_;cases h77;exact cr
        · refine R ?_;refine pbr_oite H (fun g81 H => ?_) (fun g81 H => ?_)
          · refine R ?_;cases H;rfl
          · refine R ?_;obtain ⟨r82, h83, h84, h85⟩ := obndS_some H;refine pw_joinS (ρ := Int × Int × Int × Int × Int) (fun e => ⟨[(4, (pV 0 0)), (18, (pV 3 0))], ⟨4, [(3, .rw [(iV y74.1), (iV e.1), (iV e.2.1), (iV e.2.2.1), (iV e.2.2.2.1), (iV e.2.2.2.2)]), (2, .rw [(iV r58.1), (VS 1 (r58.2.map eI))]), (1, .tail (r3.map e_L4IL1IIL1Ie).length 1), (0, .rw [(iV 0), (iV 0), (iV 0), (iV 0), (iV 0), (iV 0)])], false⟩⟩) r82 ?_ ?_
            · refine R ?_;refine pw_loop (τ := Int × Int × Int × Int × Int × Int) (fun e => ⟨[(4, (pV 0 0)), (6, (VS 1 (y1.map eI))), (14, (VS 4 (y53.1.map e_IL1IIL1I))), (18, (pV 3 0)), (19, (iV y74.1)), (21, (iV e.1))], ⟨4, [(3, .rw [(iV y74.1), (iV e.2.1), (iV e.2.2.1), (iV e.2.2.2.1), (iV e.2.2.2.2.1), (iV e.2.2.2.2.2)]), (2, .rw [(iV r58.1), (VS 1 (r58.2.map eI))]), (1, .tail (r3.map e_L4IL1IIL1Ie).length 1), (0, .rw [(iV 0), (iV 0), (iV 0), (iV 0), (iV 0), (iV 0)])], false⟩⟩) h83 ?_ (fun _ => nl rfl) ?_
              · exact sb
              · intro e86 x87 h88;refine pw_seq ?_;refine R ?_;refine pbr_oite h88 (fun g89 h88 => ?_) (fun g89 h88 => ?_)
                · (conv=>whnf);refine pw_skip ?_;(conv=>whnf);refine pw_seq ?_;refine pw_block ?_;obtain ⟨r90, h91, h88⟩ := obnd_some h88;refine pw_join (ρ := Int × (List Int) × Int × (List Int)) (fun e => ⟨[(4, (pV 0 0)), (6, (VS 1 (y1.map eI))), (14, (VS 4 (y53.1.map e_IL1IIL1I))), (18, (pV 3 0)), (19, (iV y74.1)), (21, (iV e86.1)), (22, (pV 4 0))], ⟨5, [(4, .rw [(iV e.1), (VS 1 (e.2.1.map eI)), (iV e.2.2.1), (VS 1 (e.2.2.2.map eI))]), (3, .rw [(iV y74.1), (iV e86.2.1), (iV e86.2.2.1), (iV e86.2.2.2.1), (iV e86.2.2.2.2.1), (iV e86.2.2.2.2.2)]), (2, .rw [(iV r58.1), (VS 1 (r58.2.map eI))]), (1, .tail (r3.map e_L4IL1IIL1Ie).length 1), (0, .rw [(iV 0), (iV 0), (iV 0), (iV 0), (iV 0), (iV 0)])], false⟩⟩) r90 ?_ ?_
                  · refine R ?_;refine pbr_ogrd h91 (fun g94 h91 => ?_);refine R ?_;refine nth_o (l := y53.1) h91 (fun x95 _ h91 => ?_);refine R ?_;refine ⟨?_, ?_⟩
                    · refine R ?_;obtain ⟨y96, h97, h91⟩ := obnd_some h91;refine (c271 h97).go ?_;refine R ?_;refine aR ?_;refine R ?_;refine ⟨?_, ?_⟩
                      · refine R ?_;obtain ⟨y98, h99, h91⟩ := obnd_some h91;refine (c277 h99).go ?_;refine R ?_;refine aR ?_;refine R ?_;refine aR ?_;refine R ?_;refine aR ?_;refine R ?_;cases h91;exact cr
                      · obtain ⟨y98, h99, h91⟩ := obnd_some h91;refine R ?_;refine aR ?_;refine R ?_;refine (c277 h99).go ?_;refine R ?_;refine aR ?_;refine R ?_;refine aR ?_;refine R ?_;cases h91;exact cr
                    · obtain ⟨y96, h97, h91⟩ := obnd_some h91;obtain ⟨y98, h99, h91⟩ := obnd_some h91;refine R ?_;refine aR ?_;refine R ?_;refine (c271 h97).go ?_;refine R ?_;refine aR ?_;refine R ?_;refine (c277 h99).go ?_;refine R ?_;refine aR ?_;refine R ?_;refine aR ?_
                      refine R ?_;cases h91;exact cr
                  · refine R ?_;obtain ⟨y100, h101, h88⟩ := obnd_some h88;refine (c278 h101).go ?_;refine R ?_;obtain ⟨y102, h103, h88⟩ := obnd_some h88;refine (c276 h103).go ?_;refine R ?_;refine pw_seq ?_;obtain ⟨r104, h105, h88⟩ := obnd_some h88;refine pw_join (ρ := Bool) (fun e => ⟨[(4, (pV 0 0)), (6, (VS 1 (y1.map eI))), (14, (VS 4 (y53.1.map e_IL1IIL1I))), (18, (pV 3 0)), (19, (iV y74.1)), (21, (iV e86.1)), (23, (iV y102.1)), (161, (.bool e))], ⟨5, [(4, .rw [(iV r90.1), (VS 1 (r90.2.1.map eI)), (iV r90.2.2.1), (VS 1 (r90.2.2.2.map eI))]), (3, .rw [(iV y74.1), (iV e86.2.1), (iV e86.2.2.1), (iV e86.2.2.2.1), (iV e86.2.2.2.2.1), (iV e86.2.2.2.2.2)]), (2, .rw [(iV r58.1), (VS 1 (r58.2.map eI))]), (1, .tail (r3.map e_L4IL1IIL1Ie).length 1), (0, .rw [(iV 0), (iV 0), (iV 0), (iV 0), (iV 0), (iV 0)])], false⟩⟩) r104 ?_ ?_
                    · refine R ?_;refine pbr_oite h105 (fun g108 h105 => ?_) (fun g108 h105 => ?_)
                      · refine R ?_;cases h105;exact cr
                      · refine R ?_;obtain ⟨y109, h110, h105⟩ := obnd_some h105;refine (c15 h110).go ?_;refine R ?_;cases h105;exact cr
                    · refine R ?_;refine pbr_oite h88 (fun g111 h88 => ?_) (fun g111 h88 => ?_)
                      · refine R ?_;cases h88;refine ⟨_, rfl, ?_⟩;rintro rfl;refine R ?_;obtain rfl := h85 _ rfl;rfl
                      · refine R ?_;refine pbr_ogrd h88 (fun g113 h88 => ?_);refine R ?_;refine nth_o (l := y1) h88 (fun x114 _ h88 => ?_);refine R ?_;refine pbr_ogrd h88 (fun g115 h88 => ?_);refine R ?_;refine pbr_ogrd h88 (fun g116 h88 => ?_);refine R ?_;refine set_d (f := eI) [(iV y74.1)] [] [e86.2.1, e86.2.2.1, e86.2.2.2.1, e86.2.2.2.2.1, e86.2.2.2.2.2] (x := y102.1) (i := x114) (off := 1) rfl rfl rfl g115 g116 rfl ?_;refine R ?_;cases h88;refine ⟨_, rfl, ?_⟩;refine Recast.trunc (nl rfl) ?_ ?_
                        · repeat (first | exact .nil | refine .cons rfl (by first | exact OBnd.rwc (nl rfl) rfl | exact OBnd.tail (nl rfl) | trivial) ?_)
                        · repeat (first | exact .nil | refine .cons rfl (by first | exact Bnd.ptr (nl rfl) | exact Bnd.vt (nl rfl) | exact Bnd.cl) ?_)
                · refine R ?_;cases h88;refine ⟨_, rfl, ?_⟩;rintro rfl;refine R ?_;exact ⟨_, rfl, cr⟩
            · intro r118 hr;have H := h84 _ hr;refine R ?_;cases H;rfl
noncomputable def f180  (a0 : Int) (a1 : Int) (a2 : Int) (a3 : Int) (a4 : Int) (a5 : Int) : Option Int :=
 obnd (f15 a0 (1 : Int) (1000000000000 : Int)) fun (y1 : Bool) =>
 oite (!y1) (
 some (2 : Int)
 ) (
 obndS (
 obnd (f15 a1 (-1000000000000 : Int) (1000000000000 : Int)) fun (y8 : Bool) =>
 oite (!y8) (
 some (.inr ((2 : Int)))
 ) (
 obnd (f15 a2 (-1000000000000 : Int) (1000000000000 : Int)) fun (y11 : Bool) =>
 oite (!y11) (
 some (.inr ((2 : Int)))
 ) (
 obnd (f15 a3 (-1000000000000 : Int) (1000000000000 : Int)) fun (y14 : Bool) =>
 oite (!y14) (
 some (.inr ((2 : Int)))
 ) (
 obnd (f15 a4 (-1000000000000 : Int) (1000000000000 : Int)) fun (y17 : Bool) =>
 oite (!y17) (
 some (.inr ((2 : Int)))
 ) (
 obnd (f15 a5 (-1000000000000 : Int) (1000000000000 : Int)) fun (y20 : Bool) =>
 oite (!y20) (
 some (.inr ((2 : Int)))
 ) (
 some (.inl ()))))))
 ) fun (_ : Unit) =>
 some (0 : Int))
theorem c180  {a0 : Int} {a1 : Int} {a2 : Int} {a3 : Int} {a4 : Int} {a5 : Int} {x : Int} (H : f180 a0 a1 a2 a3 a4 a5 = some x) : ICalls E 180 [(.agg ⟨[(iV a0), (iV a1), (iV a2), (iV a3), (iV a4), (iV a5)]⟩)] AHeap.none fun v _ => v = (iV x) := by
 refine icalls_fn (pfnw ?_);unfold f180 at H;refine R ?_;refine pw_seq ?_;refine R ?_;obtain ⟨y1, h2, H⟩ := obnd_some H;refine (c15 h2).go ?_;refine R ?_;refine pbr_oite H (fun g3 H => ?_) (fun g3 H => ?_)
 · refine R ?_;cases H;rfl
 · refine R ?_;obtain ⟨r4, h5, h6, h7⟩ := obndS_some H;refine pw_joinS (ρ := Unit) (fun e => ⟨[], ⟨1, [(0, .rw [(iV a0), (iV a1), (iV a2), (iV a3), (iV a4), (iV a5)])], false⟩⟩) r4 ?_ ?_
   · refine R ?_;refine pw_unroll 6 ?_;refine R ?_;refine pw_seq ?_;refine R ?_;refine pw_seq ?_;refine R ?_;obtain ⟨y8, h9, h5⟩ := obnd_some h5;refine (c15 h9).go ?_;refine R ?_;refine pbr_oite h5 (fun g10 h5 => ?_) (fun g10 h5 => ?_)
     · refine R ?_;cases h5;obtain rfl := h7 _ rfl;rfl
     · refine R ?_;refine ⟨_, .refl, nl rfl, ?_⟩;refine R ?_;refine pw_seq ?_;refine R ?_;refine pw_seq ?_;refine R ?_;obtain ⟨y11, h12, h5⟩ := obnd_some h5;refine (c15 h12).go ?_;refine R ?_;refine pbr_oite h5 (fun g13 h5 => ?_) (fun g13 h5 => ?_)
       · refine R ?_;cases h5;obtain rfl := h7 _ rfl;rfl
       · refine R ?_;refine ⟨_, .refl, nl rfl, ?_⟩;refine R ?_;refine pw_seq ?_;refine R ?_;refine pw_seq ?_;refine R ?_;obtain ⟨y14, h15, h5⟩ := obnd_some h5;refine (c15 h15).go ?_;refine R ?_;refine pbr_oite h5 (fun g16 h5 => ?_) (fun g16 h5 => ?_)
         · refine R ?_;cases h5;obtain rfl := h7 _ rfl;rfl
         · refine R ?_;refine ⟨_, .refl, nl rfl, ?_⟩;refine R ?_;refine pw_seq ?_;refine R ?_;refine pw_seq ?_;refine R ?_;obtain ⟨y17, h18, h5⟩ := obnd_some h5;refine (c15 h18).go ?_;refine R ?_;refine pbr_oite h5 (fun g19 h5 => ?_) (fun g19 h5 => ?_)
           · refine R ?_;cases h5;obtain rfl := h7 _ rfl;rfl
           · refine R ?_;refine ⟨_, .refl, nl rfl, ?_⟩;refine R ?_;refine pw_seq ?_;refine R ?_;refine pw_seq ?_;refine R ?_;obtain ⟨y20, h21, h5⟩ := obnd_some h5;refine (c15 h21).go ?_;refine R ?_;refine pbr_oite h5 (fun g22 h5 => ?_) (fun g22 h5 => ?_)
             · refine R ?_;cases h5;obtain rfl := h7 _ rfl;rfl
             · refine R ?_;refine ⟨_, .refl, nl rfl, ?_⟩;refine R ?_;refine pw_seq ?_;refine R ?_;cases h5;exact ⟨_, rfl, cr⟩
   · intro r23 hr;have H := h6 _ hr;refine R ?_;cases H;rfl
noncomputable def f279 [LO]  (a0 : Int) (a1 : Int) : Option Int :=
 obnd (
 oloop (τ := Int × Int) (ρ := Int) (fun e5 =>
 oite ((!(ieq e5.2 (0 : Int)))) (
 ogrd (!((ieq e5.2 0))) (
 some (.inl (e5.2, (e5.1.tmod e5.2))))
 ) (
 some (.inr (e5.1)))
 ) (a0, a1)
 ) fun (r1 : Int) =>
 obnd (f109 r1) fun (y11 : Int) =>
 some y11
theorem c279 [LO]  {a0 : Int} {a1 : Int} {x : Int} (H : f279 a0 a1 = some x) : ICalls E 279 [(iV a0), (iV a1)] AHeap.none fun v _ => v = (iV x) := by
 refine icalls_fn (pfnw ?_);unfold f279 at H;refine R ?_;obtain ⟨r1, h2, H⟩ := obnd_some H;refine pw_join (ρ := Int) (fun e => ⟨[(0, (iV e))], ⟨0, [], false⟩⟩) r1 ?_ ?_
 · refine R ?_;refine pw_loop (τ := Int × Int) (fun e => ⟨[(0, (iV e.1)), (1, (iV e.2))], ⟨0, [], false⟩⟩) h2 ?_ (fun _ => nl rfl) ?_
   · exact sb
   · intro e5 x6 h7;refine pw_seq ?_;refine R ?_;refine pbr_oite h7 (fun g8 h7 => ?_) (fun g8 h7 => ?_)
     · refine R ?_;refine pbr_ogrdn h7 (fun g9 h7 => ?_);refine R ?_;refine aR ?_;refine R ?_;refine aR ?_;refine R ?_;cases h7;refine ⟨_, rfl, ?_⟩;exact sb
     · refine R ?_;cases h7;refine ⟨_, rfl, ?_⟩;rintro rfl;refine R ?_;exact cr
 · refine R ?_;obtain ⟨y11, h12, H⟩ := obnd_some H;refine (c109 h12).go ?_;refine R ?_;cases H;rfl
noncomputable def f192  (a0 : Int) (a1 : Int) (a2 : Int) (a3 : Int) (a4 : Int) (a5 : Int) (a6 : Int) (a7 : Int) (a8 : Int) : Option Int :=
 obnd (f34 a6 a7 a8) fun (y1 : Int × Int × Int × Int × Int) =>
 obnd (
 some ()
 ) fun (_ : Unit) =>
 some (IntKind.i64.wrap ((IntKind.i64.wrap ((IntKind.i64.wrap ((IntKind.i64.wrap ((IntKind.i64.wrap ((IntKind.i64.wrap (a0 * a8)) - (IntKind.i64.wrap (a1 * y1.1)))) - (IntKind.i64.wrap (a2 * y1.2.1)))) - (IntKind.i64.wrap (a3 * y1.2.2.1)))) - (IntKind.i64.wrap (a4 * y1.2.2.2.1)))) - (IntKind.i64.wrap (a5 * y1.2.2.2.2))))
theorem c192  {a0 : Int} {a1 : Int} {a2 : Int} {a3 : Int} {a4 : Int} {a5 : Int} {a6 : Int} {a7 : Int} {a8 : Int} {x : Int} (H : f192 a0 a1 a2 a3 a4 a5 a6 a7 a8 = some x) : ICalls E 192 [(.agg ⟨[(iV a0), (iV a1), (iV a2), (iV a3), (iV a4), (iV a5)]⟩), (.agg ⟨[(iV a6), (iV a7), (iV a8)]⟩)] AHeap.none fun v _ => v = (iV x) := by
 refine icalls_fn (pfnw ?_);unfold f192 at H;refine R ?_;obtain ⟨y1, h2, H⟩ := obnd_some H;refine (c34 h2).go ?_;refine R ?_;obtain ⟨r3, h4, H⟩ := obnd_some H;refine pw_join (ρ := Unit) (fun e => ⟨[(6, (iV (IntKind.i64.wrap ((IntKind.i64.wrap ((IntKind.i64.wrap ((IntKind.i64.wrap ((IntKind.i64.wrap ((IntKind.i64.wrap (a0 * a8)) - (IntKind.i64.wrap (a1 * y1.1)))) - (IntKind.i64.wrap (a2 * y1.2.1)))) - (IntKind.i64.wrap (a3 * y1.2.2.1)))) - (IntKind.i64.wrap (a4 * y1.2.2.2.1)))) - (IntKind.i64.wrap (a5 * y1.2.2.2.2))))))], ⟨3, [(2, .rw [(iV y1.1), (iV y1.2.1), (iV y1.2.2.1), (iV y1.2.2.2.1), (iV y1.2.2.2.2)]), (1, .rw [(iV a6), (iV a7), (iV a8)]), (0, .rw [(iV a0), (iV a1), (iV a2), (iV a3), (iV a4), (iV a5)])], false⟩⟩) r3 ?_ ?_
 · refine R ?_;refine pw_unroll 6 ?_;refine R ?_;refine pw_seq ?_;refine R ?_;refine pw_seq ?_;refine R ?_;refine aR ?_;refine R ?_;refine ⟨_, .refl, nl rfl, ?_⟩;refine R ?_;refine pw_seq ?_;refine R ?_
   refine R ?_;refine pw_seq ?_;refine R ?_;refine aR ?_;refine R ?_;refine ⟨_, .refl, nl rfl, ?_⟩;refine R ?_;refine pw_seq ?_;refine R ?_;refine pw_seq ?_;refine R ?_;refine aR ?_
   refine R ?_;refine ⟨_, .refl, nl rfl, ?_⟩;refine R ?_;refine pw_seq ?_;refine R ?_;refine pw_seq ?_;refine R ?_;refine aR ?_;refine R ?_;refine ⟨_, .refl, nl rfl, ?_⟩;refine R ?_;refine pw_seq ?_;refine R ?_
   refine R ?_;refine pw_seq ?_;refine R ?_;refine aR ?_;refine R ?_;refine ⟨_, .refl, nl rfl, ?_⟩;refine R ?_;refine pw_seq ?_;refine R ?_;cases h4;exact cr
 · refine R ?_;cases H;rfl
noncomputable def f267 [LO]  (a0 : List (Int × Int × Int)) (a1 : Int) (a2 : Int) (a3 : Int) (a4 : Int) (a5 : Int) (a6 : Int) (a7 : Int) : Option (Int × Int) :=
 obnd (f180 a2 a3 a4 a5 a6 a7) fun (y1 : Int) =>
 oite ((!(ieq y1 (0 : Int)))) (
 some ((0 : Int), y1)
 ) (
 obndS (
 obnd (
 oite ((ieq (IntKind.i64.wrap (BitVec.ofInt (IntKind.bits .i64) (a1.fdiv (2 ^ (min (0 : Int).toNat (IntKind.bits .i64)))) &&& BitVec.ofInt (IntKind.bits .i64) (1 : Int)).toNat) (0 : Int))) (
 some (!(ieq a3 (0 : Int)))
 ) (
 some false)
 ) fun (r8 : Bool) =>
 oite r8 (
 some (.inr (((0 : Int), (3 : Int))))
 ) (
 obnd (f279 a2 a3) fun (y14 : Int) =>
 obnd (
 oite ((ieq (IntKind.i64.wrap (BitVec.ofInt (IntKind.bits .i64) (a1.fdiv (2 ^ (min (1 : Int).toNat (IntKind.bits .i64)))) &&& BitVec.ofInt (IntKind.bits .i64) (1 : Int)).toNat) (0 : Int))) (
 some (!(ieq a4 (0 : Int)))
 ) (
 some false)
 ) fun (r16 : Bool) =>
 oite r16 (
 some (.inr (((1 : Int), (3 : Int))))
 ) (
 obnd (f279 y14 a4) fun (y22 : Int) =>
 obnd (
 oite ((ieq (IntKind.i64.wrap (BitVec.ofInt (IntKind.bits .i64) (a1.fdiv (2 ^ (min (2 : Int).toNat (IntKind.bits .i64)))) &&& BitVec.ofInt (IntKind.bits .i64) (1 : Int)).toNat) (0 : Int))) (
 some (!(ieq a5 (0 : Int)))
 ) (
 some false)
 ) fun (r24 : Bool) =>
 oite r24 (
 some (.inr (((2 : Int), (3 : Int))))
 ) (
 obnd (f279 y22 a5) fun (y30 : Int) =>
 obnd (
 oite ((ieq (IntKind.i64.wrap (BitVec.ofInt (IntKind.bits .i64) (a1.fdiv (2 ^ (min (3 : Int).toNat (IntKind.bits .i64)))) &&& BitVec.ofInt (IntKind.bits .i64) (1 : Int)).toNat) (0 : Int))) (
 some (!(ieq a6 (0 : Int)))
 ) (
 some false)
 ) fun (r32 : Bool) =>
 oite r32 (
 some (.inr (((3 : Int), (3 : Int))))
 ) (
 obnd (f279 y30 a6) fun (y38 : Int) =>
 obnd (
 oite ((ieq (IntKind.i64.wrap (BitVec.ofInt (IntKind.bits .i64) (a1.fdiv (2 ^ (min (4 : Int).toNat (IntKind.bits .i64)))) &&& BitVec.ofInt (IntKind.bits .i64) (1 : Int)).toNat) (0 : Int))) (
 some (!(ieq a7 (0 : Int)))
 ) (
 some false)
 ) fun (r40 : Bool) =>
 oite r40 (
 some (.inr (((4 : Int), (3 : Int))))
 ) (
 obnd (f279 y38 a7) fun (y46 : Int) =>
 some (.inl y46))))))
 ) fun (r48 : Int) =>
 oite ((!(ieq r48 (1 : Int)))) (
 some ((0 : Int), (3 : Int))
 ) (
 obndS (
 obndS (
 obnd (
 oloop (τ := Int × Int) (ρ := Int) (fun e62 =>
 oite ((ilt e62.2 ((a0.map e_III).length : Int))) (
 ogrd ((ile 0 e62.2)) (
 obnd (a0[e62.2.toNat]?) fun (x67 : Int × Int × Int) =>
 obnd (a0[e62.2.toNat]?) fun (x68 : Int × Int × Int) =>
 obnd (f34 x67.1 x67.2.1 x67.2.2) fun (y69 : Int × Int × Int × Int × Int) =>
 obnd (f192 a2 a3 a4 a5 a6 a7 x68.1 x68.2.1 x68.2.2) fun (y71 : Int) =>
 some (.inl (((IntKind.i64.wrap (e62.1 + (IntKind.i64.wrap (y69.1 * y71)))), (IntKind.i64.wrap (e62.2 + (1 : Int)))))))
 ) (
 some (.inr (e62.1)))
 ) (((0 : Int), (0 : Int)))
 ) fun (r58 : Int) =>
 obnd (
 oite ((ieq (IntKind.i64.wrap (BitVec.ofInt (IntKind.bits .i64) (a1.fdiv (2 ^ (min (0 : Int).toNat (IntKind.bits .i64)))) &&& BitVec.ofInt (IntKind.bits .i64) (1 : Int)).toNat) (1 : Int))) (
 some (!(ieq r58 (0 : Int)))
 ) (
 some false)
 ) fun (r74 : Bool) =>
 oite r74 (
 some (.inr (.inr (((0 : Int), (19 : Int)))))
 ) (
 some (.inl ()))
 ) fun (_ : Unit) =>
 obndS (
 obnd (
 oloop (τ := Int × Int) (ρ := Int) (fun e89 =>
 oite ((ilt e89.2 ((a0.map e_III).length : Int))) (
 ogrd ((ile 0 e89.2)) (
 obnd (a0[e89.2.toNat]?) fun (x94 : Int × Int × Int) =>
 obnd (a0[e89.2.toNat]?) fun (x95 : Int × Int × Int) =>
 obnd (f34 x94.1 x94.2.1 x94.2.2) fun (y96 : Int × Int × Int × Int × Int) =>
 obnd (f192 a2 a3 a4 a5 a6 a7 x95.1 x95.2.1 x95.2.2) fun (y98 : Int) =>
 some (.inl (((IntKind.i64.wrap (e89.1 + (IntKind.i64.wrap (y96.2.1 * y98)))), (IntKind.i64.wrap (e89.2 + (1 : Int)))))))
 ) (
 some (.inr (e89.1)))
 ) (((0 : Int), (0 : Int)))
 ) fun (r85 : Int) =>
 obnd (
 oite ((ieq (IntKind.i64.wrap (BitVec.ofInt (IntKind.bits .i64) (a1.fdiv (2 ^ (min (1 : Int).toNat (IntKind.bits .i64)))) &&& BitVec.ofInt (IntKind.bits .i64) (1 : Int)).toNat) (1 : Int))) (
 some (!(ieq r85 (0 : Int)))
 ) (
 some false)
 ) fun (r101 : Bool) =>
 oite r101 (
 some (.inr (.inr (((1 : Int), (19 : Int)))))
 ) (
 some (.inl ()))
 ) fun (_ : Unit) =>
 obndS (
 obnd (
 oloop (τ := Int × Int) (ρ := Int) (fun e116 =>
 oite ((ilt e116.2 ((a0.map e_III).length : Int))) (
 ogrd ((ile 0 e116.2)) (
 obnd (a0[e116.2.toNat]?) fun (x121 : Int × Int × Int) =>
 obnd (a0[e116.2.toNat]?) fun (x122 : Int × Int × Int) =>
 obnd (f34 x121.1 x121.2.1 x121.2.2) fun (y123 : Int × Int × Int × Int × Int) =>
 obnd (f192 a2 a3 a4 a5 a6 a7 x122.1 x122.2.1 x122.2.2) fun (y125 : Int) =>
 some (.inl (((IntKind.i64.wrap (e116.1 + (IntKind.i64.wrap (y123.2.2.1 * y125)))), (IntKind.i64.wrap (e116.2 + (1 : Int)))))))
 ) (
 some (.inr (e116.1)))
 ) (((0 : Int), (0 : Int)))
 ) fun (r112 : Int) =>
 obnd (
 oite ((ieq (IntKind.i64.wrap (BitVec.ofInt (IntKind.bits .i64) (a1.fdiv (2 ^ (min (2 : Int).toNat (IntKind.bits .i64)))) &&& BitVec.ofInt (IntKind.bits .i64) (1 : Int)).toNat) (1 : Int))) (
 some (!(ieq r112 (0 : Int)))
 ) (
 some false)
 ) fun (r128 : Bool) =>
 oite r128 (
 some (.inr (.inr (((2 : Int), (19 : Int)))))
 ) (
 some (.inl ()))
 ) fun (_ : Unit) =>
 obndS (
 obnd (
 oloop (τ := Int × Int) (ρ := Int) (fun e143 =>
 oite ((ilt e143.2 ((a0.map e_III).length : Int))) (
 ogrd ((ile 0 e143.2)) (
 obnd (a0[e143.2.toNat]?) fun (x148 : Int × Int × Int) =>
 obnd (a0[e143.2.toNat]?) fun (x149 : Int × Int × Int) =>
 obnd (f34 x148.1 x148.2.1 x148.2.2) fun (y150 : Int × Int × Int × Int × Int) =>
 obnd (f192 a2 a3 a4 a5 a6 a7 x149.1 x149.2.1 x149.2.2) fun (y152 : Int) =>
 some (.inl (((IntKind.i64.wrap (e143.1 + (IntKind.i64.wrap (y150.2.2.2.1 * y152)))), (IntKind.i64.wrap (e143.2 + (1 : Int)))))))
 ) (
 some (.inr (e143.1)))
 ) (((0 : Int), (0 : Int)))
 ) fun (r139 : Int) =>
 obnd (
 oite ((ieq (IntKind.i64.wrap (BitVec.ofInt (IntKind.bits .i64) (a1.fdiv (2 ^ (min (3 : Int).toNat (IntKind.bits .i64)))) &&& BitVec.ofInt (IntKind.bits .i64) (1 : Int)).toNat) (1 : Int))) (
 some (!(ieq r139 (0 : Int)))
 ) (
 some false)
 ) fun (r155 : Bool) =>
 oite r155 (
 some (.inr (.inr (((3 : Int), (19 : Int)))))
 ) (
 some (.inl ()))
 ) fun (_ : Unit) =>
 obndS (
 obnd (
 oloop (τ := Int × Int) (ρ := Int) (fun e170 =>
 oite ((ilt e170.2 ((a0.map e_III).length : Int))) (
 ogrd ((ile 0 e170.2)) (
 obnd (a0[e170.2.toNat]?) fun (x175 : Int × Int × Int) =>
 obnd (a0[e170.2.toNat]?) fun (x176 : Int × Int × Int) =>
 obnd (f34 x175.1 x175.2.1 x175.2.2) fun (y177 : Int × Int × Int × Int × Int) =>
 obnd (f192 a2 a3 a4 a5 a6 a7 x176.1 x176.2.1 x176.2.2) fun (y179 : Int) =>
 some (.inl (((IntKind.i64.wrap (e170.1 + (IntKind.i64.wrap (y177.2.2.2.2 * y179)))), (IntKind.i64.wrap (e170.2 + (1 : Int)))))))
 ) (
 some (.inr (e170.1)))
 ) (((0 : Int), (0 : Int)))
 ) fun (r166 : Int) =>
 obnd (
 oite ((ieq (IntKind.i64.wrap (BitVec.ofInt (IntKind.bits .i64) (a1.fdiv (2 ^ (min (4 : Int).toNat (IntKind.bits .i64)))) &&& BitVec.ofInt (IntKind.bits .i64) (1 : Int)).toNat) (1 : Int))) (
 some (!(ieq r166 (0 : Int)))
 ) (
 some false)
 ) fun (r182 : Bool) =>
 oite r182 (
 some (.inr (.inr (((4 : Int), (19 : Int)))))
 ) (
 some (.inl ()))
 ) fun (_ : Unit) =>
 some (.inl ())
 ) fun (_ : Unit) =>
 some ((0 : Int), (0 : Int))))
theorem c267 [LO]  {a0 : List (Int × Int × Int)} {a1 : Int} {a2 : Int} {a3 : Int} {a4 : Int} {a5 : Int} {a6 : Int} {a7 : Int} {x : Int × Int} (H : f267 a0 a1 a2 a3 a4 a5 a6 a7 = some x) : ICalls E 267 [(VS 3 (a0.map e_III)), (iV a1), (.agg ⟨[(iV a2), (iV a3), (iV a4), (iV a5), (iV a6), (iV a7)]⟩)] AHeap.none fun v _ => v = (.tuple ⟨[(iV x.1), (iV x.2)]⟩) := by
  refine icalls_fn (pfnw ?_);unfold f267 at H;refine R ?_;refine pw_seq ?_;refine R ?_;obtain ⟨y1, h2, H⟩ := obnd_some H;refine (c180 h2).go ?_;refine R ?_;refine pbr_oite H (fun g3 H => ?_) (fun g3 H => ?_)
  · refine R ?_;cases H;rfl
  · refine R ?_;obtain ⟨r4, h5, h6, h7⟩ := obndS_some H;refine pw_joinS (ρ := Int) (fun e => ⟨[(0, (VS 3 (a0.map e_III))), (1, (iV a1)), (5, (pV 0 0)), (9, (iV e))], ⟨1, [(0, .rw [(iV a2), (iV a3), (iV a4), (iV a5), (iV a6), (iV a7)])], false⟩⟩) r4 ?_ ?_
    · refine R ?_;refine pw_unroll 6 ?_;refine R ?_;refine pw_seq ?_;refine R ?_;refine pw_seq ?_;refine R ?_;refine pw_seq ?_;obtain ⟨r8, h9, h5⟩ := obnd_some h5;refine pw_join (ρ := Bool) (fun e => ⟨[(0, (VS 3 (a0.map e_III))), (1, (iV a1)), (5, (pV 0 0)), (9, (iV a2)), (10, (iV 0)), (36, (.bool e))], ⟨1, [(0, .rw [(iV a2), (iV a3), (iV a4), (iV a5), (iV a6), (iV a7)])], false⟩⟩) r8 ?_ ?_
      · refine R ?_;refine pbr_oite h9 (fun g12 h9 => ?_) (fun g12 h9 => ?_)
        · refine R ?_;cases h9;exact cr
        · refine R ?_;cases h9;exact cr
      · refine R ?_;refine pbr_oite h5 (fun g13 h5 => ?_) (fun g13 h5 => ?_)
        · refine R ?_;cases h5;obtain rfl := h7 _ rfl;rfl
        · refine R ?_;obtain ⟨y14, h15, h5⟩ := obnd_some h5;refine (c279 h15).go ?_;refine R ?_;refine ⟨_, .refl, nl rfl, ?_⟩;refine R ?_;refine pw_seq ?_;refine R ?_;refine pw_seq ?_;refine R ?_;refine pw_seq ?_;obtain ⟨r16, h17, h5⟩ := obnd_some h5;refine pw_join (ρ := Bool) (fun e => ⟨[(0, (VS 3 (a0.map e_III))), (1, (iV a1)), (5, (pV 0 0)), (9, (iV y14)), (10, (iV 1)), (36, (.bool e))], ⟨1, [(0, .rw [(iV a2), (iV a3), (iV a4), (iV a5), (iV a6), (iV a7)])], false⟩⟩) r16 ?_ ?_
          · refine R ?_;refine pbr_oite h17 (fun g20 h17 => ?_) (fun g20 h17 => ?_)
            · refine R ?_;cases h17;exact cr
            · refine R ?_;cases h17;exact cr
          · refine R ?_;refine pbr_oite h5 (fun g21 h5 => ?_) (fun g21 h5 => ?_)
            · refine R ?_;cases h5;obtain rfl := h7 _ rfl;rfl
            · refine R ?_;obtain ⟨y22, h23, h5⟩ := obnd_some h5;refine (c279 h23).go ?_;refine R ?_;refine ⟨_, .refl, nl rfl, ?_⟩;refine R ?_;refine pw_seq ?_;refine R ?_;refine pw_seq ?_;refine R ?_;refine pw_seq ?_;obtain ⟨r24, h25, h5⟩ := obnd_some h5;refine pw_join (ρ := Bool) (fun e => ⟨[(0, (VS 3 (a0.map e_III))), (1, (iV a1)), (5, (pV 0 0)), (9, (iV y22)), (10, (iV 2)), (36, (.bool e))], ⟨1, [(0, .rw [(iV a2), (iV a3), (iV a4), (iV a5), (iV a6), (iV a7)])], false⟩⟩) r24 ?_ ?_
              · refine R ?_;refine pbr_oite h25 (fun g28 h25 => ?_) (fun g28 h25 => ?_)
                · refine R ?_;cases h25;exact cr
                · refine R ?_;cases h25;exact cr
              · refine R ?_;refine pbr_oite h5 (fun g29 h5 => ?_) (fun g29 h5 => ?_)
                · refine R ?_;cases h5;obtain rfl := h7 _ rfl;rfl
                · refine R ?_;obtain ⟨y30, h31, h5⟩ := obnd_some h5;refine (c279 h31).go ?_;refine R ?_;refine ⟨_, .refl, nl rfl, ?_⟩;refine R ?_;refine pw_seq ?_;refine R ?_;refine pw_seq ?_;refine R ?_;refine pw_seq ?_;obtain ⟨r32, h33, h5⟩ := obnd_some h5;refine pw_join (ρ := Bool) (fun e => ⟨[(0, (VS 3 (a0.map e_III))), (1, (iV a1)), (5, (pV 0 0)), (9, (iV y30)), (10, (iV 3)), (36, (.bool e))], ⟨1, [(0, .rw [(iV a2), (iV a3), (iV a4), (iV a5), (iV a6), (iV a7)])], false⟩⟩) r32 ?_ ?_
                  · refine R ?_;refine pbr_oite h33 (fun g36 h33 => ?_) (fun g36 h33 => ?_)
                    · refine R ?_;cases h33;exact cr
                    · refine R ?_;cases h33;exact cr
                  · refine R ?_;refine pbr_oite h5 (fun g37 h5 => ?_) (fun g37 h5 => ?_)
                    · refine R ?_;cases h5;obtain rfl := h7 _ rfl;rfl
                    · refine R ?_;obtain ⟨y38, h39, h5⟩ := obnd_some h5;refine (c279 h39).go ?_;refine R ?_;refine ⟨_, .refl, nl rfl, ?_⟩;refine R ?_;refine pw_seq ?_;refine R ?_;refine pw_seq ?_;refine R ?_;refine pw_seq ?_;obtain ⟨r40, h41, h5⟩ := obnd_some h5;refine pw_join (ρ := Bool) (fun e => ⟨[(0, (VS 3 (a0.map e_III))), (1, (iV a1)), (5, (pV 0 0)), (9, (iV y38)), (10, (iV 4)), (36, (.bool e))], ⟨1, [(0, .rw [(iV a2), (iV a3), (iV a4), (iV a5), (iV a6), (iV a7)])], false⟩⟩) r40 ?_ ?_
                      · refine R ?_;refine pbr_oite h41 (fun g44 h41 => ?_) (fun g44 h41 => ?_)
                        · refine R ?_;cases h41;exact cr
                        · refine R ?_;cases h41;exact cr
                      · refine R ?_;refine pbr_oite h5 (fun g45 h5 => ?_) (fun g45 h5 => ?_)
                        · refine R ?_;cases h5;obtain rfl := h7 _ rfl;rfl
                        · refine R ?_;obtain ⟨y46, h47, h5⟩ := obnd_some h5;refine (c279 h47).go ?_;refine R ?_;refine ⟨_, .refl, nl rfl, ?_⟩;refine R ?_;refine pw_seq ?_;refine R ?_;cases h5;exact ⟨_, rfl, cr⟩
    · intro r48 hr;have H := h6 _ hr;refine pw_seq ?_;refine R ?_;refine pbr_oite H (fun g49 H => ?_) (fun g49 H => ?_)
      · refine R ?_;cases H;rfl
      · refine R ?_;obtain ⟨r50, h51, h52, h53⟩ := obndS_some H;refine pw_joinS (ρ := Unit) (fun e => ⟨[], ⟨1, [(0, .rw [(iV a2), (iV a3), (iV a4), (iV a5), (iV a6), (iV a7)])], false⟩⟩) r50 ?_ ?_
        · refine R ?_;refine pw_unroll 6 ?_;refine R ?_;refine pw_seq ?_;refine R ?_;obtain ⟨r54, h55, h56, h57⟩ := obndS_some h51;refine pw_joinS (ρ := Unit) (fun e => ⟨[(0, (VS 3 (a0.map e_III))), (1, (iV a1)), (5, (pV 0 0)), (11, (iV 0))], ⟨1, [(0, .rw [(iV a2), (iV a3), (iV a4), (iV a5), (iV a6), (iV a7)])], false⟩⟩) r54 ?_ ?_
          · refine R ?_;obtain ⟨r58, h59, h55⟩ := obnd_some h55;refine pw_join (ρ := Int) (fun e => ⟨[(0, (VS 3 (a0.map e_III))), (1, (iV a1)), (5, (pV 0 0)), (11, (iV 0)), (12, (iV e))], ⟨1, [(0, .rw [(iV a2), (iV a3), (iV a4), (iV a5), (iV a6), (iV a7)])], false⟩⟩) r58 ?_ ?_
            · refine R ?_;refine pw_loop (τ := Int × Int) (fun e => ⟨[(0, (VS 3 (a0.map e_III))), (1, (iV a1)), (5, (pV 0 0)), (11, (iV 0)), (12, (iV e.1)), (13, (iV e.2))], ⟨1, [(0, .rw [(iV a2), (iV a3), (iV a4), (iV a5), (iV a6), (iV a7)])], false⟩⟩) h59 ?_ (fun _ => nl rfl) ?_
              · exact sb
              · intro e62 x63 h64;refine pw_seq ?_;refine R ?_;refine pbr_oite h64 (fun g65 h64 => ?_) (fun g65 h64 => ?_)
                · refine R ?_;refine pw_seq ?_;refine R ?_;refine pbr_ogrd h64 (fun g66 h64 => ?_);refine R ?_;refine nth_o (l := a0) h64 (fun x67 _ h64 => ?_);refine R ?_;refine nth_o (l := a0) h64 (fun x68 _ h64 => ?_);refine R ?_;obtain ⟨y69, h70, h64⟩ := obnd_some h64;refine (c34 h70).go ?_;refine R ?_;refine aR ?_;refine R ?_;obtain ⟨y71, h72, h64⟩ := obnd_some h64;refine (c192 h72).go ?_
                  refine R ?_;refine aR ?_;refine R ?_;refine aR ?_;refine R ?_;cases h64;refine ⟨_, rfl, ?_⟩;exact sb
                · refine R ?_;cases h64;refine ⟨_, rfl, ?_⟩;rintro rfl;refine R ?_;exact cr
            · obtain ⟨r74, h75, h55⟩ := obnd_some h55;refine pw_join (ρ := Bool) (fun e => ⟨[(0, (VS 3 (a0.map e_III))), (1, (iV a1)), (5, (pV 0 0)), (11, (iV 0)), (80, (.bool e))], ⟨1, [(0, .rw [(iV a2), (iV a3), (iV a4), (iV a5), (iV a6), (iV a7)])], false⟩⟩) r74 ?_ ?_
              · refine R ?_;refine pbr_oite h75 (fun g78 h75 => ?_) (fun g78 h75 => ?_)
                · refine R ?_;cases h75;exact cr
                · refine R ?_;cases h75;exact cr
              · refine R ?_;refine pbr_oite h55 (fun g79 h55 => ?_) (fun g79 h55 => ?_)
                · refine R ?_;cases h55;obtain rfl := h57 _ rfl;obtain rfl := h53 _ rfl;rfl
                · refine R ?_;cases h55;exact ⟨_, rfl, cr⟩
          · intro r80 hr;have h51 := h56 _ hr;refine R ?_;refine ⟨_, .refl, nl rfl, ?_⟩;refine R ?_;refine pw_seq ?_;refine R ?_;obtain ⟨r81, h82, h83, h84⟩ := obndS_some h51;refine pw_joinS (ρ := Unit) (fun e => ⟨[(0, (VS 3 (a0.map e_III))), (1, (iV a1)), (5, (pV 0 0)), (11, (iV 1))], ⟨1, [(0, .rw [(iV a2), (iV a3), (iV a4), (iV a5), (iV a6), (iV a7)])], false⟩⟩) r81 ?_ ?_
            · refine R ?_;obtain ⟨r85, h86, h82⟩ := obnd_some h82;refine pw_join (ρ := Int) (fun e => ⟨[(0, (VS 3 (a0.map e_III))), (1, (iV a1)), (5, (pV 0 0)), (11, (iV 1)), (12, (iV e))], ⟨1, [(0, .rw [(iV a2), (iV a3), (iV a4), (iV a5), (iV a6), (iV a7)])], false⟩⟩) r85 ?_ ?_
              · refine R ?_;refine pw_loop (τ := Int × Int) (fun e => ⟨[(0, (VS 3 (a0.map e_III))), (1, (iV a1)), (5, (pV 0 0)), (11, (iV 1)), (12, (iV e.1)), (13, (iV e.2))], ⟨1, [(0, .rw [(iV a2), (iV a3), (iV a4), (iV a5), (iV a6), (iV a7)])], false⟩⟩) h86 ?_ (fun _ => nl rfl) ?_
                · exact sb
                · intro e89 x90 h91;refine pw_seq ?_;refine R ?_;refine pbr_oite h91 (fun g92 h91 => ?_) (fun g92 h91 => ?_)
                  · refine R ?_;refine pw_seq ?_;refine R ?_;refine pbr_ogrd h91 (fun g93 h91 => ?_);refine R ?_;refine nth_o (l := a0) h91 (fun x94 _ h91 => ?_);refine R ?_;refine nth_o (l := a0) h91 (fun x95 _ h91 => ?_);refine R ?_;obtain ⟨y96, h97, h91⟩ := obnd_some h91;refine (c34 h97).go ?_;refine R ?_;refine aR ?_;refine R ?_;obtain ⟨y98, h99, h91⟩ := obnd_some h91;refine (c192 h99).go ?_
                    refine R ?_;refine aR ?_;refine R ?_;refine aR ?_;refine R ?_;cases h91;refine ⟨_, rfl, ?_⟩;exact sb
                  · refine R ?_;cases h91;refine ⟨_, rfl, ?_⟩;rintro rfl;refine R ?_;exact cr
              · obtain ⟨r101, h102, h82⟩ := obnd_some h82;refine pw_join (ρ := Bool) (fun e => ⟨[(0, (VS 3 (a0.map e_III))), (1, (iV a1)), (5, (pV 0 0)), (11, (iV 1)), (80, (.bool e))], ⟨1, [(0, .rw [(iV a2), (iV a3), (iV a4), (iV a5), (iV a6), (iV a7)])], false⟩⟩) r101 ?_ ?_
                · refine R ?_;refine pbr_oite h102 (fun g105 h102 => ?_) (fun g105 h102 => ?_)
                  · refine R ?_;cases h102;exact cr
                  · refine R ?_;cases h102;exact cr
                · refine R ?_;refine pbr_oite h82 (fun g106 h82 => ?_) (fun g106 h82 => ?_)
                  · refine R ?_;cases h82;obtain rfl := h84 _ rfl;obtain rfl := h53 _ rfl;rfl
                  · refine R ?_;cases h82;exact ⟨_, rfl, cr⟩
            · intro r107 hr;have h51 := h83 _ hr;refine R ?_;refine ⟨_, .refl, nl rfl, ?_⟩;refine R ?_;refine pw_seq ?_;refine R ?_;obtain ⟨r108, h109, h110, h111⟩ := obndS_some h51;refine pw_joinS (ρ := Unit) (fun e => ⟨[(0, (VS 3 (a0.map e_III))), (1, (iV a1)), (5, (pV 0 0)), (11, (iV 2))], ⟨1, [(0, .rw [(iV a2), (iV a3), (iV a4), (iV a5), (iV a6), (iV a7)])], false⟩⟩) r108 ?_ ?_
              · refine R ?_;obtain ⟨r112, h113, h109⟩ := obnd_some h109;refine pw_join (ρ := Int) (fun e => ⟨[(0, (VS 3 (a0.map e_III))), (1, (iV a1)), (5, (pV 0 0)), (11, (iV 2)), (12, (iV e))], ⟨1, [(0, .rw [(iV a2), (iV a3), (iV a4), (iV a5), (iV a6), (iV a7)])], false⟩⟩) r112 ?_ ?_
                · refine R ?_;refine pw_loop (τ := Int × Int) (fun e => ⟨[(0, (VS 3 (a0.map e_III))), (1, (iV a1)), (5, (pV 0 0)), (11, (iV 2)), (12, (iV e.1)), (13, (iV e.2))], ⟨1, [(0, .rw [(iV a2), (iV a3), (iV a4), (iV a5), (iV a6), (iV a7)])], false⟩⟩) h113 ?_ (fun _ => nl rfl) ?_
                  · exact sb
                  · intro e116 x117 h118;refine pw_seq ?_;refine R ?_;refine pbr_oite h118 (fun g119 h118 => ?_) (fun g119 h118 => ?_)
                    · refine R ?_;refine pw_seq ?_;refine R ?_;refine pbr_ogrd h118 (fun g120 h118 => ?_);refine R ?_;refine nth_o (l := a0) h118 (fun x121 _ h118 => ?_);refine R ?_;refine nth_o (l := a0) h118 (fun x122 _ h118 => ?_);refine R ?_;obtain ⟨y123, h124, h118⟩ := obnd_some h118;refine (c34 h124).go ?_;refine R ?_;refine aR ?_;refine R ?_;obtain ⟨y125, h126, h118⟩ := obnd_some h118
                      refine (c192 h126).go ?_;refine R ?_;refine aR ?_;refine R ?_;refine aR ?_;refine R ?_;cases h118;refine ⟨_, rfl, ?_⟩;exact sb
                    · refine R ?_;cases h118;refine ⟨_, rfl, ?_⟩;rintro rfl;refine R ?_;exact cr
                · obtain ⟨r128, h129, h109⟩ := obnd_some h109;refine pw_join (ρ := Bool) (fun e => ⟨[(0, (VS 3 (a0.map e_III))), (1, (iV a1)), (5, (pV 0 0)), (11, (iV 2)), (80, (.bool e))], ⟨1, [(0, .rw [(iV a2), (iV a3), (iV a4), (iV a5), (iV a6), (iV a7)])], false⟩⟩) r128 ?_ ?_
                  · refine R ?_;refine pbr_oite h129 (fun g132 h129 => ?_) (fun g132 h129 => ?_)
                    · refine R ?_;cases h129;exact cr
                    · refine R ?_;cases h129;exact cr
                  · refine R ?_;refine pbr_oite h109 (fun g133 h109 => ?_) (fun g133 h109 => ?_)
                    · refine R ?_;cases h109;obtain rfl := h111 _ rfl;obtain rfl := h53 _ rfl;rfl
                    · refine R ?_;cases h109;exact ⟨_, rfl, cr⟩
              · intro r134 hr;have h51 := h110 _ hr;refine R ?_;refine ⟨_, .refl, nl rfl, ?_⟩;refine R ?_;refine pw_seq ?_;refine R ?_;obtain ⟨r135, h136, h137, h138⟩ := obndS_some h51;refine pw_joinS (ρ := Unit) (fun e => ⟨[(0, (VS 3 (a0.map e_III))), (1, (iV a1)), (5, (pV 0 0)), (11, (iV 3))], ⟨1, [(0, .rw [(iV a2), (iV a3), (iV a4), (iV a5), (iV a6), (iV a7)])], false⟩⟩) r135 ?_ ?_
                · refine R ?_;obtain ⟨r139, h140, h136⟩ := obnd_some h136;refine pw_join (ρ := Int) (fun e => ⟨[(0, (VS 3 (a0.map e_III))), (1, (iV a1)), (5, (pV 0 0)), (11, (iV 3)), (12, (iV e))], ⟨1, [(0, .rw [(iV a2), (iV a3), (iV a4), (iV a5), (iV a6), (iV a7)])], false⟩⟩) r139 ?_ ?_
                  · refine R ?_;refine pw_loop (τ := Int × Int) (fun e => ⟨[(0, (VS 3 (a0.map e_III))), (1, (iV a1)), (5, (pV 0 0)), (11, (iV 3)), (12, (iV e.1)), (13, (iV e.2))], ⟨1, [(0, .rw [(iV a2), (iV a3), (iV a4), (iV a5), (iV a6), (iV a7)])], false⟩⟩) h140 ?_ (fun _ => nl rfl) ?_
                    · exact sb
                    · intro e143 x144 h145;refine pw_seq ?_;refine R ?_;refine pbr_oite h145 (fun g146 h145 => ?_) (fun g146 h145 => ?_)
                      · refine R ?_;refine pw_seq ?_;refine R ?_;refine pbr_ogrd h145 (fun g147 h145 => ?_);refine R ?_;refine nth_o (l := a0) h145 (fun x148 _ h145 => ?_);refine R ?_;refine nth_o (l := a0) h145 (fun x149 _ h145 => ?_);refine R ?_;obtain ⟨y150, h151, h145⟩ := obnd_some h145;refine (c34 h151).go ?_;refine R ?_;refine aR ?_;refine R ?_;obtain ⟨y152, h153, h145⟩ := obnd_some h145
                        refine (c192 h153).go ?_;refine R ?_;refine aR ?_;refine R ?_;refine aR ?_;refine R ?_;cases h145;refine ⟨_, rfl, ?_⟩;exact sb
                      · refine R ?_;cases h145;refine ⟨_, rfl, ?_⟩;rintro rfl;refine R ?_;exact cr
                  · obtain ⟨r155, h156, h136⟩ := obnd_some h136;refine pw_join (ρ := Bool) (fun e => ⟨[(0, (VS 3 (a0.map e_III))), (1, (iV a1)), (5, (pV 0 0)), (11, (iV 3)), (80, (.bool e))], ⟨1, [(0, .rw [(iV a2), (iV a3), (iV a4), (iV a5), (iV a6), (iV a7)])], false⟩⟩) r155 ?_ ?_
                    · refine R ?_;refine pbr_oite h156 (fun g159 h156 => ?_) (fun g159 h156 => ?_)
                      · refine R ?_;cases h156;exact cr
                      · refine R ?_;cases h156;exact cr
                    · refine R ?_;refine pbr_oite h136 (fun g160 h136 => ?_) (fun g160 h136 => ?_)
                      · refine R ?_;cases h136;obtain rfl := h138 _ rfl;obtain rfl := h53 _ rfl;rfl
                      · refine R ?_;cases h136;exact ⟨_, rfl, cr⟩
                · intro r161 hr;have h51 := h137 _ hr;refine R ?_;refine ⟨_, .refl, nl rfl, ?_⟩;refine R ?_;refine pw_seq ?_;refine R ?_;obtain ⟨r162, h163, h164, h165⟩ := obndS_some h51;refine pw_joinS (ρ := Unit) (fun e => ⟨[(0, (VS 3 (a0.map e_III))), (1, (iV a1)), (5, (pV 0 0)), (11, (iV 4))], ⟨1, [(0, .rw [(iV a2), (iV a3), (iV a4), (iV a5), (iV a6), (iV a7)])], false⟩⟩) r162 ?_ ?_
                  · refine R ?_;obtain ⟨r166, h167, h163⟩ := obnd_some h163;refine pw_join (ρ := Int) (fun e => ⟨[(0, (VS 3 (a0.map e_III))), (1, (iV a1)), (5, (pV 0 0)), (11, (iV 4)), (12, (iV e))], ⟨1, [(0, .rw [(iV a2), (iV a3), (iV a4), (iV a5), (iV a6), (iV a7)])], false⟩⟩) r166 ?_ ?_
                    · refine R ?_;refine pw_loop (τ := Int × Int) (fun e => ⟨[(0, (VS 3 (a0.map e_III))), (1, (iV a1)), (5, (pV 0 0)), (11, (iV 4)), (12, (iV e.1)), (13, (iV e.2))], ⟨1, [(0, .rw [(iV a2), (iV a3), (iV a4), (iV a5), (iV a6), (iV a7)])], false⟩⟩) h167 ?_ (fun _ => nl rfl) ?_
                      · exact sb
                      · intro e170 x171 h172;refine pw_seq ?_;refine R ?_;refine pbr_oite h172 (fun g173 h172 => ?_) (fun g173 h172 => ?_)
                        · refine R ?_;refine pw_seq ?_;refine R ?_;refine pbr_ogrd h172 (fun g174 h172 => ?_);refine R ?_;refine nth_o (l := a0) h172 (fun x175 _ h172 => ?_);refine R ?_;refine nth_o (l := a0) h172 (fun x176 _ h172 => ?_);refine R ?_;obtain ⟨y177, h178, h172⟩ := obnd_some h172;refine (c34 h178).go ?_;refine R ?_;refine aR ?_;refine R ?_;obtain ⟨y179, h180, h172⟩ := obnd_some h172
                          refine (c192 h180).go ?_;refine R ?_;refine aR ?_;refine R ?_;refine aR ?_;refine R ?_;cases h172;refine ⟨_, rfl, ?_⟩;exact sb
                        · refine R ?_;cases h172;refine ⟨_, rfl, ?_⟩;rintro rfl;refine R ?_;exact cr
                    · obtain ⟨r182, h183, h163⟩ := obnd_some h163;refine pw_join (ρ := Bool) (fun e => ⟨[(0, (VS 3 (a0.map e_III))), (1, (iV a1)), (5, (pV 0 0)), (11, (iV 4)), (80, (.bool e))], ⟨1, [(0, .rw [(iV a2), (iV a3), (iV a4), (iV a5), (iV a6), (iV a7)])], false⟩⟩) r182 ?_ ?_
                      · refine R ?_;refine pbr_oite h183 (fun g186 h183 => ?_) (fun g186 h183 => ?_)
                        · refine R ?_;cases h183;exact cr
                        · refine R ?_;cases h183;exact cr
                      · refine R ?_;refine pbr_oite h163 (fun g187 h163 => ?_) (fun g187 h163 => ?_)
                        · refine R ?_;cases h163;obtain rfl := h165 _ rfl;obtain rfl := h53 _ rfl;rfl
                        · refine R ?_;cases h163;exact ⟨_, rfl, cr⟩
                  · intro r188 hr;have h51 := h164 _ hr;refine R ?_;refine ⟨_, .refl, nl rfl, ?_⟩;refine R ?_;refine pw_seq ?_;refine R ?_;cases h51;exact ⟨_, rfl, cr⟩
        · intro r189 hr;have H := h52 _ hr;refine R ?_;cases H;rfl
noncomputable def f263 [LO]  (a0 : List (Int × Int × Int)) (a1 : Int) (a2 : Int) (a3 : Int) (a4 : Int) (a5 : Int) (a6 : Int) (a7 : Int) : Option Bool :=
 obnd (f10) fun (y1 : Bool) =>
 oite (!y1) (
 some false
 ) (
 obnd (f178 a0) fun (y4 : Bool) =>
 oite (!y4) (
 some true
 ) (
 obnd (f53 a0) fun (y7 : (List (Int × Int × Int))) =>
 obnd (f55 y7 a1) fun (y9 : Int × Int × Int × Int × Int × Int × Int) =>
 obnd (f53 a0) fun (y11 : (List (Int × Int × Int))) =>
 obnd (f265 y11 a1 a2 a3 a4 a5 a6 a7) fun (y13 : Int × Int) =>
 obnd (f51 a0) fun (y15 : Int) =>
 obnd (
 oite ((ieq y15 (0 : Int))) (
 obnd (f52 a1) fun (y22 : Int) =>
 some y22
 ) (
 some y15)
 ) fun (r17 : Int) =>
 oite ((!(ieq r17 (0 : Int)))) (
 obnd (
 oite ((ieq y9.2.2.2.2.2.2 r17)) (
 some ((ieq y9.1 (0 : Int)) && (((ieq y9.2.1 (0 : Int)) && ((ieq y9.2.2.1 (0 : Int)) && ((ieq y9.2.2.2.1 (0 : Int)) && ((ieq y9.2.2.2.2.1 (0 : Int)) && ((ieq y9.2.2.2.2.2.1 (0 : Int)) && true))))) && true))
 ) (
 some false)
 ) fun (r25 : Bool) =>
 obnd (
 oite r25 (
 some (ieq y13.2 r17)
 ) (
 some false)
 ) fun (r28 : Bool) =>
 obnd (
 oite r28 (
 some (ieq y13.1 (0 : Int))
 ) (
 some false)
 ) fun (r31 : Bool) =>
 some r31
 ) (
 obnd (f266 a0 a1) fun (y34 : Int × Int × Int × Int × Int × Int × Int) =>
 obnd (f267 a0 a1 a2 a3 a4 a5 a6 a7) fun (y36 : Int × Int) =>
 obnd (
 oite ((ieq y9.2.2.2.2.2.2 y34.2.2.2.2.2.2)) (
 some ((ieq y9.1 y34.1) && (((ieq y9.2.1 y34.2.1) && ((ieq y9.2.2.1 y34.2.2.1) && ((ieq y9.2.2.2.1 y34.2.2.2.1) && ((ieq y9.2.2.2.2.1 y34.2.2.2.2.1) && ((ieq y9.2.2.2.2.2.1 y34.2.2.2.2.2.1) && true))))) && true))
 ) (
 some false)
 ) fun (r38 : Bool) =>
 obnd (
 oite r38 (
 some (ieq y13.2 y36.2)
 ) (
 some false)
 ) fun (r41 : Bool) =>
 obnd (
 oite r41 (
 some (ieq y13.1 y36.1)
 ) (
 some false)
 ) fun (r44 : Bool) =>
 some r44)))
theorem c263 [LO]  {a0 : List (Int × Int × Int)} {a1 : Int} {a2 : Int} {a3 : Int} {a4 : Int} {a5 : Int} {a6 : Int} {a7 : Int} {x : Bool} (H : f263 a0 a1 a2 a3 a4 a5 a6 a7 = some x) : ICalls E 263 [(VS 3 (a0.map e_III)), (iV a1), (.agg ⟨[(iV a2), (iV a3), (iV a4), (iV a5), (iV a6), (iV a7)]⟩)] AHeap.none fun v _ => v = (.bool x) := by
 refine icalls_fn (pfnw ?_);unfold f263 at H;refine R ?_;refine pw_seq ?_;refine R ?_;obtain ⟨y1, h2, H⟩ := obnd_some H;refine (c10 h2).go ?_;refine R ?_;refine pbr_oite H (fun g3 H => ?_) (fun g3 H => ?_)
 · refine R ?_;cases H;rfl
 · refine R ?_;refine pw_seq ?_;refine R ?_;obtain ⟨y4, h5, H⟩ := obnd_some H;refine (c178 h5).go ?_;refine R ?_;refine pbr_oite H (fun g6 H => ?_) (fun g6 H => ?_)
   · refine R ?_;cases H;rfl
   · refine R ?_;obtain ⟨y7, h8, H⟩ := obnd_some H;refine (c53 h8).go ?_;refine R ?_;obtain ⟨y9, h10, H⟩ := obnd_some H;refine (c55 h10).go ?_;refine R ?_;obtain ⟨y11, h12, H⟩ := obnd_some H;refine (c53 h12).go ?_;refine R ?_;refine aR ?_;refine R ?_;obtain ⟨y13, h14, H⟩ := obnd_some H;refine (c265 h14).go ?_;refine R ?_;refine aR ?_
     refine R ?_;obtain ⟨y15, h16, H⟩ := obnd_some H;refine (c51 h16).go ?_;refine R ?_;obtain ⟨r17, h18, H⟩ := obnd_some H;refine pw_join (ρ := Int) (fun e => ⟨[(0, (VS 3 (a0.map e_III))), (1, (iV a1)), (5, (pV 0 0)), (7, (pV 1 0)), (8, (iV y9.2.2.2.2.2.2)), (9, (iV y13.1)), (10, (iV y13.2)), (11, (iV e))], ⟨2, [(1, .rw [(iV y9.1), (iV y9.2.1), (iV y9.2.2.1), (iV y9.2.2.2.1), (iV y9.2.2.2.2.1), (iV y9.2.2.2.2.2.1)]), (0, .rw [(iV a2), (iV a3), (iV a4), (iV a5), (iV a6), (iV a7)])], false⟩⟩) r17 ?_ ?_
     · refine R ?_;refine pbr_oite h18 (fun g21 h18 => ?_) (fun g21 h18 => ?_)
       · refine R ?_;obtain ⟨y22, h23, h18⟩ := obnd_some h18;refine (c52 h23).go ?_;refine R ?_;cases h18;exact cr
       · refine R ?_;cases h18;exact cr
     · refine pw_seq ?_;refine R ?_;refine pbr_oite H (fun g24 H => ?_) (fun g24 H => ?_)
       · (conv=>whnf);refine pw_so ?_;refine po_ops 4 ?_;(conv=>whnf);obtain ⟨r25, h26, H⟩ := obnd_some H;refine po_seg (τ := Bool) 4 (fun e => ⟨[(9, (iV y13.1)), (10, (iV y13.2)), (11, (iV r17)), (50, (.bool e))], ⟨2, [(1, .rw [(iV y9.1), (iV y9.2.1), (iV y9.2.2.1), (iV y9.2.2.2.1), (iV y9.2.2.2.2.1), (iV y9.2.2.2.2.2.1)]), (0, .rw [(iV a2), (iV a3), (iV a4), (iV a5), (iV a6), (iV a7)])], false⟩⟩) r25 ?_ ?_
         · refine R ?_;refine pbr_oite h26 (fun g27 h26 => ?_) (fun g27 h26 => ?_)
           · refine R ?_;cases h26;exact cr
           · refine R ?_;cases h26;exact cr
         · refine po_ops 1 ?_;(conv=>whnf);obtain ⟨r28, h29, H⟩ := obnd_some H;refine po_seg (τ := Bool) 4 (fun e => ⟨[(9, (iV y13.1)), (55, (.bool e))], ⟨2, [(1, .rw [(iV y9.1), (iV y9.2.1), (iV y9.2.2.1), (iV y9.2.2.2.1), (iV y9.2.2.2.2.1), (iV y9.2.2.2.2.2.1)]), (0, .rw [(iV a2), (iV a3), (iV a4), (iV a5), (iV a6), (iV a7)])], false⟩⟩) r28 ?_ ?_
           · refine R ?_;refine pbr_oite h29 (fun g30 h29 => ?_) (fun g30 h29 => ?_)
             · refine R ?_;cases h29;exact cr
             · refine R ?_;cases h29;exact cr
           · refine po_ops 1 ?_;(conv=>whnf);obtain ⟨r31, h32, H⟩ := obnd_some H;refine po_seg (τ := Bool) 3 (fun e => ⟨[(59, (.bool e))], ⟨2, [(1, .rw [(iV y9.1), (iV y9.2.1), (iV y9.2.2.1), (iV y9.2.2.2.1), (iV y9.2.2.2.2.1), (iV y9.2.2.2.2.2.1)]), (0, .rw [(iV a2), (iV a3), (iV a4), (iV a5), (iV a6), (iV a7)])], false⟩⟩) r31 ?_ ?_
             · refine R ?_;refine pbr_oite h32 (fun g33 h32 => ?_) (fun g33 h32 => ?_)
               · refine R ?_;cases h32;exact cr
               · refine R ?_;cases h32;exact cr
             · refine R ?_;cases H;rfl
       · (conv=>whnf);refine pw_skip ?_;(conv=>whnf);refine pwa ?_;(conv=>whnf);obtain ⟨y34, h35, H⟩ := obnd_some H;refine (c266 h35).go ?_;(conv=>whnf);refine pwa ?_;(conv=>whnf);obtain ⟨y36, h37, H⟩ := obnd_some H;refine (c267 h37).go ?_;(conv=>whnf);refine pw_so ?_;refine po_ops 4 ?_;(conv=>whnf);obtain ⟨r38, h39, H⟩ := obnd_some H;refine po_seg (τ := Bool) 4 (fun e => ⟨[(9, (iV y13.1)), (10, (iV y13.2)), (11, (iV y36.2)), (14, (iV y36.1)), (80, (.bool e))], ⟨3, [(2, .rw [(iV y34.1), (iV y34.2.1), (iV y34.2.2.1), (iV y34.2.2.2.1), (iV y34.2.2.2.2.1), (iV y34.2.2.2.2.2.1)]), (1, .rw [(iV y9.1), (iV y9.2.1), (iV y9.2.2.1), (iV y9.2.2.2.1), (iV y9.2.2.2.2.1), (iV y9.2.2.2.2.2.1)]), (0, .rw [(iV a2), (iV a3), (iV a4), (iV a5), (iV a6), (iV a7)])], false⟩⟩) r38 ?_ ?_
         · refine R ?_;refine pbr_oite h39 (fun g40 h39 => ?_) (fun g40 h39 => ?_)
           · refine R ?_;cases h39;exact cr
           · refine R ?_;cases h39;exact cr
         · refine po_ops 1 ?_;(conv=>whnf);obtain ⟨r41, h42, H⟩ := obnd_some H;refine po_seg (τ := Bool) 4 (fun e => ⟨[(9, (iV y13.1)), (14, (iV y36.1)), (85, (.bool e))], ⟨3, [(2, .rw [(iV y34.1), (iV y34.2.1), (iV y34.2.2.1), (iV y34.2.2.2.1), (iV y34.2.2.2.2.1), (iV y34.2.2.2.2.2.1)]), (1, .rw [(iV y9.1), (iV y9.2.1), (iV y9.2.2.1), (iV y9.2.2.2.1), (iV y9.2.2.2.2.1), (iV y9.2.2.2.2.2.1)]), (0, .rw [(iV a2), (iV a3), (iV a4), (iV a5), (iV a6), (iV a7)])], false⟩⟩) r41 ?_ ?_
           · refine R ?_;refine pbr_oite h42 (fun g43 h42 => ?_) (fun g43 h42 => ?_)
             · refine R ?_;cases h42;exact cr
             · refine R ?_;cases h42;exact cr
           · refine po_ops 1 ?_;(conv=>whnf);obtain ⟨r44, h45, H⟩ := obnd_some H;refine po_seg (τ := Bool) 4 (fun e => ⟨[(90, (.bool e))], ⟨3, [(2, .rw [(iV y34.1), (iV y34.2.1), (iV y34.2.2.1), (iV y34.2.2.2.1), (iV y34.2.2.2.2.1), (iV y34.2.2.2.2.2.1)]), (1, .rw [(iV y9.1), (iV y9.2.1), (iV y9.2.2.1), (iV y9.2.2.2.1), (iV y9.2.2.2.2.1), (iV y9.2.2.2.2.2.1)]), (0, .rw [(iV a2), (iV a3), (iV a4), (iV a5), (iV a6), (iV a7)])], false⟩⟩) r44 ?_ ?_
             · refine R ?_;refine pbr_oite h45 (fun g46 h45 => ?_) (fun g46 h45 => ?_)
               · refine R ?_;cases h45;exact cr
               · refine R ?_;cases h45;exact cr
             · refine R ?_;cases H;rfl
end Go.Proofs.YtgfglinlmnbjbaaGreat.AM
