/- byDue: a stable sort of numbers in place. Conditions: none. -/
import Derived.Test.YtmbekcealcjabaaGreatAmDel
import Derived.Test.YtmbekcealcjabaaGreatAmRuns
namespace Go.Proofs.YtmbekcealcjabaaGreat.AM
set_option linter.unusedSimpArgs false
set_option linter.unusedVariables false
open Go Go.RowKit
attribute [local irreducible] ICallV ICalls Recast rng
namespace So

/-- (guidevane/dispatch.revisions).byDue -/
noncomputable def f227 [LO]  (a0 : List (ByteArray × Int × Int)) (a1 : List Int) : Option ((List Int)) :=
  obnd (f73 a1) fun (y1 : (List Int)) =>
  obnd (
   oloop (τ := Int × Int × (List Int)) (ρ := Int × (List Int)) (fun e7 =>
    oite ((ile e7.2.1 (y1.length : Int))) (
     oloop (τ := Int × (List Int)) (ρ := (Int × Int × (List Int)) ⊕ (Int × (List Int))) (fun e11 =>
      oite ((ilt e11.1 e7.2.1)) (
       obnd (
        oloop (τ := Int × (List Int)) (ρ := (List Int)) (fun e19 =>
         oite ((ilt e7.1 e19.1)) (
          ogrd ((ile 0 e19.1)) (
          ogrd ((ilt e19.1 (y1.length : Int))) (
          obnd (e19.2[e19.1.toNat]?) fun (x25 : Int) =>
          ogrd ((ile 0 (IntKind.i64.wrap (e19.1 - (1 : Int))))) (
          ogrd ((ilt (IntKind.i64.wrap (e19.1 - (1 : Int))) (y1.length : Int))) (
          obnd (e19.2[(IntKind.i64.wrap (e19.1 - (1 : Int))).toNat]?) fun (x30 : Int) =>
          ogrd ((ile 0 x25)) (
          obnd (a0[x25.toNat]?) fun (x34 : ByteArray × Int × Int) =>
          ogrd ((ile 0 x30)) (
          obnd (a0[x30.toNat]?) fun (x36 : ByteArray × Int × Int) =>
          oite ((ilt (IntKind.i64.wrap (x34.2.1 - x36.2.1)) (0 : Int))) (
           obnd (e19.2[(IntKind.i64.wrap (e19.1 - (1 : Int))).toNat]?) fun (x38 : Int) =>
           obnd (e19.2[e19.1.toNat]?) fun (x41 : Int) =>
           ogrd (Nat.blt e19.1.toNat e19.2.length) (
           ogrd (Nat.blt (IntKind.i64.wrap (e19.1 - (1 : Int))).toNat (e19.2.set e19.1.toNat x38).length) (
           some (.inl (((IntKind.i64.wrap (e19.1 - (1 : Int))), ((e19.2.set e19.1.toNat x38).set (IntKind.i64.wrap (e19.1 - (1 : Int))).toNat x41))))
           )
           )
            ) (
           some (.inr (e19.2))
            )
          )
          )
          )
          )
          )
          )
           ) (
          some (.inr (e19.2))
           )
          ) (e11.1, e11.2)
         ) fun (r15 : (List Int)) =>
       some (.inl ((IntKind.i64.wrap (e11.1 + (1 : Int))), r15))
        ) (
       oinr (
         some (.inl (e7.2.1, (IntKind.i64.wrap (e7.2.1 + (20 : Int))), e11.2))
         )
        )
       ) ((IntKind.i64.wrap (e7.1 + (1 : Int))), e7.2.2)
      ) (
     some (.inr ((e7.1, e7.2.2)))
      )
     ) (((0 : Int), (20 : Int), y1))
    ) fun (r3 : Int × (List Int)) =>
  oloop (τ := Int × (List Int)) (ρ := (List Int)) (fun e51 =>
   oite ((ilt e51.1 (y1.length : Int))) (
    obnd (
     oloop (τ := Int × (List Int)) (ρ := (List Int)) (fun e59 =>
      oite ((ilt r3.1 e59.1)) (
       ogrd ((ile 0 e59.1)) (
       ogrd ((ilt e59.1 (y1.length : Int))) (
       obnd (e59.2[e59.1.toNat]?) fun (x65 : Int) =>
       ogrd ((ile 0 (IntKind.i64.wrap (e59.1 - (1 : Int))))) (
       ogrd ((ilt (IntKind.i64.wrap (e59.1 - (1 : Int))) (y1.length : Int))) (
       obnd (e59.2[(IntKind.i64.wrap (e59.1 - (1 : Int))).toNat]?) fun (x70 : Int) =>
       ogrd ((ile 0 x65)) (
       obnd (a0[x65.toNat]?) fun (x74 : ByteArray × Int × Int) =>
       ogrd ((ile 0 x70)) (
       obnd (a0[x70.toNat]?) fun (x76 : ByteArray × Int × Int) =>
       oite ((ilt (IntKind.i64.wrap (x74.2.1 - x76.2.1)) (0 : Int))) (
        obnd (e59.2[(IntKind.i64.wrap (e59.1 - (1 : Int))).toNat]?) fun (x78 : Int) =>
        obnd (e59.2[e59.1.toNat]?) fun (x81 : Int) =>
        ogrd (Nat.blt e59.1.toNat e59.2.length) (
        ogrd (Nat.blt (IntKind.i64.wrap (e59.1 - (1 : Int))).toNat (e59.2.set e59.1.toNat x78).length) (
        some (.inl (((IntKind.i64.wrap (e59.1 - (1 : Int))), ((e59.2.set e59.1.toNat x78).set (IntKind.i64.wrap (e59.1 - (1 : Int))).toNat x81))))
        )
        )
         ) (
        some (.inr (e59.2))
         )
       )
       )
       )
       )
       )
       )
        ) (
       some (.inr (e59.2))
        )
       ) (e51.1, e51.2)
      ) fun (r55 : (List Int)) =>
    some (.inl ((IntKind.i64.wrap (e51.1 + (1 : Int))), r55))
     ) (
    oinr (
      oloop (τ := Unit) (ρ := (List Int)) (fun e89 =>
       oite ((ilt (20 : Int) (y1.length : Int))) (
        none
         ) (
        oinr (
          ogrd (Nat.beq y1.length e51.2.length) (
          some e51.2
          )
          )
         )
        ) ()
      )
     )
    ) ((IntKind.i64.wrap (r3.1 + (1 : Int))), r3.2)
set_option maxHeartbeats 1000000 in
theorem c227 [LO]  {a0 : List (ByteArray × Int × Int)} {a1 : List Int} {x : (List Int)} (H : f227 a0 a1 = some x) : ICalls E 227 [(VS 3 (a0.map e_SII)), (VS 1 (a1.map eI))] AHeap.none fun v _ => v = (VS 1 (x.map eI)) := by
  refine ICalls.frz ?_;refine icalls_fn (pfnw ?_); unfold f227 at H;(conv=>whnf);refine pw_so ?_;refine po_all ?_;(conv=>whnf);refine pw_so ?_;refine po_all ?_;(conv=>whnf);obtain ⟨y1, h2, H⟩ := obnd_some H;refine ICalls.goN (f := eI) (c73 h2) (.cons (.refl _) .nil) ?_;(conv=>whnf);refine pw_so ?_;refine po_all ?_;(conv=>whnf);refine pcalls_in ?_;(conv=>whnf);refine pw_ops ?_;refine po_all ?_;(conv=>whnf);refine pcalls_in ?_;(conv=>whnf);refine pw_so ?_;refine po_all ?_;(conv=>whnf);refine pw_so ?_;refine po_all ?_;(conv=>whnf);obtain ⟨r3, h4, H⟩ := obnd_some H;refine pw_join (ρ := Int × (List Int)) (fun e => ⟨[(0, (.slice (some ⟨1, 0, none⟩) y1.length 2)), (1, (.int .i64 (y1.length : Int))), (2, (.func (.func (E.id 245)) ⟨[]⟩ ⟨[(.pointer (some ⟨0, 0, none⟩))]⟩)), (6, (.int .i64 20)), (7, (.int .i64 e.1))], ⟨2, [(1, .rw (e.2.map eI)), (0, .rw [(VS 3 (a0.map e_SII))])], false⟩⟩) r3 ?_ ?_
  · refine pw_block ?_;refine pw_loop (τ := Int × Int × (List Int)) (fun e => ⟨[(0, (.slice (some ⟨1, 0, none⟩) y1.length 2)), (1, (.int .i64 (y1.length : Int))), (2, (.func (.func (E.id 245)) ⟨[]⟩ ⟨[(.pointer (some ⟨0, 0, none⟩))]⟩)), (6, (.int .i64 20)), (7, (.int .i64 e.1)), (8, (.int .i64 e.2.1))], ⟨2, [(1, .rw (e.2.2.map eI)), (0, .rw [(VS 3 (a0.map e_SII))])], false⟩⟩) h4 ?_ (fun _ => Nat.le_of_ble_eq_true rfl) ?_
    · exact .sub' (Nat.le_of_ble_eq_true rfl) (.cons rfl (.cons rfl (.cons rfl (.cons rfl (.cons rfl (.cons rfl .nil))))))
    · intro e7 x8 h9;refine pw_seq ?_;refine pw_so ?_;refine po_all ?_;(conv=>whnf);refine pw_cond ?_;(conv=>whnf);refine pbr_oite h9 (fun g10 h9 => ?_) (fun g10 h9 => ?_)
      · (conv=>whnf);refine pw_skip ?_;(conv=>whnf);refine pw_block ?_;refine pw_so ?_;refine po_all ?_;(conv=>whnf);refine pcalls_in ?_;(conv=>whnf);refine pw_so ?_;refine po_all ?_;(conv=>whnf);refine pw_block ?_;refine pw_loop (τ := Int × (List Int)) (fun e => ⟨[(0, (.slice (some ⟨1, 0, none⟩) y1.length 2)), (1, (.int .i64 e7.1)), (2, (.int .i64 e7.2.1)), (3, (.func (.func (E.id 245)) ⟨[]⟩ ⟨[(.pointer (some ⟨0, 0, none⟩))]⟩)), (8, (.int .i64 e.1))], ⟨2, [(1, .rw (e.2.map eI)), (0, .rw [(VS 3 (a0.map e_SII))])], false⟩⟩) h9 ?_ (fun _ => Nat.le_of_ble_eq_true rfl) ?_
        · exact .sub' (Nat.le_of_ble_eq_true rfl) (.cons rfl (.cons rfl (.cons rfl (.cons rfl (.cons rfl .nil)))))
        · intro e11 x12 h13;refine pw_seq ?_;refine pw_so ?_;refine po_all ?_;(conv=>whnf);refine pw_cond ?_;(conv=>whnf);refine pbr_oite h13 (fun g14 h13 => ?_) (fun g14 h13 => ?_)
          · (conv=>whnf);refine pw_skip ?_;(conv=>whnf);obtain ⟨r15, h16, h13⟩ := obnd_some h13;refine pw_join (ρ := (List Int)) (fun e => ⟨[(0, (.slice (some ⟨1, 0, none⟩) y1.length 2)), (1, (.int .i64 e7.1)), (2, (.int .i64 e7.2.1)), (3, (.func (.func (E.id 245)) ⟨[]⟩ ⟨[(.pointer (some ⟨0, 0, none⟩))]⟩)), (8, (.int .i64 e11.1))], ⟨2, [(1, .rw (e.map eI)), (0, .rw [(VS 3 (a0.map e_SII))])], false⟩⟩) r15 ?_ ?_
            · refine pw_block ?_;refine pw_so ?_;refine po_all ?_;(conv=>whnf);refine pw_block ?_;refine pw_loop (τ := Int × (List Int)) (fun e => ⟨[(0, (.slice (some ⟨1, 0, none⟩) y1.length 2)), (1, (.int .i64 e7.1)), (2, (.int .i64 e7.2.1)), (3, (.func (.func (E.id 245)) ⟨[]⟩ ⟨[(.pointer (some ⟨0, 0, none⟩))]⟩)), (8, (.int .i64 e11.1)), (9, (.int .i64 e.1))], ⟨2, [(1, .rw (e.2.map eI)), (0, .rw [(VS 3 (a0.map e_SII))])], false⟩⟩) h16 ?_ (fun _ => Nat.le_of_ble_eq_true rfl) ?_
              · exact .sub' (Nat.le_of_ble_eq_true rfl) (.cons rfl (.cons rfl (.cons rfl (.cons rfl (.cons rfl (.cons rfl .nil))))))
              · intro e19 x20 h21;refine pw_seq ?_;refine pw_sd ?_;(conv=>whnf);refine pbr_oite h21 (fun g22 h21 => ?_) (fun g22 h21 => ?_)
                · (conv=>whnf);refine pbr_t g22 ?_;(conv=>whnf);refine pbr_t g22 ?_;(conv=>whnf);refine pbr_t g22 ?_;(conv=>whnf);refine pbr_ogrd h21 (fun g23 h21 => ?_);(conv=>whnf);refine pbr_ogrd h21 (fun g24 h21 => ?_);(conv=>whnf);refine pbr_t g22 ?_;(conv=>whnf);refine nth_a (l := e19.2) (f := eI) h21 (fun x25 h26 h21 => ?_);(conv=>whnf);refine pbr_t g22 ?_;(conv=>whnf);refine pbr_t g22 ?_;(conv=>whnf);refine pbr_t g22 ?_;(conv=>whnf);refine pbr_t g22 ?_;(conv=>whnf);refine pbr_ogrd h21 (fun g28 h21 => ?_);(conv=>whnf);refine pbr_ogrd h21 (fun g29 h21 => ?_);(conv=>whnf);refine pbr_t g22 ?_;(conv=>whnf);refine nth_a (l := e19.2) (f := eI) h21 (fun x30 h31 h21 => ?_)
                  (conv=>whnf);refine ⟨?_, trivial⟩;(conv=>whnf);refine pbr_t g22 ?_;(conv=>whnf);refine pcallv_in ?_;(conv=>whnf);refine pw_so ?_;refine po_all ?_;(conv=>whnf);refine pw_sd ?_;(conv=>whnf);refine pbr_ogrd h21 (fun g33 h21 => ?_);(conv=>whnf);refine nth_o (l := a0) h21 (fun x34 _ h21 => ?_);(conv=>whnf);refine pbr_ogrd h21 (fun g35 h21 => ?_);(conv=>whnf);refine nth_o (l := a0) h21 (fun x36 _ h21 => ?_);(conv=>whnf);refine pw_ret ?_;(conv=>whnf);refine ⟨by repeat (first | exact trivial | refine And.intro rfl ?_ | refine And.intro (lev_a (l := e19.2) (f := eI) rfl h26) ?_ | refine And.intro (lev_a (l := e19.2) (f := eI) rfl h31) ?_), ?_⟩
                  (conv=>whnf);refine pbr_t g22 ?_;(conv=>whnf);refine pbr_t g22 ?_;(conv=>whnf);refine pw_cond ?_;(conv=>whnf);refine pbr_oite h21 (fun g37 h21 => ?_) (fun g37 h21 => ?_)
                  · (conv=>whnf);refine pw_skip ?_;(conv=>whnf);refine pw_seq ?_;refine pw_block ?_;refine pw_draw ?_;(conv=>whnf);refine pbr_t g28 ?_;(conv=>whnf);refine pbr_t g29 ?_;(conv=>whnf);refine nth_a (l := e19.2) (f := eI) h21 (fun x38 h39 h21 => ?_);(conv=>whnf);refine pbr_t g23 ?_;(conv=>whnf);refine pbr_t g24 ?_;(conv=>whnf);refine nth_a (l := e19.2) (f := eI) h21 (fun x41 h42 h21 => ?_);(conv=>whnf);refine pbr_t g23 ?_;(conv=>whnf);refine pbr_t g24 ?_;(conv=>whnf);refine ⟨?_, trivial⟩;(conv=>whnf);obtain ⟨g44, h21⟩ := ogrd_some h21;refine set_a (l := e19.2) (f := eI) (x := x38) g44 rfl ?_;(conv=>whnf)
                    refine ⟨by repeat (first | exact trivial | refine And.intro rfl ?_ | refine And.intro (lev_a (l := e19.2) (f := eI) rfl h39) ?_ | refine And.intro (lev_a (l := e19.2) (f := eI) rfl h42) ?_), ?_⟩;(conv=>whnf);refine pbr_t g28 ?_;(conv=>whnf);refine pbr_t g29 ?_;(conv=>whnf);refine ⟨?_, trivial⟩;(conv=>whnf);obtain ⟨g45, h21⟩ := ogrd_some h21;refine set_a (l := (e19.2.set e19.1.toNat x38)) (f := eI) (x := x41) g45 rfl ?_;(conv=>whnf);refine ⟨by repeat (first | exact trivial | refine And.intro rfl ?_ | refine And.intro (lev_a (l := e19.2) (f := eI) rfl h39) ?_ | refine And.intro (lev_a (l := e19.2) (f := eI) rfl h42) ?_), ?_⟩
                    (conv=>whnf);refine pw_ops ?_;refine po_all ?_;(conv=>whnf);cases h21;refine ⟨_, rfl, ?_⟩;exact .sub' (Nat.le_of_ble_eq_true rfl) (.cons rfl (.cons rfl (.cons rfl (.cons rfl (.cons rfl (.cons rfl .nil))))))
                  · (conv=>whnf);refine pw_exit ?_;(conv=>whnf);cases h21;refine ⟨_, rfl, ?_⟩; rintro rfl;(conv=>whnf);exact ⟨(.cons rfl (.cons rfl (.cons rfl (.cons rfl (.cons rfl .nil))))), rfl⟩
                · (conv=>whnf);refine pbr_f g22 ?_;(conv=>whnf);refine pbr_f g22 ?_;(conv=>whnf);refine pbr_f g22 ?_;(conv=>whnf);refine pbr_f g22 ?_;(conv=>whnf);refine pbr_f g22 ?_;(conv=>whnf);refine pbr_f g22 ?_;(conv=>whnf);refine pbr_f g22 ?_;(conv=>whnf);refine pbr_f g22 ?_;(conv=>whnf);refine pbr_f g22 ?_;(conv=>whnf);refine ⟨?_, trivial⟩;(conv=>whnf);refine pbr_f g22 ?_;(conv=>whnf);refine pbr_f g22 ?_;(conv=>whnf);refine pbr_f g22 ?_;(conv=>whnf);refine pw_cond ?_;(conv=>whnf);refine pw_exit ?_;(conv=>whnf);cases h21;refine ⟨_, rfl, ?_⟩; rintro rfl;(conv=>whnf);exact ⟨(.cons rfl (.cons rfl (.cons rfl (.cons rfl (.cons rfl .nil))))), rfl⟩
            · refine pw_ops ?_;refine po_all ?_;(conv=>whnf);cases h13;refine ⟨_, rfl, ?_⟩;exact .sub' (Nat.le_of_ble_eq_true rfl) (.cons rfl (.cons rfl (.cons rfl (.cons rfl (.cons rfl .nil)))))
          · (conv=>whnf);refine pw_exit ?_;(conv=>whnf);obtain ⟨w49, rfl, h48⟩ := oinr_some h13;refine ⟨_, rfl, ?_⟩; rintro rfl;(conv=>whnf);refine pw_so ?_;refine po_all ?_;(conv=>whnf);refine pw_ops ?_;refine po_all ?_;(conv=>whnf);cases h48;refine ⟨_, rfl, ?_⟩;exact .sub' (Nat.le_of_ble_eq_true rfl) (.cons rfl (.cons rfl (.cons rfl (.cons rfl (.cons rfl (.cons rfl .nil))))))
      · (conv=>whnf);refine pw_exit ?_;(conv=>whnf);cases h9;refine ⟨_, rfl, ?_⟩; rintro rfl;(conv=>whnf);exact ⟨(.cons rfl (.cons rfl (.cons rfl (.cons rfl (.cons rfl .nil))))), rfl⟩
  · refine pw_so ?_;refine po_all ?_;(conv=>whnf);refine pcalls_in ?_;(conv=>whnf);refine pw_so ?_;refine po_all ?_;(conv=>whnf);refine pw_block ?_;refine pw_loop (τ := Int × (List Int)) (fun e => ⟨[(0, (.slice (some ⟨1, 0, none⟩) y1.length 2)), (1, (.int .i64 r3.1)), (2, (.int .i64 (y1.length : Int))), (3, (.func (.func (E.id 245)) ⟨[]⟩ ⟨[(.pointer (some ⟨0, 0, none⟩))]⟩)), (8, (.int .i64 e.1))], ⟨2, [(1, .rw (e.2.map eI)), (0, .rw [(VS 3 (a0.map e_SII))])], false⟩⟩) H ?_ (fun _ => Nat.le_of_ble_eq_true rfl) ?_
    · exact .sub' (Nat.le_of_ble_eq_true rfl) (.cons rfl (.cons rfl (.cons rfl (.cons rfl (.cons rfl .nil)))))
    · intro e51 x52 h53;refine pw_seq ?_;refine pw_so ?_;refine po_all ?_;(conv=>whnf);refine pw_cond ?_;(conv=>whnf);refine pbr_oite h53 (fun g54 h53 => ?_) (fun g54 h53 => ?_)
      · (conv=>whnf);refine pw_skip ?_;(conv=>whnf);obtain ⟨r55, h56, h53⟩ := obnd_some h53;refine pw_join (ρ := (List Int)) (fun e => ⟨[(0, (.slice (some ⟨1, 0, none⟩) y1.length 2)), (1, (.int .i64 r3.1)), (2, (.int .i64 (y1.length : Int))), (3, (.func (.func (E.id 245)) ⟨[]⟩ ⟨[(.pointer (some ⟨0, 0, none⟩))]⟩)), (8, (.int .i64 e51.1))], ⟨2, [(1, .rw (e.map eI)), (0, .rw [(VS 3 (a0.map e_SII))])], false⟩⟩) r55 ?_ ?_
        · refine pw_block ?_;refine pw_so ?_;refine po_all ?_;(conv=>whnf);refine pw_block ?_;refine pw_loop (τ := Int × (List Int)) (fun e => ⟨[(0, (.slice (some ⟨1, 0, none⟩) y1.length 2)), (1, (.int .i64 r3.1)), (2, (.int .i64 (y1.length : Int))), (3, (.func (.func (E.id 245)) ⟨[]⟩ ⟨[(.pointer (some ⟨0, 0, none⟩))]⟩)), (8, (.int .i64 e51.1)), (9, (.int .i64 e.1))], ⟨2, [(1, .rw (e.2.map eI)), (0, .rw [(VS 3 (a0.map e_SII))])], false⟩⟩) h56 ?_ (fun _ => Nat.le_of_ble_eq_true rfl) ?_
          · exact .sub' (Nat.le_of_ble_eq_true rfl) (.cons rfl (.cons rfl (.cons rfl (.cons rfl (.cons rfl (.cons rfl .nil))))))
          · intro e59 x60 h61;refine pw_seq ?_;refine pw_sd ?_;(conv=>whnf);refine pbr_oite h61 (fun g62 h61 => ?_) (fun g62 h61 => ?_)
            · (conv=>whnf);refine pbr_t g62 ?_;(conv=>whnf);refine pbr_t g62 ?_;(conv=>whnf);refine pbr_t g62 ?_;(conv=>whnf);refine pbr_ogrd h61 (fun g63 h61 => ?_);(conv=>whnf);refine pbr_ogrd h61 (fun g64 h61 => ?_);(conv=>whnf);refine pbr_t g62 ?_;(conv=>whnf);refine nth_a (l := e59.2) (f := eI) h61 (fun x65 h66 h61 => ?_);(conv=>whnf);refine pbr_t g62 ?_;(conv=>whnf);refine pbr_t g62 ?_;(conv=>whnf);refine pbr_t g62 ?_;(conv=>whnf);refine pbr_t g62 ?_;(conv=>whnf);refine pbr_ogrd h61 (fun g68 h61 => ?_);(conv=>whnf);refine pbr_ogrd h61 (fun g69 h61 => ?_);(conv=>whnf);refine pbr_t g62 ?_;(conv=>whnf);refine nth_a (l := e59.2) (f := eI) h61 (fun x70 h71 h61 => ?_)
              (conv=>whnf);refine ⟨?_, trivial⟩;(conv=>whnf);refine pbr_t g62 ?_;(conv=>whnf);refine pcallv_in ?_;(conv=>whnf);refine pw_so ?_;refine po_all ?_;(conv=>whnf);refine pw_sd ?_;(conv=>whnf);refine pbr_ogrd h61 (fun g73 h61 => ?_);(conv=>whnf);refine nth_o (l := a0) h61 (fun x74 _ h61 => ?_);(conv=>whnf);refine pbr_ogrd h61 (fun g75 h61 => ?_);(conv=>whnf);refine nth_o (l := a0) h61 (fun x76 _ h61 => ?_);(conv=>whnf);refine pw_ret ?_;(conv=>whnf);refine ⟨by repeat (first | exact trivial | refine And.intro rfl ?_ | refine And.intro (lev_a (l := e59.2) (f := eI) rfl h66) ?_ | refine And.intro (lev_a (l := e59.2) (f := eI) rfl h71) ?_), ?_⟩
              (conv=>whnf);refine pbr_t g62 ?_;(conv=>whnf);refine pbr_t g62 ?_;(conv=>whnf);refine pw_cond ?_;(conv=>whnf);refine pbr_oite h61 (fun g77 h61 => ?_) (fun g77 h61 => ?_)
              · (conv=>whnf);refine pw_skip ?_;(conv=>whnf);refine pw_seq ?_;refine pw_block ?_;refine pw_draw ?_;(conv=>whnf);refine pbr_t g68 ?_;(conv=>whnf);refine pbr_t g69 ?_;(conv=>whnf);refine nth_a (l := e59.2) (f := eI) h61 (fun x78 h79 h61 => ?_);(conv=>whnf);refine pbr_t g63 ?_;(conv=>whnf);refine pbr_t g64 ?_;(conv=>whnf);refine nth_a (l := e59.2) (f := eI) h61 (fun x81 h82 h61 => ?_);(conv=>whnf);refine pbr_t g63 ?_;(conv=>whnf);refine pbr_t g64 ?_;(conv=>whnf);refine ⟨?_, trivial⟩;(conv=>whnf);obtain ⟨g84, h61⟩ := ogrd_some h61;refine set_a (l := e59.2) (f := eI) (x := x78) g84 rfl ?_;(conv=>whnf)
                refine ⟨by repeat (first | exact trivial | refine And.intro rfl ?_ | refine And.intro (lev_a (l := e59.2) (f := eI) rfl h79) ?_ | refine And.intro (lev_a (l := e59.2) (f := eI) rfl h82) ?_), ?_⟩;(conv=>whnf);refine pbr_t g68 ?_;(conv=>whnf);refine pbr_t g69 ?_;(conv=>whnf);refine ⟨?_, trivial⟩;(conv=>whnf);obtain ⟨g85, h61⟩ := ogrd_some h61;refine set_a (l := (e59.2.set e59.1.toNat x78)) (f := eI) (x := x81) g85 rfl ?_;(conv=>whnf);refine ⟨by repeat (first | exact trivial | refine And.intro rfl ?_ | refine And.intro (lev_a (l := e59.2) (f := eI) rfl h79) ?_ | refine And.intro (lev_a (l := e59.2) (f := eI) rfl h82) ?_), ?_⟩
                (conv=>whnf);refine pw_ops ?_;refine po_all ?_;(conv=>whnf);cases h61;refine ⟨_, rfl, ?_⟩;exact .sub' (Nat.le_of_ble_eq_true rfl) (.cons rfl (.cons rfl (.cons rfl (.cons rfl (.cons rfl (.cons rfl .nil))))))
              · (conv=>whnf);refine pw_exit ?_;(conv=>whnf);cases h61;refine ⟨_, rfl, ?_⟩; rintro rfl;(conv=>whnf);exact ⟨(.cons rfl (.cons rfl (.cons rfl (.cons rfl (.cons rfl .nil))))), rfl⟩
            · (conv=>whnf);refine pbr_f g62 ?_;(conv=>whnf);refine pbr_f g62 ?_;(conv=>whnf);refine pbr_f g62 ?_;(conv=>whnf);refine pbr_f g62 ?_;(conv=>whnf);refine pbr_f g62 ?_;(conv=>whnf);refine pbr_f g62 ?_;(conv=>whnf);refine pbr_f g62 ?_;(conv=>whnf);refine pbr_f g62 ?_;(conv=>whnf);refine pbr_f g62 ?_;(conv=>whnf);refine ⟨?_, trivial⟩;(conv=>whnf);refine pbr_f g62 ?_;(conv=>whnf);refine pbr_f g62 ?_;(conv=>whnf);refine pbr_f g62 ?_;(conv=>whnf);refine pw_cond ?_;(conv=>whnf);refine pw_exit ?_;(conv=>whnf);cases h61;refine ⟨_, rfl, ?_⟩; rintro rfl;(conv=>whnf);exact ⟨(.cons rfl (.cons rfl (.cons rfl (.cons rfl (.cons rfl .nil))))), rfl⟩
        · refine pw_ops ?_;refine po_all ?_;(conv=>whnf);cases h53;refine ⟨_, rfl, ?_⟩;exact .sub' (Nat.le_of_ble_eq_true rfl) (.cons rfl (.cons rfl (.cons rfl (.cons rfl (.cons rfl .nil)))))
      · (conv=>whnf);refine pw_exit ?_;(conv=>whnf);obtain ⟨w105, rfl, h88⟩ := oinr_some h53;refine ⟨_, rfl, ?_⟩; rintro rfl;(conv=>whnf);refine pw_block ?_;refine pw_loop (τ := Unit) (fun e => ⟨[(0, (.slice (some ⟨1, 0, none⟩) y1.length 2)), (1, (.int .i64 (y1.length : Int))), (2, (.func (.func (E.id 245)) ⟨[]⟩ ⟨[(.pointer (some ⟨0, 0, none⟩))]⟩)), (6, (.int .i64 20))], ⟨2, [(1, .rw (e51.2.map eI)), (0, .rw [(VS 3 (a0.map e_SII))])], false⟩⟩) h88 ?_ (fun _ => Nat.le_of_ble_eq_true rfl) ?_
        · exact .sub' (Nat.le_of_ble_eq_true rfl) (.cons rfl (.cons rfl (.cons rfl (.cons rfl .nil))))
        · intro e89 x90 h91;refine pw_seq ?_;refine pw_so ?_;refine po_all ?_;(conv=>whnf);refine pw_cond ?_;(conv=>whnf);refine pbr_oite h91 (fun g92 h91 => ?_) (fun g92 h91 => ?_)
          · (conv=>whnf);cases h91
          · (conv=>whnf);refine pw_exit ?_;(conv=>whnf);obtain ⟨w104, rfl, h102⟩ := oinr_some h91;refine ⟨_, rfl, ?_⟩; rintro rfl;(conv=>whnf);refine pw_so ?_;refine po_all ?_;(conv=>whnf);refine pw_ret ?_;(conv=>whnf);obtain ⟨g103, h102⟩ := ogrd_some h102;cases h102;exact ⟨fun b => Nat.beq b 1, .slm rfl rfl g103 (fun _ => rfl)⟩


end So
namespace Em
def f73 (l : List Int) : Option (List Int) := match l with
  | [] => some []
  | _ => none
theorem c73 {l : List Int} {x : List Int} (H : f73 l = some x) : ICalls E 73 [VS 1 (l.map eI)] AHeap.none fun v _ => v = VS 1 (x.map eI) := by
  unfold f73 at H
  split at H
  · injection H with H; subst H; exact c73e
  · cases H

/-- (guidevane/dispatch.revisions).byDue -/
noncomputable def f227 [LO]  (a0 : List (ByteArray × Int × Int)) (a1 : List Int) : Option ((List Int)) :=
  obnd (f73 a1) fun (y1 : (List Int)) =>
  obnd (
   oloop (τ := Int × Int) (ρ := Int) (fun e7 =>
    oite ((ile e7.2 ((y1.map eI).length : Int))) (
     oloop (τ := Int) (ρ := (Int × Int) ⊕ Int) (fun e11 =>
      oite ((ilt e11 e7.2)) (
       obnd (
        oloop (τ := Unit) (ρ := Unit) (fun e19 =>
         oite ((ilt e7.1 e11)) (
          ogrd ((ile 0 e11)) (
          obnd (y1[e11.toNat]?) fun (x24 : Int) =>
          ogrd ((ile 0 (IntKind.i64.wrap (e11 - (1 : Int))))) (
          obnd (y1[(IntKind.i64.wrap (e11 - (1 : Int))).toNat]?) fun (x26 : Int) =>
          ogrd ((ile 0 x24)) (
          obnd (a0[x24.toNat]?) fun (x28 : ByteArray × Int × Int) =>
          ogrd ((ile 0 x26)) (
          obnd (a0[x26.toNat]?) fun (x30 : ByteArray × Int × Int) =>
          oite ((ilt (IntKind.i64.wrap (x28.2.1 - x30.2.1)) (0 : Int))) (
           none
            ) (
           some (.inr (()))
            )
          )
          )
          )
          )
           ) (
          some (.inr (()))
           )
          ) ()
         ) fun (_ : Unit) =>
       some (.inl (IntKind.i64.wrap (e11 + (1 : Int))))
        ) (
       oinr (
         some (.inl (e7.2, (IntKind.i64.wrap (e7.2 + (20 : Int)))))
         )
        )
       ) (IntKind.i64.wrap (e7.1 + (1 : Int)))
      ) (
     some (.inr (e7.1))
      )
     ) (((0 : Int), (20 : Int)))
    ) fun (r3 : Int) =>
  oloop (τ := Int) (ρ := (List Int)) (fun e40 =>
   oite ((ilt e40 ((y1.map eI).length : Int))) (
    obnd (
     oloop (τ := Unit) (ρ := Unit) (fun e48 =>
      oite ((ilt r3 e40)) (
       ogrd ((ile 0 e40)) (
       obnd (y1[e40.toNat]?) fun (x53 : Int) =>
       ogrd ((ile 0 (IntKind.i64.wrap (e40 - (1 : Int))))) (
       obnd (y1[(IntKind.i64.wrap (e40 - (1 : Int))).toNat]?) fun (x55 : Int) =>
       ogrd ((ile 0 x53)) (
       obnd (a0[x53.toNat]?) fun (x57 : ByteArray × Int × Int) =>
       ogrd ((ile 0 x55)) (
       obnd (a0[x55.toNat]?) fun (x59 : ByteArray × Int × Int) =>
       oite ((ilt (IntKind.i64.wrap (x57.2.1 - x59.2.1)) (0 : Int))) (
        none
         ) (
        some (.inr (()))
         )
       )
       )
       )
       )
        ) (
       some (.inr (()))
        )
       ) ()
      ) fun (_ : Unit) =>
    some (.inl (IntKind.i64.wrap (e40 + (1 : Int))))
     ) (
    oinr (
      oloop (τ := Unit) (ρ := (List Int)) (fun e67 =>
       oite ((ilt (20 : Int) ((y1.map eI).length : Int))) (
        none
         ) (
        oinr (
          some y1
          )
         )
        ) ()
      )
     )
    ) (IntKind.i64.wrap (r3 + (1 : Int)))
set_option maxHeartbeats 1000000 in
theorem c227 [LO]  {a0 : List (ByteArray × Int × Int)} {a1 : List Int} {x : (List Int)} (H : f227 a0 a1 = some x) : ICalls E 227 [(VS 3 (a0.map e_SII)), (VS 1 (a1.map eI))] AHeap.none fun v _ => v = (VS 1 (x.map eI)) := by
  refine ICalls.frz ?_;refine icalls_fn (pfnw ?_); unfold f227 at H;(conv=>whnf);refine pw_so ?_;refine po_all ?_;(conv=>whnf);refine pw_so ?_;refine po_all ?_;(conv=>whnf);obtain ⟨y1, h2, H⟩ := obnd_some H;refine (c73 h2).go ?_;(conv=>whnf);refine pw_so ?_;refine po_all ?_;(conv=>whnf);refine pcalls_in ?_;(conv=>whnf);refine pw_ops ?_;refine po_all ?_;(conv=>whnf);refine pcalls_in ?_;(conv=>whnf);refine pw_so ?_;refine po_all ?_;(conv=>whnf);refine pw_so ?_;refine po_all ?_;(conv=>whnf);obtain ⟨r3, h4, H⟩ := obnd_some H;refine pw_join (ρ := Int) (fun e => ⟨[(0, (VS 1 (y1.map eI))), (1, (.int .i64 ((y1.map eI).length : Int))), (2, (.func (.func (E.id 245)) ⟨[]⟩ ⟨[(.pointer (some ⟨0, 0, none⟩))]⟩)), (6, (.int .i64 20)), (7, (.int .i64 e))], ⟨1, [(0, .rw [(VS 3 (a0.map e_SII))])], false⟩⟩) r3 ?_ ?_
  · refine pw_block ?_;refine pw_loop (τ := Int × Int) (fun e => ⟨[(0, (VS 1 (y1.map eI))), (1, (.int .i64 ((y1.map eI).length : Int))), (2, (.func (.func (E.id 245)) ⟨[]⟩ ⟨[(.pointer (some ⟨0, 0, none⟩))]⟩)), (6, (.int .i64 20)), (7, (.int .i64 e.1)), (8, (.int .i64 e.2))], ⟨1, [(0, .rw [(VS 3 (a0.map e_SII))])], false⟩⟩) h4 ?_ (fun _ => Nat.le_of_ble_eq_true rfl) ?_
    · exact .sub' (Nat.le_of_ble_eq_true rfl) (.cons rfl (.cons rfl (.cons rfl (.cons rfl (.cons rfl (.cons rfl .nil))))))
    · intro e7 x8 h9;refine pw_seq ?_;refine pw_so ?_;refine po_all ?_;(conv=>whnf);refine pw_cond ?_;(conv=>whnf);refine pbr_oite h9 (fun g10 h9 => ?_) (fun g10 h9 => ?_)
      · (conv=>whnf);refine pw_skip ?_;(conv=>whnf);refine pw_block ?_;refine pw_so ?_;refine po_all ?_;(conv=>whnf);refine pcalls_in ?_;(conv=>whnf);refine pw_so ?_;refine po_all ?_;(conv=>whnf);refine pw_block ?_;refine pw_loop (τ := Int) (fun e => ⟨[(0, (VS 1 (y1.map eI))), (1, (.int .i64 e7.1)), (2, (.int .i64 e7.2)), (3, (.func (.func (E.id 245)) ⟨[]⟩ ⟨[(.pointer (some ⟨0, 0, none⟩))]⟩)), (8, (.int .i64 e))], ⟨1, [(0, .rw [(VS 3 (a0.map e_SII))])], false⟩⟩) h9 ?_ (fun _ => Nat.le_of_ble_eq_true rfl) ?_
        · exact .sub' (Nat.le_of_ble_eq_true rfl) (.cons rfl (.cons rfl (.cons rfl (.cons rfl (.cons rfl .nil)))))
        · intro e11 x12 h13;refine pw_seq ?_;refine pw_so ?_;refine po_all ?_;(conv=>whnf);refine pw_cond ?_;(conv=>whnf);refine pbr_oite h13 (fun g14 h13 => ?_) (fun g14 h13 => ?_)
          · (conv=>whnf);refine pw_skip ?_;(conv=>whnf);obtain ⟨r15, h16, h13⟩ := obnd_some h13;refine pw_join (ρ := Unit) (fun e => ⟨[(0, (VS 1 (y1.map eI))), (1, (.int .i64 e7.1)), (2, (.int .i64 e7.2)), (3, (.func (.func (E.id 245)) ⟨[]⟩ ⟨[(.pointer (some ⟨0, 0, none⟩))]⟩)), (8, (.int .i64 e11))], ⟨1, [(0, .rw [(VS 3 (a0.map e_SII))])], false⟩⟩) r15 ?_ ?_
            · refine pw_block ?_;refine pw_so ?_;refine po_all ?_;(conv=>whnf);refine pw_block ?_;refine pw_loop (τ := Unit) (fun e => ⟨[(0, (VS 1 (y1.map eI))), (1, (.int .i64 e7.1)), (2, (.int .i64 e7.2)), (3, (.func (.func (E.id 245)) ⟨[]⟩ ⟨[(.pointer (some ⟨0, 0, none⟩))]⟩)), (8, (.int .i64 e11)), (9, (.int .i64 e11))], ⟨1, [(0, .rw [(VS 3 (a0.map e_SII))])], false⟩⟩) h16 ?_ (fun _ => Nat.le_of_ble_eq_true rfl) ?_
              · exact .sub' (Nat.le_of_ble_eq_true rfl) (.cons rfl (.cons rfl (.cons rfl (.cons rfl (.cons rfl (.cons rfl .nil))))))
              · intro e19 x20 h21;refine pw_seq ?_;refine pw_sd ?_;(conv=>whnf);refine pbr_oite h21 (fun g22 h21 => ?_) (fun g22 h21 => ?_)
                · (conv=>whnf);refine pbr_t g22 ?_;(conv=>whnf);refine pbr_t g22 ?_;(conv=>whnf);refine pbr_t g22 ?_;(conv=>whnf);refine pbr_ogrd h21 (fun g23 h21 => ?_);(conv=>whnf);refine nth_o (l := y1) h21 (fun x24 _ h21 => ?_);(conv=>whnf);refine pbr_t g22 ?_;(conv=>whnf);refine pbr_t g22 ?_;(conv=>whnf);refine pbr_t g22 ?_;(conv=>whnf);refine pbr_t g22 ?_;(conv=>whnf);refine pbr_t g22 ?_;(conv=>whnf);refine pbr_ogrd h21 (fun g25 h21 => ?_);(conv=>whnf);refine nth_o (l := y1) h21 (fun x26 _ h21 => ?_);(conv=>whnf);refine pbr_t g22 ?_;(conv=>whnf);refine ⟨?_, trivial⟩;(conv=>whnf);refine pbr_t g22 ?_;(conv=>whnf)
                  refine pcallv_in ?_;(conv=>whnf);refine pw_so ?_;refine po_all ?_;(conv=>whnf);refine pw_sd ?_;(conv=>whnf);refine pbr_ogrd h21 (fun g27 h21 => ?_);(conv=>whnf);refine nth_o (l := a0) h21 (fun x28 _ h21 => ?_);(conv=>whnf);refine pbr_ogrd h21 (fun g29 h21 => ?_);(conv=>whnf);refine nth_o (l := a0) h21 (fun x30 _ h21 => ?_);(conv=>whnf);refine pw_ret ?_;(conv=>whnf);refine ⟨by repeat (first | exact trivial | refine And.intro rfl ?_), ?_⟩;(conv=>whnf);refine pbr_t g22 ?_;(conv=>whnf);refine pbr_t g22 ?_;(conv=>whnf);refine pw_cond ?_;(conv=>whnf);refine pbr_oite h21 (fun g31 h21 => ?_) (fun g31 h21 => ?_)
                  · (conv=>whnf);cases h21
                  · (conv=>whnf);refine pw_exit ?_;(conv=>whnf);cases h21;refine ⟨_, rfl, ?_⟩; rintro rfl;(conv=>whnf);exact ⟨(.cons rfl (.cons rfl (.cons rfl (.cons rfl (.cons rfl .nil))))), rfl⟩
                · (conv=>whnf);refine pbr_f g22 ?_;(conv=>whnf);refine pbr_f g22 ?_;(conv=>whnf);refine pbr_f g22 ?_;(conv=>whnf);refine pbr_f g22 ?_;(conv=>whnf);refine pbr_f g22 ?_;(conv=>whnf);refine pbr_f g22 ?_;(conv=>whnf);refine pbr_f g22 ?_;(conv=>whnf);refine pbr_f g22 ?_;(conv=>whnf);refine pbr_f g22 ?_;(conv=>whnf);refine ⟨?_, trivial⟩;(conv=>whnf);refine pbr_f g22 ?_;(conv=>whnf);refine pbr_f g22 ?_;(conv=>whnf);refine pbr_f g22 ?_;(conv=>whnf);refine pw_cond ?_;(conv=>whnf);refine pw_exit ?_;(conv=>whnf);cases h21;refine ⟨_, rfl, ?_⟩; rintro rfl;(conv=>whnf);exact ⟨(.cons rfl (.cons rfl (.cons rfl (.cons rfl (.cons rfl .nil))))), rfl⟩
            · refine pw_ops ?_;refine po_all ?_;(conv=>whnf);cases h13;refine ⟨_, rfl, ?_⟩;exact .sub' (Nat.le_of_ble_eq_true rfl) (.cons rfl (.cons rfl (.cons rfl (.cons rfl (.cons rfl .nil)))))
          · (conv=>whnf);refine pw_exit ?_;(conv=>whnf);obtain ⟨w38, rfl, h37⟩ := oinr_some h13;refine ⟨_, rfl, ?_⟩; rintro rfl;(conv=>whnf);refine pw_so ?_;refine po_all ?_;(conv=>whnf);refine pw_ops ?_;refine po_all ?_;(conv=>whnf);cases h37;refine ⟨_, rfl, ?_⟩;exact .sub' (Nat.le_of_ble_eq_true rfl) (.cons rfl (.cons rfl (.cons rfl (.cons rfl (.cons rfl (.cons rfl .nil))))))
      · (conv=>whnf);refine pw_exit ?_;(conv=>whnf);cases h9;refine ⟨_, rfl, ?_⟩; rintro rfl;(conv=>whnf);exact ⟨(.cons rfl (.cons rfl (.cons rfl (.cons rfl (.cons rfl .nil))))), rfl⟩
  · refine pw_so ?_;refine po_all ?_;(conv=>whnf);refine pcalls_in ?_;(conv=>whnf);refine pw_so ?_;refine po_all ?_;(conv=>whnf);refine pw_block ?_;refine pw_loop (τ := Int) (fun e => ⟨[(0, (VS 1 (y1.map eI))), (1, (.int .i64 r3)), (2, (.int .i64 ((y1.map eI).length : Int))), (3, (.func (.func (E.id 245)) ⟨[]⟩ ⟨[(.pointer (some ⟨0, 0, none⟩))]⟩)), (8, (.int .i64 e))], ⟨1, [(0, .rw [(VS 3 (a0.map e_SII))])], false⟩⟩) H ?_ (fun _ => Nat.le_of_ble_eq_true rfl) ?_
    · exact .sub' (Nat.le_of_ble_eq_true rfl) (.cons rfl (.cons rfl (.cons rfl (.cons rfl (.cons rfl .nil)))))
    · intro e40 x41 h42;refine pw_seq ?_;refine pw_so ?_;refine po_all ?_;(conv=>whnf);refine pw_cond ?_;(conv=>whnf);refine pbr_oite h42 (fun g43 h42 => ?_) (fun g43 h42 => ?_)
      · (conv=>whnf);refine pw_skip ?_;(conv=>whnf);obtain ⟨r44, h45, h42⟩ := obnd_some h42;refine pw_join (ρ := Unit) (fun e => ⟨[(0, (VS 1 (y1.map eI))), (1, (.int .i64 r3)), (2, (.int .i64 ((y1.map eI).length : Int))), (3, (.func (.func (E.id 245)) ⟨[]⟩ ⟨[(.pointer (some ⟨0, 0, none⟩))]⟩)), (8, (.int .i64 e40))], ⟨1, [(0, .rw [(VS 3 (a0.map e_SII))])], false⟩⟩) r44 ?_ ?_
        · refine pw_block ?_;refine pw_so ?_;refine po_all ?_;(conv=>whnf);refine pw_block ?_;refine pw_loop (τ := Unit) (fun e => ⟨[(0, (VS 1 (y1.map eI))), (1, (.int .i64 r3)), (2, (.int .i64 ((y1.map eI).length : Int))), (3, (.func (.func (E.id 245)) ⟨[]⟩ ⟨[(.pointer (some ⟨0, 0, none⟩))]⟩)), (8, (.int .i64 e40)), (9, (.int .i64 e40))], ⟨1, [(0, .rw [(VS 3 (a0.map e_SII))])], false⟩⟩) h45 ?_ (fun _ => Nat.le_of_ble_eq_true rfl) ?_
          · exact .sub' (Nat.le_of_ble_eq_true rfl) (.cons rfl (.cons rfl (.cons rfl (.cons rfl (.cons rfl (.cons rfl .nil))))))
          · intro e48 x49 h50;refine pw_seq ?_;refine pw_sd ?_;(conv=>whnf);refine pbr_oite h50 (fun g51 h50 => ?_) (fun g51 h50 => ?_)
            · (conv=>whnf);refine pbr_t g51 ?_;(conv=>whnf);refine pbr_t g51 ?_;(conv=>whnf);refine pbr_t g51 ?_;(conv=>whnf);refine pbr_ogrd h50 (fun g52 h50 => ?_);(conv=>whnf);refine nth_o (l := y1) h50 (fun x53 _ h50 => ?_);(conv=>whnf);refine pbr_t g51 ?_;(conv=>whnf);refine pbr_t g51 ?_;(conv=>whnf);refine pbr_t g51 ?_;(conv=>whnf);refine pbr_t g51 ?_;(conv=>whnf);refine pbr_t g51 ?_;(conv=>whnf);refine pbr_ogrd h50 (fun g54 h50 => ?_);(conv=>whnf);refine nth_o (l := y1) h50 (fun x55 _ h50 => ?_);(conv=>whnf);refine pbr_t g51 ?_;(conv=>whnf);refine ⟨?_, trivial⟩;(conv=>whnf);refine pbr_t g51 ?_;(conv=>whnf)
              refine pcallv_in ?_;(conv=>whnf);refine pw_so ?_;refine po_all ?_;(conv=>whnf);refine pw_sd ?_;(conv=>whnf);refine pbr_ogrd h50 (fun g56 h50 => ?_);(conv=>whnf);refine nth_o (l := a0) h50 (fun x57 _ h50 => ?_);(conv=>whnf);refine pbr_ogrd h50 (fun g58 h50 => ?_);(conv=>whnf);refine nth_o (l := a0) h50 (fun x59 _ h50 => ?_);(conv=>whnf);refine pw_ret ?_;(conv=>whnf);refine ⟨by repeat (first | exact trivial | refine And.intro rfl ?_), ?_⟩;(conv=>whnf);refine pbr_t g51 ?_;(conv=>whnf);refine pbr_t g51 ?_;(conv=>whnf);refine pw_cond ?_;(conv=>whnf);refine pbr_oite h50 (fun g60 h50 => ?_) (fun g60 h50 => ?_)
              · (conv=>whnf);cases h50
              · (conv=>whnf);refine pw_exit ?_;(conv=>whnf);cases h50;refine ⟨_, rfl, ?_⟩; rintro rfl;(conv=>whnf);exact ⟨(.cons rfl (.cons rfl (.cons rfl (.cons rfl (.cons rfl .nil))))), rfl⟩
            · (conv=>whnf);refine pbr_f g51 ?_;(conv=>whnf);refine pbr_f g51 ?_;(conv=>whnf);refine pbr_f g51 ?_;(conv=>whnf);refine pbr_f g51 ?_;(conv=>whnf);refine pbr_f g51 ?_;(conv=>whnf);refine pbr_f g51 ?_;(conv=>whnf);refine pbr_f g51 ?_;(conv=>whnf);refine pbr_f g51 ?_;(conv=>whnf);refine pbr_f g51 ?_;(conv=>whnf);refine ⟨?_, trivial⟩;(conv=>whnf);refine pbr_f g51 ?_;(conv=>whnf);refine pbr_f g51 ?_;(conv=>whnf);refine pbr_f g51 ?_;(conv=>whnf);refine pw_cond ?_;(conv=>whnf);refine pw_exit ?_;(conv=>whnf);cases h50;refine ⟨_, rfl, ?_⟩; rintro rfl;(conv=>whnf);exact ⟨(.cons rfl (.cons rfl (.cons rfl (.cons rfl (.cons rfl .nil))))), rfl⟩
        · refine pw_ops ?_;refine po_all ?_;(conv=>whnf);cases h42;refine ⟨_, rfl, ?_⟩;exact .sub' (Nat.le_of_ble_eq_true rfl) (.cons rfl (.cons rfl (.cons rfl (.cons rfl (.cons rfl .nil)))))
      · (conv=>whnf);refine pw_exit ?_;(conv=>whnf);obtain ⟨w82, rfl, h66⟩ := oinr_some h42;refine ⟨_, rfl, ?_⟩; rintro rfl;(conv=>whnf);refine pw_block ?_;refine pw_loop (τ := Unit) (fun e => ⟨[(0, (VS 1 (y1.map eI))), (1, (.int .i64 ((y1.map eI).length : Int))), (2, (.func (.func (E.id 245)) ⟨[]⟩ ⟨[(.pointer (some ⟨0, 0, none⟩))]⟩)), (6, (.int .i64 20))], ⟨1, [(0, .rw [(VS 3 (a0.map e_SII))])], false⟩⟩) h66 ?_ (fun _ => Nat.le_of_ble_eq_true rfl) ?_
        · exact .sub' (Nat.le_of_ble_eq_true rfl) (.cons rfl (.cons rfl (.cons rfl (.cons rfl .nil))))
        · intro e67 x68 h69;refine pw_seq ?_;refine pw_so ?_;refine po_all ?_;(conv=>whnf);refine pw_cond ?_;(conv=>whnf);refine pbr_oite h69 (fun g70 h69 => ?_) (fun g70 h69 => ?_)
          · (conv=>whnf);cases h69
          · (conv=>whnf);refine pw_exit ?_;(conv=>whnf);obtain ⟨w81, rfl, h80⟩ := oinr_some h69;refine ⟨_, rfl, ?_⟩; rintro rfl;(conv=>whnf);refine pw_so ?_;refine po_all ?_;(conv=>whnf);refine pw_ret ?_;(conv=>whnf);cases h80; show ∃ D, Fz _ D 0 (VS 1 _) _;exact ⟨fun _ => false, .cl⟩


theorem nil (a0 : List (ByteArray × Int × Int)) : @f227 fuelLO a0 [] = some [] := rfl
end Em
end Go.Proofs.YtmbekcealcjabaaGreat.AM
