/- TopDispatchBounded: the statement and its card. Conditions: none beside the statement's own. -/
import Derived.Test.YtolapannkcdeeaaGreatDoorAmTopDispatchBoundedAll
import Derived.Test.YtolapannkcdeeaaGreatDoorAmLaid
import Derived.Test.YtolapannkcdeeaaGreatDoorAmData
import Derived.Test.YtolapannkcdeeaaGreatDoorRows
import Derived.Test.YtolapannkcdeeaaGreatDoorCards
import Derived.Test.YtolapannkcdeeaaGreatDoorTie
import Derived.ProofKit
import Derived.OpenShut
import Derived.Carry
import Derived.Lib.SmallJoins
import Derived.LaidMore
import Derived.Lay
import Derived.SevenTiedAt
import Derived.Stop.Joined
namespace Go.Proofs.YtolapannkcdeeaaGreatDoor.topDispatchBounded
set_option linter.unusedSimpArgs false
set_option linter.unusedVariables false
open Go.ChangeShapes Go.WideShapes Go.ChangeAt Go.RowKit Go.Joins
open Go.Proofs.YtolapannkcdeeaaGreatDoor.AM (calls_of dat_arg baseI GW GB laidL gwb_of)
theorem laidOut : laidOutB Tryz.prog = true := by kernel_rfl
theorem own : ownKnob Tryz.prog.godebug = none := by kernel_rfl
set_option maxRecDepth 100000 in
theorem contract (H : Type) (enc : TypeId × Value → H) (W : World) (base : Nat) (args : Array Value) (ds gs : List (DataW H)) (before : List MemPlace)
  (hval0 : ∀ (j : Nat) t v, Tryz.f4.params[j]? = some t → args[j]? = some v → Value.okWide Tryz.checked.prog W .any base t v)
  (hW : DataW.Whole enc Tryz.checked.prog Tryz.f4.params.toList Rows.topDispatchBoundedSpec.vars false W args.toList ds gs before)
  (hL : laidMetH Tryz.prog laidL W) (hsh : W.ShapedOpen Tryz.prog) :
  Calls Tryz.checked.prog 4 args W fun e W' => ∃ v, e = .returned v ∧ Rows.topDispatchBoundedSpec.post enc Tryz.checked.prog Tryz.f4 false true false false W args v W' := by
 have hval : ∀ (j : Nat) t v, Tryz.f4.params[j]? = some t → args[j]? = some v → Value.okWide Tryz.prog W .any base t v := hval0
 have hW' := hW
 obtain ⟨p, q, hA0, hV, rfl, hfz, hnd⟩ := hW
 have hA : DataW.TrodAll enc Tryz.prog W 0 (fun _ => true) true Tryz.f4.params.toList args.toList ds p := hA0
 rw [Tryz.params4] at hA hval
 obtain ⟨hg, hb⟩ := gwb_of hL hsh
 obtain ⟨v0, vs0, d0, ds0, p0, q0, hargs, rfl, rfl, h0, r0⟩ := trodAll_cons hA
 obtain ⟨v1, vs1, d1, ds1, p1, q1, e1, rfl, rfl, h1, r1⟩ := trodAll_cons r0
 obtain ⟨v2, vs2, d2, ds2, p2, q2, e2, rfl, rfl, h2, r2⟩ := trodAll_cons r1
 obtain ⟨e3, rfl, rfl⟩ := trodAll_nil r2
 obtain rfl : args = #[v0, v1, v2] := by cases args; simp_all
 obtain ⟨rfl, rfl⟩ := trodVars_none hV
 have hlt0 : ∀ x ∈ p0, x.block < W.heap.size := fun x hx => by simpa using hW'.lt x (by simp [hx])
 have hlt1 : ∀ x ∈ p1, x.block < W.heap.size := fun x hx => by simpa using hW'.lt x (by simp [hx])
 have hlt2 : ∀ x ∈ p2, x.block < W.heap.size := fun x hx => by simpa using hW'.lt x (by simp [hx])
 obtain ⟨u0, x0, y0⟩ := dat_arg (ι := baseI W hg) (hg := hg) (d := 12) (by kernel_rfl) (hval 0 24 v0 rfl rfl) h0
 obtain ⟨u1, x1, y1⟩ := dat_arg (ι := baseI W hg) (hg := hg) (d := 12) (by kernel_rfl) (hval 1 27 v1 rfl rfl) h1
 obtain ⟨u2, x2, y2⟩ := dat_arg (ι := baseI W hg) (hg := hg) (d := 12) (by kernel_rfl) (hval 2 51 v2 rfl rfl) h2
 have hid : AM.E.id 459 = 4 := by kernel_rfl
 have hc := calls_of (E := AM.E) (w := W) (AM.topDispatchBounded_all u0 y0 u1 y1 u2 y2) rfl hg hb (.cons x0 (.cons x1 (.cons x2 .nil)))
 rw [hid] at hc
 clear hA0 hval0
 simp only [List.append_nil] at hW'
 refine hc.mono fun e W' ⟨he, hB⟩ => ?_
 subst he
 exact ⟨_, rfl, _, _, _, [], _, [], hW', (trodAll_cons_mk (shut_bool Tryz.underlying4 _) trodAll_mk0), (trodAll_cons_mk (Below.trod laidOut (by kernel_rfl) (of_decide_eq_true (by kernel_rfl)) h0 hB hlt0) (trodAll_cons_mk (Below.trod laidOut (by kernel_rfl) (of_decide_eq_true (by kernel_rfl)) h1 hB hlt1) (trodAll_cons_mk (Below.trod laidOut (by kernel_rfl) (of_decide_eq_true (by kernel_rfl)) h2 hB hlt2) trodAll_mk0))), rfl, hB.frame _, fun h => by cases h⟩
set_option maxRecDepth 100000 in
theorem lifted (os : Os) (started : os.Started) (H : Type) (enc : TypeId × Value → H) :
  ReturnsInHanded {} Tryz.checked os 4 .any (fun w args => (Rows.topDispatchBoundedSpec.pre enc Tryz.prog Tryz.f4 Rows.topDispatchBoundedRow.domain false w args ∧ laidMetH Tryz.prog laidL w) ∧ sizedMet enc Tryz.prog Tryz.f4 (OpenSpec.ofChange Rows.topDispatchBoundedSpec) false w args)
   (Rows.topDispatchBoundedSpec.post enc Tryz.prog Tryz.f4 false true false false) := by
 refine returnsInHanded_of_calls own started (by kernel_rfl) (ChangeSpec.witness_shaped (enc := enc) (C := Tryz.checked) (os := os) (X := fun w _ => laidMetH Tryz.prog laidL w) false (World.laidAll Tryz.prog os laidL) #[.agg #[.int .i64 0, .int .i64 0, .slice none 0 0], .agg #[.int .i64 0, .int .i64 0, .int .i64 0, .slice none 0 0], .agg #[.int .i64 0, .slice none 0 0]] 8 (World.laidAll_os _ _ _)
   (World.shaped_of_ZipB (by kernel_rfl) (by kernel_rfl)) (by kernel_rfl) (by kernel_rfl) (by kernel_rfl)
   (by rw [MakeChecks.laidMetH_plain _ _ _ (by kernel_rfl)]; exact laidMet_laidAll _ (by kernel_rfl) (by kernel_rfl))) ?_
 intro w tape i _ hsh _ hok hpre _
 obtain ⟨_, _, _, fn', hfn', _, _, _, _, hval⟩ := hok
 obtain rfl : fn' = Tryz.f4 := Option.some.inj (hfn'.symm.trans Tryz.func4)
 obtain ⟨⟨⟨ds, gs, before, hw, _⟩, hx⟩, _⟩ := hpre
 have hw' := DataW.Whole.of_heap (w' := w.forCall tape i) (by rfl) hw
 have hx' : laidMetH Tryz.prog laidL (w.forCall tape i) := laidMetH.of_heap (by rfl) hx
 refine (contract H enc (w.forCall tape i) w.heap.size i.args ds gs before hval hw' hx' hsh).mono fun e W' ⟨v, he, hp⟩ => ?_
 subst he
 exact ChangeSpec.post_blind hp
theorem row_holds : Rows.TopDispatchBoundedSaid :=
 OpenClaim.holds_of_wide 4 Tryz.f4 rfl rfl rfl rfl rfl rfl rfl ⟨rfl, rfl, rfl, rfl, rfl⟩ rfl rfl rfl rfl rfl (by kernel_rfl) Tryz.func4 (by kernel_rfl)
  (of_decide_eq_true (by kernel_rfl)) (by unfold Func.isWrapper; first | (rw [if_pos (by decide +kernel)]; kernel_rfl) | (rw [if_neg (by decide +kernel)]; exact ⟨rfl, rfl⟩))
  (fun os started H enc _ => lifted os started H enc)
theorem holds : Rows.TopDispatchBoundedCardSaid :=
 Claim7.holds_tied_plain_at .later [] [.data, .data, .data, .data, .sentinel, .sentinel, .pinned] true (true, "44f8c5ec6d35e963b9ab5e49042bcd697247d5c680b089b11ac5fa5c5e881ecb") true
  row_holds (fun _ h => by cases h) (by kernel_rfl) (fun _ h => by cases h) topDispatchBounded_row_tie rfl ⟨rfl, rfl⟩ (by kernel_rfl) rfl
  (fun f fn hf hfn => by
   obtain rfl : f = 4 := Option.some.inj ((show Tryz.prog.funcNamed "guidevane/guidevanetop.TopDispatchBounded" = some 4 by kernel_rfl).symm.trans hf) |>.symm
   obtain rfl : fn = Tryz.f4 := (Option.some.inj (Tryz.func4.symm.trans hfn)).symm
   exact ⟨by kernel_rfl, fun j t ht => by
    rw [Tryz.params4] at ht
    have hm : t ∈ ([24, 27, 51] : List Nat) := by simpa using Array.mem_of_getElem? ht
    have hall : (([24, 27, 51] : List Nat).all fun u => !Tryz.prog.wantsStandIn u) = true := by kernel_rfl
    exact (show Tryz.prog.wantsStandIn t = false by simpa using List.all_eq_true.1 hall t hm)⟩)
  (by kernel_rfl)
#print axioms holds
end Go.Proofs.YtolapannkcdeeaaGreatDoor.topDispatchBounded
