/- The parsing of numbers. Conditions: none. -/
import Derived.Test.YtacgibkgojnfeaaGreatDoorAmShf
import Derived.WalkKit
import Derived.WalkSpells
import Derived.WalkLawsBesides
namespace Go.Proofs.YtacgibkgojnfeaaGreatDoor.AM
set_option linter.unusedSimpArgs false
set_option linter.unusedVariables false
open Go Go.RowKit Go.Sort

theorem tab3 {w w' : World} (h : Lib.TabIs Tryz.prog w "internal/strconv.uint64pow10" .u64 Lib.pow10Tab) (hw : 3 < w.heap.size) (hB : Below w.heap.size w w') : Lib.TabIs Tryz.prog w' "internal/strconv.uint64pow10" .u64 Lib.pow10Tab := by
  have hg : Tryz.prog.globalNamed "internal/strconv.uint64pow10" = some 3 := by kernel_rfl
  unfold Lib.TabIs World.var? at h ⊢
  rw [hg] at h ⊢
  simp only [Option.bind_some] at h ⊢
  rw [hB.block 3 hw]; exact h

def numV (s : ByteArray) : Int := match Lib.atoiAll s.data.toList with
  | .ok v => v
  | .range => Lib.atoiSat s.data.toList
  | _ => 0
def numB (s : ByteArray) (d : Int) (b : Bool) : Bool := match Lib.atoiAll s.data.toList with
  | .ok v => decide (Lib.itoa v = s.toList) && (b || decide (0 ≤ v)) && decide (((Lib.trimPrefix s.data.toList [45]).length : Int) ≤ d)
  | _ => false

set_option maxHeartbeats 1000000 in
set_option maxRecDepth 100000 in
/-- Where the text is no number: whatever stands beside the error. -/
theorem number_err (s : ByteArray) (d : Int) (b : Bool) (w : World) (v : Int) (t ty : TypeId) (ev : Value)
    (hI : Calls Tryz.prog 82 #[.string s] w fun e w' => ∃ N, e = .returned (.tuple #[.int .i64 v, .iface t (.pointer (some ⟨N, 0, none⟩))]) ∧ w.heap.size ≤ N ∧ w'.heap[N]? = some (.cells #[.string ⟨#[65, 116, 111, 105]⟩, .string s, ev] ty (0, 0)) ∧ Below w.heap.size w w') :
    Calls Tryz.prog 36 #[.string s, .int .i64 d, .bool b] w fun e w' => e = .returned (.tuple #[.int .i64 v, .bool false]) ∧ Below w.heap.size w w' := by
  go_enter Tryz.func36, Tryz.ntmps36
  go_wp2_with (go_at_call 82; refine hI.mono ?_; rintro e W1 ⟨N, rfl, hN, hc, hW⟩)
  go_ret2
  exact ⟨rfl, hW⟩

set_option maxHeartbeats 1000000 in
set_option maxRecDepth 100000 in
theorem number_ok (s : ByteArray) (d : Int) (b : Bool) (w : World) (hlim : s.size ≤ 281474976710656) (v : Int) (h : Lib.atoiAll s.data.toList = .ok v) (htab : Lib.TabIs Tryz.prog w "internal/strconv.uint64pow10" .u64 Lib.pow10Tab) (hw : 3 < w.heap.size) :
    Calls Tryz.prog 36 #[.string s, .int .i64 d, .bool b] w fun e w' => e = .returned (.tuple #[.int .i64 v, .bool (decide (Lib.itoa v = s.toList) && (b || decide (0 ≤ v)) && decide (((Lib.trimPrefix s.data.toList [45]).length : Int) ≤ d))]) ∧ Below w.heap.size w w' := by
  obtain ⟨v0, v1⟩ := Lib.atoiAll_bounds h
  have hI : Calls Tryz.prog 82 #[.string s] w fun e w' => e = .returned (.tuple #[.int .i64 v, .nilIface]) ∧ Below w.heap.size w w' := (Tryz.strconv_Atoi_ok s (by omega) v h w).mono fun e w' ⟨h1, h2⟩ => ⟨h1, by
    rcases h2 with rfl | ⟨t, rfl⟩
    · exact Below.refl _ _
    · exact Lib.bytesWorld_below _ _ _⟩
  have hN : ∀ w', Below w.heap.size w w' → Calls Tryz.prog 39 #[.int .i64 v] w' fun e w2 => e = .returned (.string ⟨(Lib.itoa v).toArray⟩) ∧ Below w.heap.size w w2 := fun w' hB =>
    (Tryz.strconv_Itoa v v0 v1 w' (tab3 htab hw hB)).mono fun e w2 ⟨h1, k, os, h2⟩ => ⟨h1, by
      subst h2
      exact ⟨hB.os, hB.tape, hB.output, by simp [grow, World.drewN]; have := hB.size; omega, fun i hi => by
        have := hB.size
        simp only [grow, World.drewN]; rw [Array.getElem?_append_left (by omega)]; exact hB.block i hi⟩⟩
  have hT : ∀ w', Calls Tryz.prog 83 #[.string s, .string ⟨#[45]⟩] w' fun e w2 => e = .returned (.string ⟨(Lib.trimPrefix s.data.toList [45]).toArray⟩) ∧ w2 = w' := fun w' => Tryz.strings_TrimPrefix s ⟨#[45]⟩ w'
  clear h htab
  go_enter Tryz.func36, Tryz.ntmps36
  go_wp2_with (first
    | (go_at_call 82; refine hI.mono ?_; rintro e W1 ⟨rfl, hW⟩)
    | (go_at_call 39; refine (hN W1 hW).mono ?_; rintro e W2 ⟨rfl, hW2⟩)
    | (go_at_call 83; refine (hT _).mono ?_; rintro e W3 ⟨rfl, rfl⟩))
  all_goals go_ret2
  all_goals refine ⟨?_, by assumption⟩
  all_goals clear hI hN hT
  all_goals first | (simp_all; done) | (simp_all; omega)
theorem number_all (s : ByteArray) (d : Int) (b : Bool) (w : World) (hlim : s.size ≤ 281474976710656) (htab : Lib.TabIs Tryz.prog w "internal/strconv.uint64pow10" .u64 Lib.pow10Tab) (hw : 3 < w.heap.size)
    (hsyn : ∃ t p, w.cell? ⟨1, 0, none⟩ = some (.iface t p)) (hrng : ∃ t p, w.cell? ⟨2, 0, none⟩ = some (.iface t p)) :
    Calls Tryz.prog 36 #[.string s, .int .i64 d, .bool b] w fun e w' => e = .returned (.tuple #[.int .i64 (numV s), .bool (numB s d b)]) ∧ Below w.heap.size w w' := by
  unfold numV numB
  cases h : Lib.atoiAll s.data.toList
  · exact number_ok s d b w hlim _ h htab hw
  · obtain ⟨t, p, hv⟩ := hsyn
    exact number_err s d b w _ _ _ _ (Any.strconv_Atoi_syntax Tryz.laysC172 s hlim h (.iface t p) w hv (.inr ⟨t, p, rfl⟩))
  · obtain ⟨t, p, hv⟩ := hrng
    exact number_err s d b w _ _ _ _ (Any.strconv_Atoi_range Tryz.laysC172 s hlim h (.iface t p) w hv (.inr ⟨t, p, rfl⟩))
end Go.Proofs.YtacgibkgojnfeaaGreatDoor.AM
