/- Two of the examples, run. Conditions: none. -/
import Derived.Test.YtolapannkcdeeaaGreatAmTab
import Derived.Test.YtolapannkcdeeaaGreatAmLift4
import Derived.KernelRfl
namespace Go.Proofs.YtolapannkcdeeaaGreat.AM
set_option linter.unusedSimpArgs false
set_option linter.unusedVariables false
open Go Go.RowKit
def kSl (L : List Int) (v : Value) (h : AHeap) : Bool := match v with
  | .slice (some ⟨b, 0, none⟩) m _ => Nat.beq m L.length && (match h.get b with
    | some (.rw c) => vLeq (c.take m) (L.map eI) && Nat.ble m c.length
    | _ => false)
  | _ => false
theorem kSl_fz {L : List Int} {v : Value} {h : AHeap} (H : kSl L v h = true) : Fz h (fun _ => true) 0 v (VS 1 (L.map eI)) := by
 unfold kSl at H
 split at H
 · rename_i b m c
   rw [Bool.and_eq_true] at H
   obtain ⟨h1, H⟩ := H
   split at H
   · rename_i cs hg
     rw [Bool.and_eq_true] at H
     have h2 := Nat.eq_of_beq_eq_true h1
     exact Fz.sl1 (b := b) (o := 0) (m := m) (k := c) rfl hg (by simp [h2]) (by have := Nat.le_of_ble_eq_true H.2; omega) (by rw [List.drop_zero]; exact vLeq_sound H.1) (fun v hv => by obtain ⟨x, _, rfl⟩ := List.mem_map.1 hv; rfl)
   · cases H
 · cases H
def exRev : List (ByteArray × Int × Int) := [(⟨#[97]⟩, 5, 3), (⟨#[98]⟩, 4, 2), (⟨#[99]⟩, 9, 5)]
abbrev e_SII (x : ByteArray × Int × Int) : Value := .agg ⟨[(.string x.1), (.int .i64 x.2.1), (.int .i64 x.2.2)]⟩
def kOrd (v : Value) (h : AHeap) : Bool := match v with
 | .tuple ⟨[s, .int .i64 1, .int .i64 0]⟩ => kSl [0, 1, 2] s h
 | _ => false
theorem order_run : xcall XA (xcode XA 400) (.func (.func (XA.E.id 210)) #[] #[]) [VS 3 (exRev.map e_SII)] ⟨0, [], true⟩ kOrd = true := by kernel_rfl
theorem order_c : ICalls E 210 [VS 3 (exRev.map e_SII)] AHeap.none fun v _ => v = .tuple ⟨[VS 1 ([0, 1, 2].map eI), .int .i64 1, .int .i64 0]⟩ := by
 refine ICalls.frz ((ICallV.modeH (icalls_run (X := XA) XA_ok order_run)).mono fun v h hk => ⟨fun _ => true, ?_⟩)
 unfold kOrd at hk
 split at hk
 · exact .tuplel (.cons (kSl_fz hk) (.cons .cl (.cons .cl .nil)))
 · cases hk
abbrev e_SIII (x : ByteArray × Int × Int × Int) : Value := .agg ⟨[(.string x.1), (.int .i64 x.2.1), (.int .i64 x.2.2.1), (.int .i64 x.2.2.2)]⟩
abbrev e_III (x : Int × Int × Int) : Value := .agg ⟨[(.int .i64 x.1), (.int .i64 x.2.1), (.int .i64 x.2.2)]⟩
def exModes : List (ByteArray × Int × Int × Int) := [(⟨#[114, 101, 115, 116]⟩, 0, 0, 0), (⟨#[112, 117, 109, 112]⟩, 3, -4, 5), (⟨#[116, 117, 114, 98, 105, 110, 101]⟩, -3, 3, 2)]
def exHours : List (Int × Int × Int) := [(2, 1, 0), (12, 10, 1)]
theorem reach_run : xcall XA (xcode XA 400) (.func (.func (XA.E.id 231)) #[] #[]) [.agg ⟨[.int .i64 0, .int .i64 10, VS 4 (exModes.map e_SIII), .int .i64 4, .int .i64 0, .int .i64 1, VS 3 (exHours.map e_III)]⟩, .int .i64 2] ⟨0, [], true⟩ (kSl [2, 5, 8]) = true := by kernel_rfl
theorem reach_c : ICalls E 231 [.agg ⟨[.int .i64 0, .int .i64 10, VS 4 (exModes.map e_SIII), .int .i64 4, .int .i64 0, .int .i64 1, VS 3 (exHours.map e_III)]⟩, .int .i64 2] AHeap.none fun v _ => v = VS 1 ([2, 5, 8].map eI) :=
 ICalls.frz ((ICallV.modeH (icalls_run (X := XA) XA_ok reach_run)).mono fun v h hk => ⟨fun _ => true, kSl_fz hk⟩)
end Go.Proofs.YtolapannkcdeeaaGreat.AM
