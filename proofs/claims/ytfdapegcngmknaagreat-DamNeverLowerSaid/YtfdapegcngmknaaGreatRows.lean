/-
  No cell of these rows narrows 'for every input' (looked for: loops, veiled, ifaces, maps, wideKeys, modest, calm, conditions, laid).
  DERIVED. THE GIVEN ROWS OF THIS SEAT. 5 by the template 'for every input the law returns true; each argument reads behind the call as it read before'; 0 by the template 'total and deterministic' (their statements: YtfdapegcngmknaaGreatTotals.lean).
  GIVEN WITH THE SEED: the statements are not yours to turn. If you find one false, say at which input.
  Laid BY PROGRAM, IN A SANDBOX (cutbox-rows.mjs): the forced cells as the released guide's own fill.sh prints them over the translation b03274c51607c1df… (all of the seat's roots in one cut). By AI agents, Wed Nov 11 2026. No macro, syntax, notation, axiom, sorry.
-/
import Derived.Test.YtfdapegcngmknaaGreatChecked
import GoSem.Claim
import GoSem.ClaimJoined
import GoSem.ClaimMapViews
import Derived.JoinedTies
import Derived.KernelRfl
namespace Go.Proofs.YtfdapegcngmknaaGreat
/- THE CELL 'sum', in the pinned program and in every row, IS THE sha256 OF THE DUMP (.gsa) THAT YtfdapegcngmknaaGreatProg.lean LOADS. Nothing in Lean hashes anything: it is a label: what it is worth is what the hold of that sum in a sandbox is worth. -/
noncomputable def Tryz.pinned : Pinned := { name := "ytfdapegcngmknaagreat", sum := "b03274c51607c1df2eddc303c9d1b2db21452b382dc3de6f167437008e3373b4", checked := Tryz.checked }
namespace Rows
def none {H : Type} : Left H := { results := [], args := [] }

/-- 'guidevanelaw09.DamLowers': WHATEVER THE INPUT: true; the input reads as it did. -/
def damLowersSpec : ChangeSpec := { name := "damLowers", fn := fun _ => fun
  | [d1, d2, d3] => { results := [.lit (.bool true)], args := [d1, d2, d3] }
  | _ => none }
def damLowersRow : OpenClaim := { program := "ytfdapegcngmknaagreat", sum := "b03274c51607c1df2eddc303c9d1b2db21452b382dc3de6f167437008e3373b4", func := "guidevane/guidevanelaw09.DamLowers", spec := "damLowers", unfollowed := true, recurses := true, apart := false }
def DamLowersSaid : Prop := damLowersRow.holds Tryz.pinned (OpenSpec.ofChange damLowersSpec)

/-- ITS FALSE NEIGHBOUR: 'it returns false'. Refute it at one input. -/
def damLowersWrong : ChangeSpec := { name := "damLowers", fn := fun _ => fun
  | [d1, d2, d3] => { results := [.lit (.bool false)], args := [d1, d2, d3] }
  | _ => none }
def DamLowersWrongFalsely : Prop := damLowersRow.holds Tryz.pinned (OpenSpec.ofChange damLowersWrong)

/-- 'guidevanelaw09.DamNeverLower': WHATEVER THE INPUT: true; the input reads as it did. -/
def damNeverLowerSpec : ChangeSpec := { name := "damNeverLower", fn := fun _ => fun
  | [d1, d2, d3] => { results := [.lit (.bool true)], args := [d1, d2, d3] }
  | _ => none }
def damNeverLowerRow : OpenClaim := { program := "ytfdapegcngmknaagreat", sum := "b03274c51607c1df2eddc303c9d1b2db21452b382dc3de6f167437008e3373b4", func := "guidevane/guidevanelaw09.DamNeverLower", spec := "damNeverLower", unfollowed := true, recurses := true, apart := false }
def DamNeverLowerSaid : Prop := damNeverLowerRow.holds Tryz.pinned (OpenSpec.ofChange damNeverLowerSpec)

/-- ITS FALSE NEIGHBOUR: 'it returns false'. Refute it at one input. -/
def damNeverLowerWrong : ChangeSpec := { name := "damNeverLower", fn := fun _ => fun
  | [d1, d2, d3] => { results := [.lit (.bool false)], args := [d1, d2, d3] }
  | _ => none }
def DamNeverLowerWrongFalsely : Prop := damNeverLowerRow.holds Tryz.pinned (OpenSpec.ofChange damNeverLowerWrong)

/-- 'guidevanelaw09.DamGauges': WHATEVER THE INPUT: true; the input reads as it did. -/
def damGaugesSpec : ChangeSpec := { name := "damGauges", fn := fun _ => fun
  | [d] => { results := [.lit (.bool true)], args := [d] }
  | _ => none }
def damGaugesRow : OpenClaim := { program := "ytfdapegcngmknaagreat", sum := "b03274c51607c1df2eddc303c9d1b2db21452b382dc3de6f167437008e3373b4", func := "guidevane/guidevanelaw09.DamGauges", spec := "damGauges", unfollowed := true, recurses := true, apart := false }
def DamGaugesSaid : Prop := damGaugesRow.holds Tryz.pinned (OpenSpec.ofChange damGaugesSpec)

/-- ITS FALSE NEIGHBOUR: 'it returns false'. Refute it at one input. -/
def damGaugesWrong : ChangeSpec := { name := "damGauges", fn := fun _ => fun
  | [d] => { results := [.lit (.bool false)], args := [d] }
  | _ => none }
def DamGaugesWrongFalsely : Prop := damGaugesRow.holds Tryz.pinned (OpenSpec.ofChange damGaugesWrong)

/-- 'guidevanelaw09.DamResiduals': WHATEVER THE INPUT: true; the input reads as it did. -/
def damResidualsSpec : ChangeSpec := { name := "damResiduals", fn := fun _ => fun
  | [d1, d2, d3] => { results := [.lit (.bool true)], args := [d1, d2, d3] }
  | _ => none }
def damResidualsRow : OpenClaim := { program := "ytfdapegcngmknaagreat", sum := "b03274c51607c1df2eddc303c9d1b2db21452b382dc3de6f167437008e3373b4", func := "guidevane/guidevanelaw09.DamResiduals", spec := "damResiduals", unfollowed := true, recurses := true, apart := false }
def DamResidualsSaid : Prop := damResidualsRow.holds Tryz.pinned (OpenSpec.ofChange damResidualsSpec)

/-- ITS FALSE NEIGHBOUR: 'it returns false'. Refute it at one input. -/
def damResidualsWrong : ChangeSpec := { name := "damResiduals", fn := fun _ => fun
  | [d1, d2, d3] => { results := [.lit (.bool false)], args := [d1, d2, d3] }
  | _ => none }
def DamResidualsWrongFalsely : Prop := damResidualsRow.holds Tryz.pinned (OpenSpec.ofChange damResidualsWrong)

/-- 'guidevanelaw09.DamContained': WHATEVER THE INPUT: true; the input reads as it did. -/
def damContainedSpec : ChangeSpec := { name := "damContained", fn := fun _ => fun
  | [d1, d2] => { results := [.lit (.bool true)], args := [d1, d2] }
  | _ => none }
def damContainedRow : OpenClaim := { program := "ytfdapegcngmknaagreat", sum := "b03274c51607c1df2eddc303c9d1b2db21452b382dc3de6f167437008e3373b4", func := "guidevane/guidevanelaw09.DamContained", spec := "damContained", unfollowed := true, recurses := true, apart := false }
def DamContainedSaid : Prop := damContainedRow.holds Tryz.pinned (OpenSpec.ofChange damContainedSpec)

/-- ITS FALSE NEIGHBOUR: 'it returns false'. Refute it at one input. -/
def damContainedWrong : ChangeSpec := { name := "damContained", fn := fun _ => fun
  | [d1, d2] => { results := [.lit (.bool false)], args := [d1, d2] }
  | _ => none }
def DamContainedWrongFalsely : Prop := damContainedRow.holds Tryz.pinned (OpenSpec.ofChange damContainedWrong)

/- THE SECOND FORM. 'bulk': how many values and letters a reading holds, each counted each time it is reached (what is shared counts as often as it is met; a slice's spare places count too). A statement '..UptoSaid' is the law's where the arguments, and the package variables that the reading takes, are together of bulk at most 1048576: NARROWER than '..Said'. Prove '..Said' where nothing that the law and all that it calls make is longer than what came in: it says more and counts as full. Else prove '..UptoSaid'. A law counts once. -/
mutual
def uptoBulk {H : Type} : DataW H → Nat
  | .lit (.string bytes) => bytes.length + 1
  | .lit _ => 1
  | .nil => 1
  | .ptr d => uptoBulk d + 1
  | .slice elems spare => uptoBulkAll elems + uptoBulkAll spare + 1
  | .agg parts => uptoBulkAll parts + 1
  | .iface _ d => uptoBulk d + 1
  | .map entries => uptoBulkEntries entries + 1
  | .held _ => 1
def uptoBulkAll {H : Type} : List (DataW H) → Nat
  | [] => 0
  | d :: r => uptoBulk d + uptoBulkAll r
def uptoBulkEntries {H : Type} : List (Lit × DataW H) → Nat
  | [] => 0
  | x :: r => uptoBulkEntry x + uptoBulkEntries r
def uptoBulkEntry {H : Type} : Lit × DataW H → Nat
  | (.string bytes, d) => bytes.length + uptoBulk d + 1
  | (_, d) => uptoBulk d + 1
 end
def uptoSmall : (H : Type) → List (DataW H) → Bool := fun _ ds => decide (uptoBulkAll ds ≤ 1048576)
def OpenSpec.upto (s : _root_.Go.ChangeSpec) : _root_.Go.OpenSpec := { _root_.Go.OpenSpec.ofChange s with cond := some uptoSmall }

/-- 'guidevanelaw09.DamLowers', WHERE WHAT IT READS IS OF BULK AT MOST 1048576: true; the input reads as it did. -/
def damLowersUptoRow : OpenClaim := { program := "ytfdapegcngmknaagreat", sum := "b03274c51607c1df2eddc303c9d1b2db21452b382dc3de6f167437008e3373b4", func := "guidevane/guidevanelaw09.DamLowers", spec := "damLowers", unfollowed := true, recurses := true, apart := false, narrowed := true }
def DamLowersUptoSaid : Prop := damLowersUptoRow.holds Tryz.pinned (OpenSpec.upto damLowersSpec)

/-- 'guidevanelaw09.DamNeverLower', WHERE WHAT IT READS IS OF BULK AT MOST 1048576: true; the input reads as it did. -/
def damNeverLowerUptoRow : OpenClaim := { program := "ytfdapegcngmknaagreat", sum := "b03274c51607c1df2eddc303c9d1b2db21452b382dc3de6f167437008e3373b4", func := "guidevane/guidevanelaw09.DamNeverLower", spec := "damNeverLower", unfollowed := true, recurses := true, apart := false, narrowed := true }
def DamNeverLowerUptoSaid : Prop := damNeverLowerUptoRow.holds Tryz.pinned (OpenSpec.upto damNeverLowerSpec)

/-- 'guidevanelaw09.DamGauges', WHERE WHAT IT READS IS OF BULK AT MOST 1048576: true; the input reads as it did. -/
def damGaugesUptoRow : OpenClaim := { program := "ytfdapegcngmknaagreat", sum := "b03274c51607c1df2eddc303c9d1b2db21452b382dc3de6f167437008e3373b4", func := "guidevane/guidevanelaw09.DamGauges", spec := "damGauges", unfollowed := true, recurses := true, apart := false, narrowed := true }
def DamGaugesUptoSaid : Prop := damGaugesUptoRow.holds Tryz.pinned (OpenSpec.upto damGaugesSpec)

/-- 'guidevanelaw09.DamResiduals', WHERE WHAT IT READS IS OF BULK AT MOST 1048576: true; the input reads as it did. -/
def damResidualsUptoRow : OpenClaim := { program := "ytfdapegcngmknaagreat", sum := "b03274c51607c1df2eddc303c9d1b2db21452b382dc3de6f167437008e3373b4", func := "guidevane/guidevanelaw09.DamResiduals", spec := "damResiduals", unfollowed := true, recurses := true, apart := false, narrowed := true }
def DamResidualsUptoSaid : Prop := damResidualsUptoRow.holds Tryz.pinned (OpenSpec.upto damResidualsSpec)

/-- 'guidevanelaw09.DamContained', WHERE WHAT IT READS IS OF BULK AT MOST 1048576: true; the input reads as it did. -/
def damContainedUptoRow : OpenClaim := { program := "ytfdapegcngmknaagreat", sum := "b03274c51607c1df2eddc303c9d1b2db21452b382dc3de6f167437008e3373b4", func := "guidevane/guidevanelaw09.DamContained", spec := "damContained", unfollowed := true, recurses := true, apart := false, narrowed := true }
def DamContainedUptoSaid : Prop := damContainedUptoRow.holds Tryz.pinned (OpenSpec.upto damContainedSpec)

end Rows
end Go.Proofs.YtfdapegcngmknaaGreat
