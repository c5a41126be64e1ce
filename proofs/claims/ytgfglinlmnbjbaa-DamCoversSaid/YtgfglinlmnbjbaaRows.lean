/-
  No cell of these rows narrows 'for every input' (looked for: loops, veiled, ifaces, maps, wideKeys, modest, calm, conditions, laid).
  DERIVED. THE GIVEN ROWS OF THIS SEAT. 2 by the template 'for every input the law returns true; each argument reads behind the call as it read before'; 0 by the template 'total and deterministic' (their statements: YtgfglinlmnbjbaaTotals.lean).
  GIVEN WITH THE SEED: the statements are not yours to turn. If you find one false, say at which input.
  Laid BY PROGRAM, IN A SANDBOX (cutbox-rows.mjs): the forced cells as the released guide's own fill.sh prints them over the translation b09a00e7c436552c… (all of the seat's roots in one cut). By AI agents, Wed Nov 11 2026. No macro, syntax, notation, axiom, sorry.
-/
import Derived.Test.YtgfglinlmnbjbaaChecked
import GoSem.Claim
import GoSem.ClaimJoined
import GoSem.ClaimMapViews
import Derived.JoinedTies
import Derived.KernelRfl
namespace Go.Proofs.Ytgfglinlmnbjbaa
/- THE CELL 'sum', in the pinned program and in every row, IS THE sha256 OF THE DUMP (.gsa) THAT YtgfglinlmnbjbaaProg.lean LOADS. Nothing in Lean hashes anything: it is a label: what it is worth is what the hold of that sum in a sandbox is worth. -/
noncomputable def Try.pinned : Pinned := { name := "ytgfglinlmnbjbaa", sum := "b09a00e7c436552c90924495c58d358a404483ba4a7938d16bf33a9313ee9b7a", checked := Try.checked }
namespace Rows
def none {H : Type} : Left H := { results := [], args := [] }

/-- 'guidevanelaw09.DamCovers': WHATEVER THE INPUT: true; the input reads as it did. -/
def damCoversSpec : ChangeSpec := { name := "damCovers", fn := fun _ => fun
  | [d] => { results := [.lit (.bool true)], args := [d] }
  | _ => none }
def damCoversRow : OpenClaim := { program := "ytgfglinlmnbjbaa", sum := "b09a00e7c436552c90924495c58d358a404483ba4a7938d16bf33a9313ee9b7a", func := "guidevane/guidevanelaw09.DamCovers", spec := "damCovers", unfollowed := true, recurses := true, apart := false }
def DamCoversSaid : Prop := damCoversRow.holds Try.pinned (OpenSpec.ofChange damCoversSpec)

/-- ITS FALSE NEIGHBOUR: 'it returns false'. Refute it at one input. -/
def damCoversWrong : ChangeSpec := { name := "damCovers", fn := fun _ => fun
  | [d] => { results := [.lit (.bool false)], args := [d] }
  | _ => none }
def DamCoversWrongFalsely : Prop := damCoversRow.holds Try.pinned (OpenSpec.ofChange damCoversWrong)

/-- 'guidevanelaw09.DamPackings': WHATEVER THE INPUT: true; the input reads as it did. -/
def damPackingsSpec : ChangeSpec := { name := "damPackings", fn := fun _ => fun
  | [d] => { results := [.lit (.bool true)], args := [d] }
  | _ => none }
def damPackingsRow : OpenClaim := { program := "ytgfglinlmnbjbaa", sum := "b09a00e7c436552c90924495c58d358a404483ba4a7938d16bf33a9313ee9b7a", func := "guidevane/guidevanelaw09.DamPackings", spec := "damPackings", unfollowed := true, recurses := true, apart := false }
def DamPackingsSaid : Prop := damPackingsRow.holds Try.pinned (OpenSpec.ofChange damPackingsSpec)

/-- ITS FALSE NEIGHBOUR: 'it returns false'. Refute it at one input. -/
def damPackingsWrong : ChangeSpec := { name := "damPackings", fn := fun _ => fun
  | [d] => { results := [.lit (.bool false)], args := [d] }
  | _ => none }
def DamPackingsWrongFalsely : Prop := damPackingsRow.holds Try.pinned (OpenSpec.ofChange damPackingsWrong)

/- THE SECOND FORM. 'bulk': how many values and letters a reading holds, each counted each time it is reached (what is shared counts as often as it is met; a slice's spare places count too). A statement '..UptoSaid' is the law's where the arguments, and the package variables that the reading takes, are together of bulk at most 1048576: NARROWER than '..Said'. Prove '..Said' where nothing that the law and all that it calls make is longer than what came in: it says more and counts as full. Else prove '..UptoSaid'. A law counts once. -/
mutual
def uptoBulk {H : Type} : DataW H → Nat
  | .lit (.string bytes) => bytes.length + 1
  | .lit _ => 1
  | .nil => 1
  | .ptr d => uptoBulk d + 1
  | .slice elems spare => uptoBulkAll elems + uptoBulkAll spare + 1
  | .agg parts => uptoBulkAll parts + 1
  | .iface _ d => uptoBulk d + 1
  | .map entries => uptoBulkEntries entries + 1
  | .held _ => 1
def uptoBulkAll {H : Type} : List (DataW H) → Nat
  | [] => 0
  | d :: r => uptoBulk d + uptoBulkAll r
def uptoBulkEntries {H : Type} : List (Lit × DataW H) → Nat
  | [] => 0
  | x :: r => uptoBulkEntry x + uptoBulkEntries r
def uptoBulkEntry {H : Type} : Lit × DataW H → Nat
  | (.string bytes, d) => bytes.length + uptoBulk d + 1
  | (_, d) => uptoBulk d + 1
 end
def uptoSmall : (H : Type) → List (DataW H) → Bool := fun _ ds => decide (uptoBulkAll ds ≤ 1048576)
def OpenSpec.upto (s : _root_.Go.ChangeSpec) : _root_.Go.OpenSpec := { _root_.Go.OpenSpec.ofChange s with cond := some uptoSmall }

/-- 'guidevanelaw09.DamCovers', WHERE WHAT IT READS IS OF BULK AT MOST 1048576: true; the input reads as it did. -/
def damCoversUptoRow : OpenClaim := { program := "ytgfglinlmnbjbaa", sum := "b09a00e7c436552c90924495c58d358a404483ba4a7938d16bf33a9313ee9b7a", func := "guidevane/guidevanelaw09.DamCovers", spec := "damCovers", unfollowed := true, recurses := true, apart := false, narrowed := true }
def DamCoversUptoSaid : Prop := damCoversUptoRow.holds Try.pinned (OpenSpec.upto damCoversSpec)

/-- 'guidevanelaw09.DamPackings', WHERE WHAT IT READS IS OF BULK AT MOST 1048576: true; the input reads as it did. -/
def damPackingsUptoRow : OpenClaim := { program := "ytgfglinlmnbjbaa", sum := "b09a00e7c436552c90924495c58d358a404483ba4a7938d16bf33a9313ee9b7a", func := "guidevane/guidevanelaw09.DamPackings", spec := "damPackings", unfollowed := true, recurses := true, apart := false, narrowed := true }
def DamPackingsUptoSaid : Prop := damPackingsUptoRow.holds Try.pinned (OpenSpec.upto damPackingsSpec)

end Rows
end Go.Proofs.Ytgfglinlmnbjbaa
