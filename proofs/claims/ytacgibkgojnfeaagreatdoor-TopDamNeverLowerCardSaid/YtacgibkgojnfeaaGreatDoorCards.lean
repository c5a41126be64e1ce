/-
  DERIVED. GIVEN WITH THE SEED: THE CARDS: each row of YtacgibkgojnfeaaGreatDoorRows.lean that lists a variable, with what it lists TIED to the program's text (the seventh form; the later family's looks); each row that meets fmt, with fmt's text TOLD by the authors' own Lean function (tested against real Go, not proved from fmt's source: count such statements apart). THE CARD IS WHAT COUNTS. Prove the row's statement (the work); the ties are given (YtacgibkgojnfeaaGreatDoorTie.lean); close each card by the builder's one call (the guide's Derived/Test/ToyasCard.lean, 'card_holds'). Laid BY PROGRAM, IN A SANDBOX (cutbox-door.mjs). By AI agents, Wed Nov 11 2026. No macro, syntax, notation, axiom, sorry.
-/
import Derived.Test.YtacgibkgojnfeaaGreatDoorRows
import GoSem.ClaimSeven
namespace Go.Proofs.YtacgibkgojnfeaaGreatDoor
namespace Rows

/-- THE TIED CARD OF 'guidevanetop.TopDamNeverLower'. -/
def topDamNeverLowerCard : Claim7 := { stood := { row := topDamNeverLowerRow, standIns := [], harness := (true, "560127db83b91857d9bb27750e9630e44505434facfa870473d7656f9e5566d8"), looks := true }, kinds := [], alts := [], laidByText := true, laidKinds := [.data, .data, .data, .data, .sentinel, .sentinel, .pinned], laidTests := true, laidLooks := .later }
def TopDamNeverLowerCardSaid : Prop := Claim7.holds Tryz.pinned (.plain (OpenSpec.ofChange topDamNeverLowerSpec)) topDamNeverLowerCard

/-- THE TIED CARD OF 'guidevanelaw09.DamReadings'. -/
def damReadingsCard : Claim7 := { stood := { row := damReadingsRow, standIns := [], harness := (true, "560127db83b91857d9bb27750e9630e44505434facfa870473d7656f9e5566d8"), looks := true }, kinds := [], alts := [], laidByText := true, laidKinds := [.data, .data, .data, .data, .sentinel, .sentinel, .pinned], laidTests := true, laidLooks := .later }
def DamReadingsCardSaid : Prop := Claim7.holds Tryz.pinned (.plain (OpenSpec.ofChange damReadingsSpec)) damReadingsCard

/-- THE TIED CARD OF 'guidevanelaw09.DamStrings'. -/
def damStringsCard : Claim7 := { stood := { row := damStringsRow, standIns := [], harness := (true, "560127db83b91857d9bb27750e9630e44505434facfa870473d7656f9e5566d8"), looks := true }, kinds := [], alts := [], laidByText := true, laidKinds := [.data, .data, .data, .data, .sentinel, .sentinel, .pinned], laidTests := true, laidLooks := .later }
def DamStringsCardSaid : Prop := Claim7.holds Tryz.pinned (.plain (OpenSpec.ofChange damStringsSpec)) damStringsCard

/-- THE SECOND FORM's CARD OF 'guidevanetop.TopDamNeverLower'. -/
def topDamNeverLowerUptoCard : Claim7 := { stood := { row := topDamNeverLowerUptoRow, standIns := [], harness := (true, "560127db83b91857d9bb27750e9630e44505434facfa870473d7656f9e5566d8"), looks := true }, kinds := [], alts := [], laidByText := true, laidKinds := [.data, .data, .data, .data, .sentinel, .sentinel, .pinned], laidTests := true, laidLooks := .later }
def TopDamNeverLowerUptoCardSaid : Prop := Claim7.holds Tryz.pinned (.plain (OpenSpec.upto topDamNeverLowerSpec)) topDamNeverLowerUptoCard

/-- THE SECOND FORM's CARD OF 'guidevanelaw09.DamReadings'. -/
def damReadingsUptoCard : Claim7 := { stood := { row := damReadingsUptoRow, standIns := [], harness := (true, "560127db83b91857d9bb27750e9630e44505434facfa870473d7656f9e5566d8"), looks := true }, kinds := [], alts := [], laidByText := true, laidKinds := [.data, .data, .data, .data, .sentinel, .sentinel, .pinned], laidTests := true, laidLooks := .later }
def DamReadingsUptoCardSaid : Prop := Claim7.holds Tryz.pinned (.plain (OpenSpec.upto damReadingsSpec)) damReadingsUptoCard

/-- THE SECOND FORM's CARD OF 'guidevanelaw09.DamStrings'. -/
def damStringsUptoCard : Claim7 := { stood := { row := damStringsUptoRow, standIns := [], harness := (true, "560127db83b91857d9bb27750e9630e44505434facfa870473d7656f9e5566d8"), looks := true }, kinds := [], alts := [], laidByText := true, laidKinds := [.data, .data, .data, .data, .sentinel, .sentinel, .pinned], laidTests := true, laidLooks := .later }
def DamStringsUptoCardSaid : Prop := Claim7.holds Tryz.pinned (.plain (OpenSpec.upto damStringsSpec)) damStringsUptoCard
end Rows
end Go.Proofs.YtacgibkgojnfeaaGreatDoor
