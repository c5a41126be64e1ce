/-
  DERIVED. GIVEN WITH THE SEED: THE CARDS: each row of YtolapannkcdeeaaGreatDoorRows.lean that lists a variable, with what it lists TIED to the program's text (the seventh form; the later family's looks); each row that meets fmt, with fmt's text TOLD by the authors' own Lean function (tested against real Go, not proved from fmt's source: count such statements apart). THE CARD IS WHAT COUNTS. Prove the row's statement (the work); the ties are given (YtolapannkcdeeaaGreatDoorTie.lean); close each card by the builder's one call (the guide's Derived/Test/ToyasCard.lean, 'card_holds'). Laid BY PROGRAM, IN A SANDBOX (cutbox-door.mjs). By AI agents, Wed Nov 11 2026. No macro, syntax, notation, axiom, sorry.
-/
import Derived.Test.YtolapannkcdeeaaGreatDoorRows
import GoSem.ClaimSeven
namespace Go.Proofs.YtolapannkcdeeaaGreatDoor
namespace Rows

/-- THE TIED CARD OF 'guidevanelaw08.DispatchStrings'. -/
def dispatchStringsCard : Claim7 := { stood := { row := dispatchStringsRow, standIns := [], harness := (true, "44f8c5ec6d35e963b9ab5e49042bcd697247d5c680b089b11ac5fa5c5e881ecb"), looks := true }, kinds := [], alts := [], laidByText := true, laidKinds := [.data, .data, .data, .data, .sentinel, .sentinel, .pinned], laidTests := true, laidLooks := .later }
def DispatchStringsCardSaid : Prop := Claim7.holds Tryz.pinned (.plain (OpenSpec.ofChange dispatchStringsSpec)) dispatchStringsCard

/-- THE TIED CARD OF 'guidevanetop.TopDispatchBounded'. -/
def topDispatchBoundedCard : Claim7 := { stood := { row := topDispatchBoundedRow, standIns := [], harness := (true, "44f8c5ec6d35e963b9ab5e49042bcd697247d5c680b089b11ac5fa5c5e881ecb"), looks := true }, kinds := [], alts := [], laidByText := true, laidKinds := [.data, .data, .data, .data, .sentinel, .sentinel, .pinned], laidTests := true, laidLooks := .later }
def TopDispatchBoundedCardSaid : Prop := Claim7.holds Tryz.pinned (.plain (OpenSpec.ofChange topDispatchBoundedSpec)) topDispatchBoundedCard

/-- THE SECOND FORM's CARD OF 'guidevanelaw08.DispatchStrings'. -/
def dispatchStringsUptoCard : Claim7 := { stood := { row := dispatchStringsUptoRow, standIns := [], harness := (true, "44f8c5ec6d35e963b9ab5e49042bcd697247d5c680b089b11ac5fa5c5e881ecb"), looks := true }, kinds := [], alts := [], laidByText := true, laidKinds := [.data, .data, .data, .data, .sentinel, .sentinel, .pinned], laidTests := true, laidLooks := .later }
def DispatchStringsUptoCardSaid : Prop := Claim7.holds Tryz.pinned (.plain (OpenSpec.upto dispatchStringsSpec)) dispatchStringsUptoCard

/-- THE SECOND FORM's CARD OF 'guidevanetop.TopDispatchBounded'. -/
def topDispatchBoundedUptoCard : Claim7 := { stood := { row := topDispatchBoundedUptoRow, standIns := [], harness := (true, "44f8c5ec6d35e963b9ab5e49042bcd697247d5c680b089b11ac5fa5c5e881ecb"), looks := true }, kinds := [], alts := [], laidByText := true, laidKinds := [.data, .data, .data, .data, .sentinel, .sentinel, .pinned], laidTests := true, laidLooks := .later }
def TopDispatchBoundedUptoCardSaid : Prop := Claim7.holds Tryz.pinned (.plain (OpenSpec.upto topDispatchBoundedSpec)) topDispatchBoundedUptoCard
end Rows
end Go.Proofs.YtolapannkcdeeaaGreatDoor
