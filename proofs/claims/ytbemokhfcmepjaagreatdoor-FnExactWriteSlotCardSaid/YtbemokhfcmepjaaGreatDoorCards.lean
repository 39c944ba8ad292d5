/-
  DERIVED. GIVEN WITH THE SEED: THE CARDS: each row of YtbemokhfcmepjaaGreatDoorRows.lean that lists a variable, with what it lists TIED to the program's text (the seventh form; the later family's looks); each row that meets fmt, with fmt's text TOLD by the authors' own Lean function (tested against real Go, not proved from fmt's source: count such statements apart). THE CARD IS WHAT COUNTS. Prove the row's statement (the work); the ties are given (YtbemokhfcmepjaaGreatDoorTie.lean); close each card by the builder's one call (the guide's Derived/Test/ToyasCard.lean, 'card_holds'). Laid BY PROGRAM, IN A SANDBOX (cutbox-door.mjs). By AI agents, Wed Nov 11 2026. No macro, syntax, notation, axiom, sorry.
-/
import Derived.Test.YtbemokhfcmepjaaGreatDoorRows
import GoSem.ClaimSeven
namespace Go.Proofs.YtbemokhfcmepjaaGreatDoor
namespace Rows

/-- THE TIED CARD OF 'laws.FnExactWriteSlot'. -/
def fnExactWriteSlotCard : Claim7 := { stood := { row := fnExactWriteSlotRow, standIns := [], harness := (true, "7d9edab398dac4233765d43cef739c7fc36db56e3a354b098ca388e3edaeb0a8"), looks := true }, kinds := [], alts := [], laidByText := true, laidKinds := [.data, .data, .data, .data, .sentinel, .sentinel, .listed, .data, .pinned], laidTests := true, laidLooks := .later }
def FnExactWriteSlotCardSaid : Prop := Claim7.holds Tryz.pinned (.plain (OpenSpec.ofChange fnExactWriteSlotSpec)) fnExactWriteSlotCard

/-- THE SECOND FORM's CARD OF 'laws.FnExactWriteSlot'. -/
def fnExactWriteSlotUptoCard : Claim7 := { stood := { row := fnExactWriteSlotUptoRow, standIns := [], harness := (true, "7d9edab398dac4233765d43cef739c7fc36db56e3a354b098ca388e3edaeb0a8"), looks := true }, kinds := [], alts := [], laidByText := true, laidKinds := [.data, .data, .data, .data, .sentinel, .sentinel, .listed, .data, .pinned], laidTests := true, laidLooks := .later }
def FnExactWriteSlotUptoCardSaid : Prop := Claim7.holds Tryz.pinned (.plain (OpenSpec.upto fnExactWriteSlotSpec)) fnExactWriteSlotUptoCard
end Rows
end Go.Proofs.YtbemokhfcmepjaaGreatDoor
