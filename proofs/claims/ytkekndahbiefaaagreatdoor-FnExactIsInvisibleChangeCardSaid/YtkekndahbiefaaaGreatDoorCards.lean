/-
  DERIVED. GIVEN WITH THE SEED: THE CARDS: each row of YtkekndahbiefaaaGreatDoorRows.lean that lists a variable, with what it lists TIED to the program's text (the seventh form; the later family's looks); each row that meets fmt, with fmt's text TOLD by the authors' own Lean function (tested against real Go, not proved from fmt's source: count such statements apart). THE CARD IS WHAT COUNTS. Prove the row's statement (the work); the ties are given (YtkekndahbiefaaaGreatDoorTie.lean); close each card by the builder's one call (the guide's Derived/Test/ToyasCard.lean, 'card_holds'). Laid BY PROGRAM, IN A SANDBOX (cutbox-door.mjs). By AI agents, Wed Nov 11 2026. No macro, syntax, notation, axiom, sorry.
-/
import Derived.Test.YtkekndahbiefaaaGreatDoorRows
import GoSem.ClaimSeven
namespace Go.Proofs.YtkekndahbiefaaaGreatDoor
namespace Rows

/-- THE TIED CARD OF 'laws.FnExactIsInvisibleChange'. -/
def fnExactIsInvisibleChangeCard : Claim7 := { stood := { row := fnExactIsInvisibleChangeRow, standIns := [], harness := (true, "bc49df54fe40b05fd90b07029b8dc22e292f9eef951a9735c3545098d4e9be94"), looks := false }, kinds := [], alts := [], laidByText := true, laidKinds := [.data, .data, .data], laidTests := true, laidLooks := .later }
def FnExactIsInvisibleChangeCardSaid : Prop := Claim7.holds Tryz.pinned (.plain (OpenSpec.ofChange fnExactIsInvisibleChangeSpec)) fnExactIsInvisibleChangeCard

/-- THE TIED CARD OF 'laws.FnPrivateChanges'. -/
def fnPrivateChangesCard : Claim7 := { stood := { row := fnPrivateChangesRow, standIns := [], harness := (true, "bc49df54fe40b05fd90b07029b8dc22e292f9eef951a9735c3545098d4e9be94"), looks := false }, kinds := [], alts := [], laidByText := true, laidKinds := [.data, .data, .data], laidTests := true, laidLooks := .later }
def FnPrivateChangesCardSaid : Prop := Claim7.holds Tryz.pinned (.plain (OpenSpec.ofChange fnPrivateChangesSpec)) fnPrivateChangesCard

/-- THE SECOND FORM's CARD OF 'laws.FnExactIsInvisibleChange'. -/
def fnExactIsInvisibleChangeUptoCard : Claim7 := { stood := { row := fnExactIsInvisibleChangeUptoRow, standIns := [], harness := (true, "bc49df54fe40b05fd90b07029b8dc22e292f9eef951a9735c3545098d4e9be94"), looks := false }, kinds := [], alts := [], laidByText := true, laidKinds := [.data, .data, .data], laidTests := true, laidLooks := .later }
def FnExactIsInvisibleChangeUptoCardSaid : Prop := Claim7.holds Tryz.pinned (.plain (OpenSpec.upto fnExactIsInvisibleChangeSpec)) fnExactIsInvisibleChangeUptoCard

/-- THE SECOND FORM's CARD OF 'laws.FnPrivateChanges'. -/
def fnPrivateChangesUptoCard : Claim7 := { stood := { row := fnPrivateChangesUptoRow, standIns := [], harness := (true, "bc49df54fe40b05fd90b07029b8dc22e292f9eef951a9735c3545098d4e9be94"), looks := false }, kinds := [], alts := [], laidByText := true, laidKinds := [.data, .data, .data], laidTests := true, laidLooks := .later }
def FnPrivateChangesUptoCardSaid : Prop := Claim7.holds Tryz.pinned (.plain (OpenSpec.upto fnPrivateChangesSpec)) fnPrivateChangesUptoCard
end Rows
end Go.Proofs.YtkekndahbiefaaaGreatDoor
