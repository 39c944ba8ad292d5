/-
  DERIVED. GIVEN WITH THE SEED: THE CARDS: each row of YtgmlioidliojkaaGreatDoorRows.lean that lists a variable, with what it lists TIED to the program's text (the seventh form; the later family's looks); each row that meets fmt, with fmt's text TOLD by the authors' own Lean function (tested against real Go, not proved from fmt's source: count such statements apart). THE CARD IS WHAT COUNTS. Prove the row's statement (the work); the ties are given (YtgmlioidliojkaaGreatDoorTie.lean); close each card by the builder's one call (the guide's Derived/Test/ToyasCard.lean, 'card_holds'). Laid BY PROGRAM, IN A SANDBOX (cutbox-door.mjs). By AI agents, Wed Nov 11 2026. No macro, syntax, notation, axiom, sorry.
-/
import Derived.Test.YtgmlioidliojkaaGreatDoorRows
import GoSem.ClaimSeven
namespace Go.Proofs.YtgmlioidliojkaaGreatDoor
namespace Rows

/-- THE TIED CARD OF 'laws.FnPrivateChanges'. -/
def fnPrivateChangesCard : Claim7 := { stood := { row := fnPrivateChangesRow, standIns := [], harness := (true, "a2635c85bbd28329965281a0f9cda6e15746995c0f938962f75cf48567f0696d"), looks := false }, kinds := [], alts := [], laidByText := true, laidKinds := [.data, .data, .data], laidTests := true, laidLooks := .later }
def FnPrivateChangesCardSaid : Prop := Claim7.holds Tryz.pinned (.plain (OpenSpec.ofChange fnPrivateChangesSpec)) fnPrivateChangesCard

/-- THE SECOND FORM's CARD OF 'laws.FnPrivateChanges'. -/
def fnPrivateChangesUptoCard : Claim7 := { stood := { row := fnPrivateChangesUptoRow, standIns := [], harness := (true, "a2635c85bbd28329965281a0f9cda6e15746995c0f938962f75cf48567f0696d"), looks := false }, kinds := [], alts := [], laidByText := true, laidKinds := [.data, .data, .data], laidTests := true, laidLooks := .later }
def FnPrivateChangesUptoCardSaid : Prop := Claim7.holds Tryz.pinned (.plain (OpenSpec.upto fnPrivateChangesSpec)) fnPrivateChangesUptoCard
end Rows
end Go.Proofs.YtgmlioidliojkaaGreatDoor
