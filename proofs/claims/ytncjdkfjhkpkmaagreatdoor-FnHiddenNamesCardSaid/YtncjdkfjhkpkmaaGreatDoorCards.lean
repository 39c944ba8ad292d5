/-
  DERIVED. GIVEN WITH THE SEED: THE CARDS: each row of YtncjdkfjhkpkmaaGreatDoorRows.lean that lists a variable, with what it lists TIED to the program's text (the seventh form; the later family's looks); each row that meets fmt, with fmt's text TOLD by the authors' own Lean function (tested against real Go, not proved from fmt's source: count such statements apart). THE CARD IS WHAT COUNTS. Prove the row's statement (the work); the ties are given (YtncjdkfjhkpkmaaGreatDoorTie.lean); close each card by the builder's one call (the guide's Derived/Test/ToyasCard.lean, 'card_holds'). Laid BY PROGRAM, IN A SANDBOX (cutbox-door.mjs). By AI agents, Wed Nov 11 2026. No macro, syntax, notation, axiom, sorry.
-/
import Derived.Test.YtncjdkfjhkpkmaaGreatDoorRows
import GoSem.ClaimSeven
namespace Go.Proofs.YtncjdkfjhkpkmaaGreatDoor
namespace Rows

/-- THE TIED CARD OF 'laws.FnHiddenNames'. -/
def fnHiddenNamesCard : Claim7 := { stood := { row := fnHiddenNamesRow, standIns := [], harness := (true, "749da7e1351377863ddb7cac87ad58259d57fad06d0f9c619f372d8a0d537648"), looks := false }, kinds := [], alts := [], laidByText := true, laidKinds := [.data, .data, .data], laidTests := true, laidLooks := .later }
def FnHiddenNamesCardSaid : Prop := Claim7.holds Tryz.pinned (.plain (OpenSpec.ofChange fnHiddenNamesSpec)) fnHiddenNamesCard

/-- THE SECOND FORM's CARD OF 'laws.FnHiddenNames'. -/
def fnHiddenNamesUptoCard : Claim7 := { stood := { row := fnHiddenNamesUptoRow, standIns := [], harness := (true, "749da7e1351377863ddb7cac87ad58259d57fad06d0f9c619f372d8a0d537648"), looks := false }, kinds := [], alts := [], laidByText := true, laidKinds := [.data, .data, .data], laidTests := true, laidLooks := .later }
def FnHiddenNamesUptoCardSaid : Prop := Claim7.holds Tryz.pinned (.plain (OpenSpec.upto fnHiddenNamesSpec)) fnHiddenNamesUptoCard
end Rows
end Go.Proofs.YtncjdkfjhkpkmaaGreatDoor
