/-
  DERIVED. GIVEN WITH THE SEED: THE CARDS: each row of YtkbfhiamdcoieaaGreatDoorRows.lean that lists a variable, with what it lists TIED to the program's text (the seventh form; the later family's looks); each row that meets fmt, with fmt's text TOLD by the authors' own Lean function (tested against real Go, not proved from fmt's source: count such statements apart). THE CARD IS WHAT COUNTS. Prove the row's statement (the work); the ties are given (YtkbfhiamdcoieaaGreatDoorTie.lean); close each card by the builder's one call (the guide's Derived/Test/ToyasCard.lean, 'card_holds'). Laid BY PROGRAM, IN A SANDBOX (cutbox-door.mjs). By AI agents, Wed Nov 11 2026. No macro, syntax, notation, axiom, sorry.
-/
import Derived.Test.YtkbfhiamdcoieaaGreatDoorRows
import GoSem.ClaimSeven
namespace Go.Proofs.YtkbfhiamdcoieaaGreatDoor
namespace Rows

/-- THE TIED CARD OF 'laws.FnIsolation'. -/
def fnIsolationCard : Claim7 := { stood := { row := fnIsolationRow, standIns := [], harness := (true, "2f39c06476eaa68eb6c8209ad1f0b183a94b79f86b08bd7453d67f450e370c57"), looks := false }, kinds := [], alts := [], laidByText := true, laidKinds := [.data, .data, .data], laidTests := true, laidLooks := .later }
def FnIsolationCardSaid : Prop := Claim7.holds Tryz.pinned (.plain (OpenSpec.ofChange fnIsolationSpec)) fnIsolationCard

/-- THE SECOND FORM's CARD OF 'laws.FnIsolation'. -/
def fnIsolationUptoCard : Claim7 := { stood := { row := fnIsolationUptoRow, standIns := [], harness := (true, "2f39c06476eaa68eb6c8209ad1f0b183a94b79f86b08bd7453d67f450e370c57"), looks := false }, kinds := [], alts := [], laidByText := true, laidKinds := [.data, .data, .data], laidTests := true, laidLooks := .later }
def FnIsolationUptoCardSaid : Prop := Claim7.holds Tryz.pinned (.plain (OpenSpec.upto fnIsolationSpec)) fnIsolationUptoCard
end Rows
end Go.Proofs.YtkbfhiamdcoieaaGreatDoor
