/-
  DERIVED. GIVEN WITH THE SEED: THE CARDS: each row of YtkdnkiggkgakmaaGreatDoorRows.lean that lists a variable, with what it lists TIED to the program's text (the seventh form; the later family's looks); each row that meets fmt, with fmt's text TOLD by the authors' own Lean function (tested against real Go, not proved from fmt's source: count such statements apart). THE CARD IS WHAT COUNTS. Prove the row's statement (the work); the ties are given (YtkdnkiggkgakmaaGreatDoorTie.lean); close each card by the builder's one call (the guide's Derived/Test/ToyasCard.lean, 'card_holds'). Laid BY PROGRAM, IN A SANDBOX (cutbox-door.mjs). By AI agents, Wed Nov 11 2026. No macro, syntax, notation, axiom, sorry.
-/
import Derived.Test.YtkdnkiggkgakmaaGreatDoorRows
import GoSem.ClaimSeven
namespace Go.Proofs.YtkdnkiggkgakmaaGreatDoor
namespace Rows

/-- THE TIED CARD OF 'laws.FnExactRecover'. -/
def fnExactRecoverCard : Claim7 := { stood := { row := fnExactRecoverRow, standIns := [], harness := (true, "cdabd7d0dfe7ad119c4ffc607388386178972ab66eb1b03ae3da6b98cf88d2c2"), looks := true }, kinds := [], alts := [], laidByText := true, laidKinds := [.data, .data, .data, .data, .sentinel, .sentinel, .listed, .data, .pinned], laidTests := true, laidLooks := .later }
def FnExactRecoverCardSaid : Prop := Claim7.holds Tryz.pinned (.plain (OpenSpec.ofChange fnExactRecoverSpec)) fnExactRecoverCard

/-- THE SECOND FORM's CARD OF 'laws.FnExactRecover'. -/
def fnExactRecoverUptoCard : Claim7 := { stood := { row := fnExactRecoverUptoRow, standIns := [], harness := (true, "cdabd7d0dfe7ad119c4ffc607388386178972ab66eb1b03ae3da6b98cf88d2c2"), looks := true }, kinds := [], alts := [], laidByText := true, laidKinds := [.data, .data, .data, .data, .sentinel, .sentinel, .listed, .data, .pinned], laidTests := true, laidLooks := .later }
def FnExactRecoverUptoCardSaid : Prop := Claim7.holds Tryz.pinned (.plain (OpenSpec.upto fnExactRecoverSpec)) fnExactRecoverUptoCard
end Rows
end Go.Proofs.YtkdnkiggkgakmaaGreatDoor
