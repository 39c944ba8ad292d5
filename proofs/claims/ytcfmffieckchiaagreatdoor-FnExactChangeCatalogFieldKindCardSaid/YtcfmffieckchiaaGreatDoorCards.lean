/-
  DERIVED. GIVEN WITH THE SEED: THE CARDS: each row of YtcfmffieckchiaaGreatDoorRows.lean that lists a variable, with what it lists TIED to the program's text (the seventh form; the later family's looks); each row that meets fmt, with fmt's text TOLD by the authors' own Lean function (tested against real Go, not proved from fmt's source: count such statements apart). THE CARD IS WHAT COUNTS. Prove the row's statement (the work); the ties are given (YtcfmffieckchiaaGreatDoorTie.lean); close each card by the builder's one call (the guide's Derived/Test/ToyasCard.lean, 'card_holds'). Laid BY PROGRAM, IN A SANDBOX (cutbox-door.mjs). By AI agents, Wed Nov 11 2026. No macro, syntax, notation, axiom, sorry.
-/
import Derived.Test.YtcfmffieckchiaaGreatDoorRows
import GoSem.ClaimSeven
namespace Go.Proofs.YtcfmffieckchiaaGreatDoor
namespace Rows

/-- THE TIED CARD OF 'laws.FnExactChangeCatalogFieldKind'. -/
def fnExactChangeCatalogFieldKindCard : Claim7 := { stood := { row := fnExactChangeCatalogFieldKindRow, standIns := [], harness := (true, "e2524ebb724e8693981d62b1da058762047d782fefbfff327421bfb49d4b6d79"), looks := true }, kinds := [], alts := [], laidByText := true, laidKinds := [.data, .data, .data, .sentinel, .sentinel], laidTests := true, laidLooks := .later }
def FnExactChangeCatalogFieldKindCardSaid : Prop := Claim7.holds Tryz.pinned (.plain (OpenSpec.ofChange fnExactChangeCatalogFieldKindSpec)) fnExactChangeCatalogFieldKindCard

/-- THE SECOND FORM's CARD OF 'laws.FnExactChangeCatalogFieldKind'. -/
def fnExactChangeCatalogFieldKindUptoCard : Claim7 := { stood := { row := fnExactChangeCatalogFieldKindUptoRow, standIns := [], harness := (true, "e2524ebb724e8693981d62b1da058762047d782fefbfff327421bfb49d4b6d79"), looks := true }, kinds := [], alts := [], laidByText := true, laidKinds := [.data, .data, .data, .sentinel, .sentinel], laidTests := true, laidLooks := .later }
def FnExactChangeCatalogFieldKindUptoCardSaid : Prop := Claim7.holds Tryz.pinned (.plain (OpenSpec.upto fnExactChangeCatalogFieldKindSpec)) fnExactChangeCatalogFieldKindUptoCard
end Rows
end Go.Proofs.YtcfmffieckchiaaGreatDoor
