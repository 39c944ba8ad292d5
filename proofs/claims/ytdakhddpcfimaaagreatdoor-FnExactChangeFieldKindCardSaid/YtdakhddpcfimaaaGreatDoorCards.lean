/-
  DERIVED. GIVEN WITH THE SEED: THE CARDS: each row of YtdakhddpcfimaaaGreatDoorRows.lean that lists a variable, with what it lists TIED to the program's text (the seventh form; the later family's looks); each row that meets fmt, with fmt's text TOLD by the authors' own Lean function (tested against real Go, not proved from fmt's source: count such statements apart). THE CARD IS WHAT COUNTS. Prove the row's statement (the work); the ties are given (YtdakhddpcfimaaaGreatDoorTie.lean); close each card by the builder's one call (the guide's Derived/Test/ToyasCard.lean, 'card_holds'). Laid BY PROGRAM, IN A SANDBOX (cutbox-door.mjs). By AI agents, Wed Nov 11 2026. No macro, syntax, notation, axiom, sorry.
-/
import Derived.Test.YtdakhddpcfimaaaGreatDoorRows
import GoSem.ClaimSeven
namespace Go.Proofs.YtdakhddpcfimaaaGreatDoor
namespace Rows

/-- THE TIED CARD OF 'laws.FnExactChangeFieldKind'. -/
def fnExactChangeFieldKindCard : Claim7 := { stood := { row := fnExactChangeFieldKindRow, standIns := [], harness := (true, "0a66408332e6d006f70b5e3faa886c13bb7ddf8a10d690eaa61f0edf6ebb6fd4"), looks := true }, kinds := [], alts := [], laidByText := true, laidKinds := [.data, .data, .data, .sentinel, .sentinel], laidTests := true, laidLooks := .later }
def FnExactChangeFieldKindCardSaid : Prop := Claim7.holds Tryz.pinned (.plain (OpenSpec.ofChange fnExactChangeFieldKindSpec)) fnExactChangeFieldKindCard

/-- THE SECOND FORM's CARD OF 'laws.FnExactChangeFieldKind'. -/
def fnExactChangeFieldKindUptoCard : Claim7 := { stood := { row := fnExactChangeFieldKindUptoRow, standIns := [], harness := (true, "0a66408332e6d006f70b5e3faa886c13bb7ddf8a10d690eaa61f0edf6ebb6fd4"), looks := true }, kinds := [], alts := [], laidByText := true, laidKinds := [.data, .data, .data, .sentinel, .sentinel], laidTests := true, laidLooks := .later }
def FnExactChangeFieldKindUptoCardSaid : Prop := Claim7.holds Tryz.pinned (.plain (OpenSpec.upto fnExactChangeFieldKindSpec)) fnExactChangeFieldKindUptoCard
end Rows
end Go.Proofs.YtdakhddpcfimaaaGreatDoor
