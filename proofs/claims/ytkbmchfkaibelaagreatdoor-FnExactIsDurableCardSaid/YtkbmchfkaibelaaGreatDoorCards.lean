/-
  DERIVED. GIVEN WITH THE SEED: THE CARDS: each row of YtkbmchfkaibelaaGreatDoorRows.lean that lists a variable, with what it lists TIED to the program's text (the seventh form; the later family's looks); each row that meets fmt, with fmt's text TOLD by the authors' own Lean function (tested against real Go, not proved from fmt's source: count such statements apart). THE CARD IS WHAT COUNTS. Prove the row's statement (the work); the ties are given (YtkbmchfkaibelaaGreatDoorTie.lean); close each card by the builder's one call (the guide's Derived/Test/ToyasCard.lean, 'card_holds'). Laid BY PROGRAM, IN A SANDBOX (cutbox-door.mjs). By AI agents, Wed Nov 11 2026. No macro, syntax, notation, axiom, sorry.
-/
import Derived.Test.YtkbmchfkaibelaaGreatDoorRows
import GoSem.ClaimSeven
namespace Go.Proofs.YtkbmchfkaibelaaGreatDoor
namespace Rows

/-- THE TIED CARD OF 'laws.FnExactIsDurable'. -/
def fnExactIsDurableCard : Claim7 := { stood := { row := fnExactIsDurableRow, standIns := [], harness := (true, "dea2f035cf5f2f9336ca98b9866b4fb1d9361cf440717f1a380066fe184ab31a"), looks := true }, kinds := [], alts := [], laidByText := true, laidKinds := [.data, .data, .data, .data, .sentinel, .sentinel, .listed, .data, .pinned], laidTests := true, laidLooks := .later }
def FnExactIsDurableCardSaid : Prop := Claim7.holds Tryz.pinned (.plain (OpenSpec.ofChange fnExactIsDurableSpec)) fnExactIsDurableCard

/-- THE SECOND FORM's CARD OF 'laws.FnExactIsDurable'. -/
def fnExactIsDurableUptoCard : Claim7 := { stood := { row := fnExactIsDurableUptoRow, standIns := [], harness := (true, "dea2f035cf5f2f9336ca98b9866b4fb1d9361cf440717f1a380066fe184ab31a"), looks := true }, kinds := [], alts := [], laidByText := true, laidKinds := [.data, .data, .data, .data, .sentinel, .sentinel, .listed, .data, .pinned], laidTests := true, laidLooks := .later }
def FnExactIsDurableUptoCardSaid : Prop := Claim7.holds Tryz.pinned (.plain (OpenSpec.upto fnExactIsDurableSpec)) fnExactIsDurableUptoCard
end Rows
end Go.Proofs.YtkbmchfkaibelaaGreatDoor
