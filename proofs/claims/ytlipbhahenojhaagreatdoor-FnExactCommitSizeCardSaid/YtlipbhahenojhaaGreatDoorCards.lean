/-
  DERIVED. GIVEN WITH THE SEED: THE CARDS: each row of YtlipbhahenojhaaGreatDoorRows.lean that lists a variable, with what it lists TIED to the program's text (the seventh form; the later family's looks); each row that meets fmt, with fmt's text TOLD by the authors' own Lean function (tested against real Go, not proved from fmt's source: count such statements apart). THE CARD IS WHAT COUNTS. Prove the row's statement (the work); the ties are given (YtlipbhahenojhaaGreatDoorTie.lean); close each card by the builder's one call (the guide's Derived/Test/ToyasCard.lean, 'card_holds'). Laid BY PROGRAM, IN A SANDBOX (cutbox-door.mjs). By AI agents, Wed Nov 11 2026. No macro, syntax, notation, axiom, sorry.
-/
import Derived.Test.YtlipbhahenojhaaGreatDoorRows
import GoSem.ClaimSeven
namespace Go.Proofs.YtlipbhahenojhaaGreatDoor
namespace Rows

/-- THE TIED CARD OF 'laws.FnExactCommitSize'. -/
def fnExactCommitSizeCard : Claim7 := { stood := { row := fnExactCommitSizeRow, standIns := [], harness := (true, "8d4a91bc139c0ddf180eb3421be6d714f54281de62da2aa8da8c0985d8108bec"), looks := true }, kinds := [], alts := [], laidByText := true, laidKinds := [.data, .data, .data, .data, .sentinel, .sentinel, .listed, .data, .pinned], laidTests := true, laidLooks := .later }
def FnExactCommitSizeCardSaid : Prop := Claim7.holds Tryz.pinned (.plain (OpenSpec.ofChange fnExactCommitSizeSpec)) fnExactCommitSizeCard

/-- THE SECOND FORM's CARD OF 'laws.FnExactCommitSize'. -/
def fnExactCommitSizeUptoCard : Claim7 := { stood := { row := fnExactCommitSizeUptoRow, standIns := [], harness := (true, "8d4a91bc139c0ddf180eb3421be6d714f54281de62da2aa8da8c0985d8108bec"), looks := true }, kinds := [], alts := [], laidByText := true, laidKinds := [.data, .data, .data, .data, .sentinel, .sentinel, .listed, .data, .pinned], laidTests := true, laidLooks := .later }
def FnExactCommitSizeUptoCardSaid : Prop := Claim7.holds Tryz.pinned (.plain (OpenSpec.upto fnExactCommitSizeSpec)) fnExactCommitSizeUptoCard
end Rows
end Go.Proofs.YtlipbhahenojhaaGreatDoor
