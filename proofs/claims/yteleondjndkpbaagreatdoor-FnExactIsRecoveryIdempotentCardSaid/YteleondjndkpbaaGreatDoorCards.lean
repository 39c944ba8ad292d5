/-
  DERIVED. GIVEN WITH THE SEED: THE CARDS: each row of YteleondjndkpbaaGreatDoorRows.lean that lists a variable, with what it lists TIED to the program's text (the seventh form; the later family's looks); each row that meets fmt, with fmt's text TOLD by the authors' own Lean function (tested against real Go, not proved from fmt's source: count such statements apart). THE CARD IS WHAT COUNTS. Prove the row's statement (the work); the ties are given (YteleondjndkpbaaGreatDoorTie.lean); close each card by the builder's one call (the guide's Derived/Test/ToyasCard.lean, 'card_holds'). Laid BY PROGRAM, IN A SANDBOX (cutbox-door.mjs). By AI agents, Wed Nov 11 2026. No macro, syntax, notation, axiom, sorry.
-/
import Derived.Test.YteleondjndkpbaaGreatDoorRows
import GoSem.ClaimSeven
namespace Go.Proofs.YteleondjndkpbaaGreatDoor
namespace Rows

/-- THE TIED CARD OF 'laws.FnExactIsRecoveryIdempotent'. -/
def fnExactIsRecoveryIdempotentCard : Claim7 := { stood := { row := fnExactIsRecoveryIdempotentRow, standIns := [], harness := (true, "1f05dfc98781d4033af1eb8b0eab77ce640aae32aaa2a994c3b33affb64d22b1"), looks := true }, kinds := [], alts := [], laidByText := true, laidKinds := [.data, .data, .data, .data, .sentinel, .sentinel, .listed, .data, .pinned], laidTests := true, laidLooks := .later }
def FnExactIsRecoveryIdempotentCardSaid : Prop := Claim7.holds Tryz.pinned (.plain (OpenSpec.ofChange fnExactIsRecoveryIdempotentSpec)) fnExactIsRecoveryIdempotentCard

/-- THE SECOND FORM's CARD OF 'laws.FnExactIsRecoveryIdempotent'. -/
def fnExactIsRecoveryIdempotentUptoCard : Claim7 := { stood := { row := fnExactIsRecoveryIdempotentUptoRow, standIns := [], harness := (true, "1f05dfc98781d4033af1eb8b0eab77ce640aae32aaa2a994c3b33affb64d22b1"), looks := true }, kinds := [], alts := [], laidByText := true, laidKinds := [.data, .data, .data, .data, .sentinel, .sentinel, .listed, .data, .pinned], laidTests := true, laidLooks := .later }
def FnExactIsRecoveryIdempotentUptoCardSaid : Prop := Claim7.holds Tryz.pinned (.plain (OpenSpec.upto fnExactIsRecoveryIdempotentSpec)) fnExactIsRecoveryIdempotentUptoCard
end Rows
end Go.Proofs.YteleondjndkpbaaGreatDoor
