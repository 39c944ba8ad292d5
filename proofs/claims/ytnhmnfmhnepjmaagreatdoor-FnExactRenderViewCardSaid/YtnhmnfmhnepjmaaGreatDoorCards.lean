/-
  DERIVED. GIVEN WITH THE SEED: THE CARDS: each row of YtnhmnfmhnepjmaaGreatDoorRows.lean that lists a variable, with what it lists TIED to the program's text (the seventh form; the later family's looks); each row that meets fmt, with fmt's text TOLD by the authors' own Lean function (tested against real Go, not proved from fmt's source: count such statements apart). THE CARD IS WHAT COUNTS. Prove the row's statement (the work); the ties are given (YtnhmnfmhnepjmaaGreatDoorTie.lean); close each card by the builder's one call (the guide's Derived/Test/ToyasCard.lean, 'card_holds'). Laid BY PROGRAM, IN A SANDBOX (cutbox-door.mjs). By AI agents, Wed Nov 11 2026. No macro, syntax, notation, axiom, sorry.
-/
import Derived.Test.YtnhmnfmhnepjmaaGreatDoorRows
import GoSem.ClaimSeven
namespace Go.Proofs.YtnhmnfmhnepjmaaGreatDoor
namespace Rows

/-- THE TIED CARD OF 'laws.FnExactRenderView'. -/
def fnExactRenderViewCard : Claim7 := { stood := { row := fnExactRenderViewRow, standIns := [], harness := (true, "4070d4dd2f34c8799a315ba562567c249e452a962ca191c2267ecd20a3d22251"), looks := false }, kinds := [], alts := [], laidByText := true, laidKinds := [.data, .data, .data], laidTests := true, laidLooks := .later }
def FnExactRenderViewCardSaid : Prop := Claim7.holds Tryz.pinned (.plain (OpenSpec.ofChange fnExactRenderViewSpec)) fnExactRenderViewCard

/-- THE SECOND FORM's CARD OF 'laws.FnExactRenderView'. -/
def fnExactRenderViewUptoCard : Claim7 := { stood := { row := fnExactRenderViewUptoRow, standIns := [], harness := (true, "4070d4dd2f34c8799a315ba562567c249e452a962ca191c2267ecd20a3d22251"), looks := false }, kinds := [], alts := [], laidByText := true, laidKinds := [.data, .data, .data], laidTests := true, laidLooks := .later }
def FnExactRenderViewUptoCardSaid : Prop := Claim7.holds Tryz.pinned (.plain (OpenSpec.upto fnExactRenderViewSpec)) fnExactRenderViewUptoCard
end Rows
end Go.Proofs.YtnhmnfmhnepjmaaGreatDoor
