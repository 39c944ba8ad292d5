/-
  DERIVED. GIVEN WITH THE SEED: THE CARDS: each row of YtceekipigpcilaaDoorRows.lean that lists a variable, with what it lists TIED to the program's text (the seventh form; the later family's looks); each row that meets fmt, with fmt's text TOLD by the authors' own Lean function (tested against real Go, not proved from fmt's source: count such statements apart). THE CARD IS WHAT COUNTS. Prove the row's statement (the work); the ties are given (YtceekipigpcilaaDoorTie.lean); close each card by the builder's one call (the guide's Derived/Test/ToyasCard.lean, 'card_holds'). Laid BY PROGRAM, IN A SANDBOX (cutbox-door.mjs). By AI agents, Wed Nov 11 2026. No macro, syntax, notation, axiom, sorry.
-/
import Derived.Test.YtceekipigpcilaaDoorRows
import GoSem.ClaimSeven
namespace Go.Proofs.YtceekipigpcilaaDoor
namespace Rows

/-- THE TIED CARD OF 'laws.FnFirstName'. -/
def fnFirstNameCard : Claim7 := { stood := { row := fnFirstNameRow, standIns := [], harness := (true, "dea12d00ec597c5fbf75a6981989ddbb339cc9aa9432172a4ed2779e2ca3d45f"), looks := false }, kinds := [], alts := [], laidByText := true, laidKinds := [.data, .data, .data], laidTests := true, laidLooks := .later }
def FnFirstNameCardSaid : Prop := Claim7.holds Tryd.pinned (.plain (OpenSpec.ofChange fnFirstNameSpec)) fnFirstNameCard

/-- THE SECOND FORM's CARD OF 'laws.FnFirstName'. -/
def fnFirstNameUptoCard : Claim7 := { stood := { row := fnFirstNameUptoRow, standIns := [], harness := (true, "dea12d00ec597c5fbf75a6981989ddbb339cc9aa9432172a4ed2779e2ca3d45f"), looks := false }, kinds := [], alts := [], laidByText := true, laidKinds := [.data, .data, .data], laidTests := true, laidLooks := .later }
def FnFirstNameUptoCardSaid : Prop := Claim7.holds Tryd.pinned (.plain (OpenSpec.upto fnFirstNameSpec)) fnFirstNameUptoCard
end Rows
end Go.Proofs.YtceekipigpcilaaDoor
