/-
  DERIVED. GIVEN WITH THE SEED: THE CARDS: each row of YtoimjneljlpolaaGreatDoorRows.lean that lists a variable, with what it lists TIED to the program's text (the seventh form; the later family's looks); each row that meets fmt, with fmt's text TOLD by the authors' own Lean function (tested against real Go, not proved from fmt's source: count such statements apart). THE CARD IS WHAT COUNTS. Prove the row's statement (the work); the ties are given (YtoimjneljlpolaaGreatDoorTie.lean); close each card by the builder's one call (the guide's Derived/Test/ToyasCard.lean, 'card_holds'). Laid BY PROGRAM, IN A SANDBOX (cutbox-door.mjs). By AI agents, Wed Nov 11 2026. No macro, syntax, notation, axiom, sorry.
-/
import Derived.Test.YtoimjneljlpolaaGreatDoorRows
import GoSem.ClaimSeven
namespace Go.Proofs.YtoimjneljlpolaaGreatDoor
namespace Rows

/-- THE TIED CARD OF 'laws.FnExactNewSystem'. -/
def fnExactNewSystemCard : Claim7 := { stood := { row := fnExactNewSystemRow, standIns := [], harness := (true, "d0d6ccd778a20cf2b30838feccd3893f867d43aedae682bc99275b776261f3f6"), looks := true }, kinds := [], alts := [], laidByText := true, laidKinds := [.data, .data, .data, .data, .sentinel, .sentinel, .listed, .data, .pinned], laidTests := true, laidLooks := .later }
def FnExactNewSystemCardSaid : Prop := Claim7.holds Tryz.pinned (.plain (OpenSpec.ofChange fnExactNewSystemSpec)) fnExactNewSystemCard

/-- THE SECOND FORM's CARD OF 'laws.FnExactNewSystem'. -/
def fnExactNewSystemUptoCard : Claim7 := { stood := { row := fnExactNewSystemUptoRow, standIns := [], harness := (true, "d0d6ccd778a20cf2b30838feccd3893f867d43aedae682bc99275b776261f3f6"), looks := true }, kinds := [], alts := [], laidByText := true, laidKinds := [.data, .data, .data, .data, .sentinel, .sentinel, .listed, .data, .pinned], laidTests := true, laidLooks := .later }
def FnExactNewSystemUptoCardSaid : Prop := Claim7.holds Tryz.pinned (.plain (OpenSpec.upto fnExactNewSystemSpec)) fnExactNewSystemUptoCard
end Rows
end Go.Proofs.YtoimjneljlpolaaGreatDoor
