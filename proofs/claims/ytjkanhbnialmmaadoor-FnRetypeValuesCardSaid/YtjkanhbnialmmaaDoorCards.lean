/-
  DERIVED. GIVEN WITH THE SEED: THE CARDS: each row of YtjkanhbnialmmaaDoorRows.lean that lists a variable, with what it lists TIED to the program's text (the seventh form; the later family's looks); each row that meets fmt, with fmt's text TOLD by the authors' own Lean function (tested against real Go, not proved from fmt's source: count such statements apart). THE CARD IS WHAT COUNTS. Prove the row's statement (the work); the ties are given (YtjkanhbnialmmaaDoorTie.lean); close each card by the builder's one call (the guide's Derived/Test/ToyasCard.lean, 'card_holds'). Laid BY PROGRAM, IN A SANDBOX (cutbox-door.mjs). By AI agents, Wed Nov 11 2026. No macro, syntax, notation, axiom, sorry.
-/
import Derived.Test.YtjkanhbnialmmaaDoorRows
import GoSem.ClaimSeven
namespace Go.Proofs.YtjkanhbnialmmaaDoor
namespace Rows

/-- THE TIED CARD OF 'laws.FnExactEncodeIntAsString'. -/
def fnExactEncodeIntAsStringCard : Claim7 := { stood := { row := fnExactEncodeIntAsStringRow, standIns := [], harness := (true, "69abfaf8f550c9b18b5e78ce3c27773300dc299ccdedf7df3e4a6fd2c31afd62"), looks := true }, kinds := [], alts := [], laidByText := true, laidKinds := [.data, .data, .data], laidTests := true, laidLooks := .later }
def FnExactEncodeIntAsStringCardSaid : Prop := Claim7.holds Tryd.pinned (.plain (OpenSpec.ofChange fnExactEncodeIntAsStringSpec)) fnExactEncodeIntAsStringCard

/-- THE TIED CARD OF 'laws.FnExactDecodeIntFromString'. -/
def fnExactDecodeIntFromStringCard : Claim7 := { stood := { row := fnExactDecodeIntFromStringRow, standIns := [], harness := (true, "69abfaf8f550c9b18b5e78ce3c27773300dc299ccdedf7df3e4a6fd2c31afd62"), looks := true }, kinds := [], alts := [], laidByText := true, laidKinds := [.data, .data, .data, .sentinel, .sentinel], laidTests := true, laidLooks := .later }
def FnExactDecodeIntFromStringCardSaid : Prop := Claim7.holds Tryd.pinned (.plain (OpenSpec.ofChange fnExactDecodeIntFromStringSpec)) fnExactDecodeIntFromStringCard

/-- THE TIED CARD OF 'laws.FnExactConvertValue'. -/
def fnExactConvertValueCard : Claim7 := { stood := { row := fnExactConvertValueRow, standIns := [], harness := (true, "69abfaf8f550c9b18b5e78ce3c27773300dc299ccdedf7df3e4a6fd2c31afd62"), looks := true }, kinds := [], alts := [], laidByText := true, laidKinds := [.data, .data, .data, .sentinel, .sentinel], laidTests := true, laidLooks := .later }
def FnExactConvertValueCardSaid : Prop := Claim7.holds Tryd.pinned (.plain (OpenSpec.ofChange fnExactConvertValueSpec)) fnExactConvertValueCard

/-- THE TIED CARD OF 'laws.FnRetypeValues'. -/
def fnRetypeValuesCard : Claim7 := { stood := { row := fnRetypeValuesRow, standIns := [], harness := (true, "69abfaf8f550c9b18b5e78ce3c27773300dc299ccdedf7df3e4a6fd2c31afd62"), looks := true }, kinds := [], alts := [], laidByText := true, laidKinds := [.data, .data, .data, .sentinel, .sentinel], laidTests := true, laidLooks := .later }
def FnRetypeValuesCardSaid : Prop := Claim7.holds Tryd.pinned (.plain (OpenSpec.ofChange fnRetypeValuesSpec)) fnRetypeValuesCard

/-- THE SECOND FORM's CARD OF 'laws.FnExactEncodeIntAsString'. -/
def fnExactEncodeIntAsStringUptoCard : Claim7 := { stood := { row := fnExactEncodeIntAsStringUptoRow, standIns := [], harness := (true, "69abfaf8f550c9b18b5e78ce3c27773300dc299ccdedf7df3e4a6fd2c31afd62"), looks := true }, kinds := [], alts := [], laidByText := true, laidKinds := [.data, .data, .data], laidTests := true, laidLooks := .later }
def FnExactEncodeIntAsStringUptoCardSaid : Prop := Claim7.holds Tryd.pinned (.plain (OpenSpec.upto fnExactEncodeIntAsStringSpec)) fnExactEncodeIntAsStringUptoCard

/-- THE SECOND FORM's CARD OF 'laws.FnExactDecodeIntFromString'. -/
def fnExactDecodeIntFromStringUptoCard : Claim7 := { stood := { row := fnExactDecodeIntFromStringUptoRow, standIns := [], harness := (true, "69abfaf8f550c9b18b5e78ce3c27773300dc299ccdedf7df3e4a6fd2c31afd62"), looks := true }, kinds := [], alts := [], laidByText := true, laidKinds := [.data, .data, .data, .sentinel, .sentinel], laidTests := true, laidLooks := .later }
def FnExactDecodeIntFromStringUptoCardSaid : Prop := Claim7.holds Tryd.pinned (.plain (OpenSpec.upto fnExactDecodeIntFromStringSpec)) fnExactDecodeIntFromStringUptoCard

/-- THE SECOND FORM's CARD OF 'laws.FnExactConvertValue'. -/
def fnExactConvertValueUptoCard : Claim7 := { stood := { row := fnExactConvertValueUptoRow, standIns := [], harness := (true, "69abfaf8f550c9b18b5e78ce3c27773300dc299ccdedf7df3e4a6fd2c31afd62"), looks := true }, kinds := [], alts := [], laidByText := true, laidKinds := [.data, .data, .data, .sentinel, .sentinel], laidTests := true, laidLooks := .later }
def FnExactConvertValueUptoCardSaid : Prop := Claim7.holds Tryd.pinned (.plain (OpenSpec.upto fnExactConvertValueSpec)) fnExactConvertValueUptoCard

/-- THE SECOND FORM's CARD OF 'laws.FnRetypeValues'. -/
def fnRetypeValuesUptoCard : Claim7 := { stood := { row := fnRetypeValuesUptoRow, standIns := [], harness := (true, "69abfaf8f550c9b18b5e78ce3c27773300dc299ccdedf7df3e4a6fd2c31afd62"), looks := true }, kinds := [], alts := [], laidByText := true, laidKinds := [.data, .data, .data, .sentinel, .sentinel], laidTests := true, laidLooks := .later }
def FnRetypeValuesUptoCardSaid : Prop := Claim7.holds Tryd.pinned (.plain (OpenSpec.upto fnRetypeValuesSpec)) fnRetypeValuesUptoCard
end Rows
end Go.Proofs.YtjkanhbnialmmaaDoor
