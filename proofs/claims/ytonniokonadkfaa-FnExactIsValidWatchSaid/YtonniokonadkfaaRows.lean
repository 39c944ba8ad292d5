/-
  No cell of these rows narrows 'for every input' (looked for: loops, veiled, ifaces, maps, wideKeys, modest, calm, conditions, laid).
  DERIVED. THE GIVEN ROWS OF THIS SEAT. 4 by the template 'for every input the law returns true; each argument reads behind the call as it read before'; 0 by the template 'total and deterministic' (their statements: YtonniokonadkfaaTotals.lean).
  GIVEN WITH THE SEED: the statements are not yours to turn. If you find one false, say at which input.
  Laid BY PROGRAM, IN A SANDBOX (cutbox-rows.mjs): the forced cells as the released guide's own fill.sh prints them over the translation 2989c13e632631b8… (all of the seat's roots in one cut). By AI agents, Wed Nov 11 2026. No macro, syntax, notation, axiom, sorry.
-/
import Derived.Test.YtonniokonadkfaaChecked
import GoSem.Claim
import GoSem.ClaimJoined
import GoSem.ClaimMapViews
import Derived.JoinedTies
import Derived.KernelRfl
namespace Go.Proofs.Ytonniokonadkfaa
/- THE CELL 'sum', in the pinned program and in every row, IS THE sha256 OF THE DUMP (.gsa) THAT YtonniokonadkfaaProg.lean LOADS. Nothing in Lean hashes anything: it is a label: what it is worth is what the hold of that sum in a sandbox is worth. -/
noncomputable def Try.pinned : Pinned := { name := "ytonniokonadkfaa", sum := "2989c13e632631b80f0952805a9c3e9266319a529a8c6148d5d78d13409a7880", checked := Try.checked }
namespace Rows
def none {H : Type} : Left H := { results := [], args := [] }

/-- 'laws.FnExactReplayEvents': WHATEVER THE INPUT: true; the input reads as it did. -/
def fnExactReplayEventsSpec : ChangeSpec := { name := "fnExactReplayEvents", fn := fun _ => fun
  | [d1, d2] => { results := [.lit (.bool true)], args := [d1, d2] }
  | _ => none }
def fnExactReplayEventsRow : OpenClaim := { program := "ytonniokonadkfaa", sum := "2989c13e632631b80f0952805a9c3e9266319a529a8c6148d5d78d13409a7880", func := "loop.example/g00976/laws.FnExactReplayEvents", spec := "fnExactReplayEvents", unfollowed := true, recurses := true, apart := false }
def FnExactReplayEventsSaid : Prop := fnExactReplayEventsRow.holds Try.pinned (OpenSpec.ofChange fnExactReplayEventsSpec)

/-- ITS FALSE NEIGHBOUR: 'it returns false'. Refute it at one input. -/
def fnExactReplayEventsWrong : ChangeSpec := { name := "fnExactReplayEvents", fn := fun _ => fun
  | [d1, d2] => { results := [.lit (.bool false)], args := [d1, d2] }
  | _ => none }
def FnExactReplayEventsWrongFalsely : Prop := fnExactReplayEventsRow.holds Try.pinned (OpenSpec.ofChange fnExactReplayEventsWrong)

/-- 'laws.FnExactWatchListing': WHATEVER THE INPUT: true; the input reads as it did. -/
def fnExactWatchListingSpec : ChangeSpec := { name := "fnExactWatchListing", fn := fun _ => fun
  | [d] => { results := [.lit (.bool true)], args := [d] }
  | _ => none }
def fnExactWatchListingRow : OpenClaim := { program := "ytonniokonadkfaa", sum := "2989c13e632631b80f0952805a9c3e9266319a529a8c6148d5d78d13409a7880", func := "loop.example/g00976/laws.FnExactWatchListing", spec := "fnExactWatchListing", unfollowed := true, recurses := true, apart := false }
def FnExactWatchListingSaid : Prop := fnExactWatchListingRow.holds Try.pinned (OpenSpec.ofChange fnExactWatchListingSpec)

/-- ITS FALSE NEIGHBOUR: 'it returns false'. Refute it at one input. -/
def fnExactWatchListingWrong : ChangeSpec := { name := "fnExactWatchListing", fn := fun _ => fun
  | [d] => { results := [.lit (.bool false)], args := [d] }
  | _ => none }
def FnExactWatchListingWrongFalsely : Prop := fnExactWatchListingRow.holds Try.pinned (OpenSpec.ofChange fnExactWatchListingWrong)

/-- 'laws.FnExactListingAsOf': WHATEVER THE INPUT: true; the input reads as it did. -/
def fnExactListingAsOfSpec : ChangeSpec := { name := "fnExactListingAsOf", fn := fun _ => fun
  | [d1, d2] => { results := [.lit (.bool true)], args := [d1, d2] }
  | _ => none }
def fnExactListingAsOfRow : OpenClaim := { program := "ytonniokonadkfaa", sum := "2989c13e632631b80f0952805a9c3e9266319a529a8c6148d5d78d13409a7880", func := "loop.example/g00976/laws.FnExactListingAsOf", spec := "fnExactListingAsOf", unfollowed := true, recurses := true, apart := false }
def FnExactListingAsOfSaid : Prop := fnExactListingAsOfRow.holds Try.pinned (OpenSpec.ofChange fnExactListingAsOfSpec)

/-- ITS FALSE NEIGHBOUR: 'it returns false'. Refute it at one input. -/
def fnExactListingAsOfWrong : ChangeSpec := { name := "fnExactListingAsOf", fn := fun _ => fun
  | [d1, d2] => { results := [.lit (.bool false)], args := [d1, d2] }
  | _ => none }
def FnExactListingAsOfWrongFalsely : Prop := fnExactListingAsOfRow.holds Try.pinned (OpenSpec.ofChange fnExactListingAsOfWrong)

/-- 'laws.FnExactIsValidWatch': WHATEVER THE INPUT: true; the input reads as it did. -/
def fnExactIsValidWatchSpec : ChangeSpec := { name := "fnExactIsValidWatch", fn := fun _ => fun
  | [d] => { results := [.lit (.bool true)], args := [d] }
  | _ => none }
def fnExactIsValidWatchRow : OpenClaim := { program := "ytonniokonadkfaa", sum := "2989c13e632631b80f0952805a9c3e9266319a529a8c6148d5d78d13409a7880", func := "loop.example/g00976/laws.FnExactIsValidWatch", spec := "fnExactIsValidWatch", unfollowed := true, recurses := true, apart := false }
def FnExactIsValidWatchSaid : Prop := fnExactIsValidWatchRow.holds Try.pinned (OpenSpec.ofChange fnExactIsValidWatchSpec)

/-- ITS FALSE NEIGHBOUR: 'it returns false'. Refute it at one input. -/
def fnExactIsValidWatchWrong : ChangeSpec := { name := "fnExactIsValidWatch", fn := fun _ => fun
  | [d] => { results := [.lit (.bool false)], args := [d] }
  | _ => none }
def FnExactIsValidWatchWrongFalsely : Prop := fnExactIsValidWatchRow.holds Try.pinned (OpenSpec.ofChange fnExactIsValidWatchWrong)

/- THE SECOND FORM. 'bulk': how many values and letters a reading holds, each counted each time it is reached (what is shared counts as often as it is met; a slice's spare places count too). A statement '..UptoSaid' is the law's where the arguments, and the package variables that the reading takes, are together of bulk at most 1048576: NARROWER than '..Said'. Prove '..Said' where nothing that the law and all that it calls make is longer than what came in: it says more and counts as full. Else prove '..UptoSaid'. A law counts once. -/
mutual
def uptoBulk {H : Type} : DataW H → Nat
  | .lit (.string bytes) => bytes.length + 1
  | .lit _ => 1
  | .nil => 1
  | .ptr d => uptoBulk d + 1
  | .slice elems spare => uptoBulkAll elems + uptoBulkAll spare + 1
  | .agg parts => uptoBulkAll parts + 1
  | .iface _ d => uptoBulk d + 1
  | .map entries => uptoBulkEntries entries + 1
  | .held _ => 1
def uptoBulkAll {H : Type} : List (DataW H) → Nat
  | [] => 0
  | d :: r => uptoBulk d + uptoBulkAll r
def uptoBulkEntries {H : Type} : List (Lit × DataW H) → Nat
  | [] => 0
  | x :: r => uptoBulkEntry x + uptoBulkEntries r
def uptoBulkEntry {H : Type} : Lit × DataW H → Nat
  | (.string bytes, d) => bytes.length + uptoBulk d + 1
  | (_, d) => uptoBulk d + 1
 end
def uptoSmall : (H : Type) → List (DataW H) → Bool := fun _ ds => decide (uptoBulkAll ds ≤ 1048576)
def OpenSpec.upto (s : _root_.Go.ChangeSpec) : _root_.Go.OpenSpec := { _root_.Go.OpenSpec.ofChange s with cond := some uptoSmall }

/-- 'laws.FnExactReplayEvents', WHERE WHAT IT READS IS OF BULK AT MOST 1048576: true; the input reads as it did. -/
def fnExactReplayEventsUptoRow : OpenClaim := { program := "ytonniokonadkfaa", sum := "2989c13e632631b80f0952805a9c3e9266319a529a8c6148d5d78d13409a7880", func := "loop.example/g00976/laws.FnExactReplayEvents", spec := "fnExactReplayEvents", unfollowed := true, recurses := true, apart := false, narrowed := true }
def FnExactReplayEventsUptoSaid : Prop := fnExactReplayEventsUptoRow.holds Try.pinned (OpenSpec.upto fnExactReplayEventsSpec)

/-- 'laws.FnExactWatchListing', WHERE WHAT IT READS IS OF BULK AT MOST 1048576: true; the input reads as it did. -/
def fnExactWatchListingUptoRow : OpenClaim := { program := "ytonniokonadkfaa", sum := "2989c13e632631b80f0952805a9c3e9266319a529a8c6148d5d78d13409a7880", func := "loop.example/g00976/laws.FnExactWatchListing", spec := "fnExactWatchListing", unfollowed := true, recurses := true, apart := false, narrowed := true }
def FnExactWatchListingUptoSaid : Prop := fnExactWatchListingUptoRow.holds Try.pinned (OpenSpec.upto fnExactWatchListingSpec)

/-- 'laws.FnExactListingAsOf', WHERE WHAT IT READS IS OF BULK AT MOST 1048576: true; the input reads as it did. -/
def fnExactListingAsOfUptoRow : OpenClaim := { program := "ytonniokonadkfaa", sum := "2989c13e632631b80f0952805a9c3e9266319a529a8c6148d5d78d13409a7880", func := "loop.example/g00976/laws.FnExactListingAsOf", spec := "fnExactListingAsOf", unfollowed := true, recurses := true, apart := false, narrowed := true }
def FnExactListingAsOfUptoSaid : Prop := fnExactListingAsOfUptoRow.holds Try.pinned (OpenSpec.upto fnExactListingAsOfSpec)

/-- 'laws.FnExactIsValidWatch', WHERE WHAT IT READS IS OF BULK AT MOST 1048576: true; the input reads as it did. -/
def fnExactIsValidWatchUptoRow : OpenClaim := { program := "ytonniokonadkfaa", sum := "2989c13e632631b80f0952805a9c3e9266319a529a8c6148d5d78d13409a7880", func := "loop.example/g00976/laws.FnExactIsValidWatch", spec := "fnExactIsValidWatch", unfollowed := true, recurses := true, apart := false, narrowed := true }
def FnExactIsValidWatchUptoSaid : Prop := fnExactIsValidWatchUptoRow.holds Try.pinned (OpenSpec.upto fnExactIsValidWatchSpec)

end Rows
end Go.Proofs.Ytonniokonadkfaa
