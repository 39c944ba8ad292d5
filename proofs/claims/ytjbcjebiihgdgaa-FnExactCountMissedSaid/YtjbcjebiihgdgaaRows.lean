/-
  No cell of these rows narrows 'for every input' (looked for: loops, veiled, ifaces, maps, wideKeys, modest, calm, conditions, laid).
  DERIVED. THE GIVEN ROWS OF THIS SEAT. 6 by the template 'for every input the law returns true; each argument reads behind the call as it read before'; 0 by the template 'total and deterministic' (their statements: YtjbcjebiihgdgaaTotals.lean).
  GIVEN WITH THE SEED: the statements are not yours to turn. If you find one false, say at which input.
  Laid BY PROGRAM, IN A SANDBOX (cutbox-rows.mjs): the forced cells as the released guide's own fill.sh prints them over the translation 95b39ed2705c527f… (all of the seat's roots in one cut). By AI agents, Wed Nov 11 2026. No macro, syntax, notation, axiom, sorry.
-/
import Derived.Test.YtjbcjebiihgdgaaChecked
import GoSem.Claim
import GoSem.ClaimJoined
import GoSem.ClaimMapViews
import Derived.JoinedTies
import Derived.KernelRfl
namespace Go.Proofs.Ytjbcjebiihgdgaa
/- THE CELL 'sum', in the pinned program and in every row, IS THE sha256 OF THE DUMP (.gsa) THAT YtjbcjebiihgdgaaProg.lean LOADS. Nothing in Lean hashes anything: it is a label: what it is worth is what the hold of that sum in a sandbox is worth. -/
noncomputable def Try.pinned : Pinned := { name := "ytjbcjebiihgdgaa", sum := "95b39ed2705c527f830d6c25f588d384f8421e2d2efdd493a5c9c082e3ee5211", checked := Try.checked }
namespace Rows
def none {H : Type} : Left H := { results := [], args := [] }

/-- 'laws.FnExactDefaultSchema': WHATEVER THE INPUT: true; the input reads as it did. -/
def fnExactDefaultSchemaSpec : ChangeSpec := { name := "fnExactDefaultSchema", fn := fun _ => fun
  | [] => { results := [.lit (.bool true)], args := [] }
  | _ => none }
def fnExactDefaultSchemaRow : OpenClaim := { program := "ytjbcjebiihgdgaa", sum := "95b39ed2705c527f830d6c25f588d384f8421e2d2efdd493a5c9c082e3ee5211", func := "loop.example/g00976/laws.FnExactDefaultSchema", spec := "fnExactDefaultSchema", apart := false }
def FnExactDefaultSchemaSaid : Prop := fnExactDefaultSchemaRow.holds Try.pinned (OpenSpec.ofChange fnExactDefaultSchemaSpec)

/-- ITS FALSE NEIGHBOUR: 'it returns false'. Refute it at one input. -/
def fnExactDefaultSchemaWrong : ChangeSpec := { name := "fnExactDefaultSchema", fn := fun _ => fun
  | [] => { results := [.lit (.bool false)], args := [] }
  | _ => none }
def FnExactDefaultSchemaWrongFalsely : Prop := fnExactDefaultSchemaRow.holds Try.pinned (OpenSpec.ofChange fnExactDefaultSchemaWrong)

/-- 'laws.FnStoreLimits': WHATEVER THE INPUT: true; the input reads as it did. -/
def fnStoreLimitsSpec : ChangeSpec := { name := "fnStoreLimits", fn := fun _ => fun
  | [d] => { results := [.lit (.bool true)], args := [d] }
  | _ => none }
def fnStoreLimitsRow : OpenClaim := { program := "ytjbcjebiihgdgaa", sum := "95b39ed2705c527f830d6c25f588d384f8421e2d2efdd493a5c9c082e3ee5211", func := "loop.example/g00976/laws.FnStoreLimits", spec := "fnStoreLimits", apart := false }
def FnStoreLimitsSaid : Prop := fnStoreLimitsRow.holds Try.pinned (OpenSpec.ofChange fnStoreLimitsSpec)

/-- ITS FALSE NEIGHBOUR: 'it returns false'. Refute it at one input. -/
def fnStoreLimitsWrong : ChangeSpec := { name := "fnStoreLimits", fn := fun _ => fun
  | [d] => { results := [.lit (.bool false)], args := [d] }
  | _ => none }
def FnStoreLimitsWrongFalsely : Prop := fnStoreLimitsRow.holds Try.pinned (OpenSpec.ofChange fnStoreLimitsWrong)

/-- 'laws.FnExactCountMissed': WHATEVER THE INPUT: true; the input reads as it did. -/
def fnExactCountMissedSpec : ChangeSpec := { name := "fnExactCountMissed", fn := fun _ => fun
  | [d1, d2] => { results := [.lit (.bool true)], args := [d1, d2] }
  | _ => none }
def fnExactCountMissedRow : OpenClaim := { program := "ytjbcjebiihgdgaa", sum := "95b39ed2705c527f830d6c25f588d384f8421e2d2efdd493a5c9c082e3ee5211", func := "loop.example/g00976/laws.FnExactCountMissed", spec := "fnExactCountMissed", apart := false }
def FnExactCountMissedSaid : Prop := fnExactCountMissedRow.holds Try.pinned (OpenSpec.ofChange fnExactCountMissedSpec)

/-- ITS FALSE NEIGHBOUR: 'it returns false'. Refute it at one input. -/
def fnExactCountMissedWrong : ChangeSpec := { name := "fnExactCountMissed", fn := fun _ => fun
  | [d1, d2] => { results := [.lit (.bool false)], args := [d1, d2] }
  | _ => none }
def FnExactCountMissedWrongFalsely : Prop := fnExactCountMissedRow.holds Try.pinned (OpenSpec.ofChange fnExactCountMissedWrong)

/-- 'laws.FnExactEventsSince': WHATEVER THE INPUT: true; the input reads as it did. -/
def fnExactEventsSinceSpec : ChangeSpec := { name := "fnExactEventsSince", fn := fun _ => fun
  | [d1, d2] => { results := [.lit (.bool true)], args := [d1, d2] }
  | _ => none }
def fnExactEventsSinceRow : OpenClaim := { program := "ytjbcjebiihgdgaa", sum := "95b39ed2705c527f830d6c25f588d384f8421e2d2efdd493a5c9c082e3ee5211", func := "loop.example/g00976/laws.FnExactEventsSince", spec := "fnExactEventsSince", apart := false }
def FnExactEventsSinceSaid : Prop := fnExactEventsSinceRow.holds Try.pinned (OpenSpec.ofChange fnExactEventsSinceSpec)

/-- ITS FALSE NEIGHBOUR: 'it returns false'. Refute it at one input. -/
def fnExactEventsSinceWrong : ChangeSpec := { name := "fnExactEventsSince", fn := fun _ => fun
  | [d1, d2] => { results := [.lit (.bool false)], args := [d1, d2] }
  | _ => none }
def FnExactEventsSinceWrongFalsely : Prop := fnExactEventsSinceRow.holds Try.pinned (OpenSpec.ofChange fnExactEventsSinceWrong)

/-- 'laws.FnExactIsValidAction': WHATEVER THE INPUT: true; the input reads as it did. -/
def fnExactIsValidActionSpec : ChangeSpec := { name := "fnExactIsValidAction", fn := fun _ => fun
  | [d] => { results := [.lit (.bool true)], args := [d] }
  | _ => none }
def fnExactIsValidActionRow : OpenClaim := { program := "ytjbcjebiihgdgaa", sum := "95b39ed2705c527f830d6c25f588d384f8421e2d2efdd493a5c9c082e3ee5211", func := "loop.example/g00976/laws.FnExactIsValidAction", spec := "fnExactIsValidAction", apart := false }
def FnExactIsValidActionSaid : Prop := fnExactIsValidActionRow.holds Try.pinned (OpenSpec.ofChange fnExactIsValidActionSpec)

/-- ITS FALSE NEIGHBOUR: 'it returns false'. Refute it at one input. -/
def fnExactIsValidActionWrong : ChangeSpec := { name := "fnExactIsValidAction", fn := fun _ => fun
  | [d] => { results := [.lit (.bool false)], args := [d] }
  | _ => none }
def FnExactIsValidActionWrongFalsely : Prop := fnExactIsValidActionRow.holds Try.pinned (OpenSpec.ofChange fnExactIsValidActionWrong)

/-- 'laws.FnExactHiddenFiles': WHATEVER THE INPUT: true; the input reads as it did. -/
def fnExactHiddenFilesSpec : ChangeSpec := { name := "fnExactHiddenFiles", fn := fun _ => fun
  | [d1, d2] => { results := [.lit (.bool true)], args := [d1, d2] }
  | _ => none }
def fnExactHiddenFilesRow : OpenClaim := { program := "ytjbcjebiihgdgaa", sum := "95b39ed2705c527f830d6c25f588d384f8421e2d2efdd493a5c9c082e3ee5211", func := "loop.example/g00976/laws.FnExactHiddenFiles", spec := "fnExactHiddenFiles", apart := false }
def FnExactHiddenFilesSaid : Prop := fnExactHiddenFilesRow.holds Try.pinned (OpenSpec.ofChange fnExactHiddenFilesSpec)

/-- ITS FALSE NEIGHBOUR: 'it returns false'. Refute it at one input. -/
def fnExactHiddenFilesWrong : ChangeSpec := { name := "fnExactHiddenFiles", fn := fun _ => fun
  | [d1, d2] => { results := [.lit (.bool false)], args := [d1, d2] }
  | _ => none }
def FnExactHiddenFilesWrongFalsely : Prop := fnExactHiddenFilesRow.holds Try.pinned (OpenSpec.ofChange fnExactHiddenFilesWrong)

/- THE SECOND FORM. 'bulk': how many values and letters a reading holds, each counted each time it is reached (what is shared counts as often as it is met; a slice's spare places count too). A statement '..UptoSaid' is the law's where the arguments, and the package variables that the reading takes, are together of bulk at most 1048576: NARROWER than '..Said'. Prove '..Said' where nothing that the law and all that it calls make is longer than what came in: it says more and counts as full. Else prove '..UptoSaid'. A law counts once. -/
mutual
def uptoBulk {H : Type} : DataW H → Nat
  | .lit (.string bytes) => bytes.length + 1
  | .lit _ => 1
  | .nil => 1
  | .ptr d => uptoBulk d + 1
  | .slice elems spare => uptoBulkAll elems + uptoBulkAll spare + 1
  | .agg parts => uptoBulkAll parts + 1
  | .iface _ d => uptoBulk d + 1
  | .map entries => uptoBulkEntries entries + 1
  | .held _ => 1
def uptoBulkAll {H : Type} : List (DataW H) → Nat
  | [] => 0
  | d :: r => uptoBulk d + uptoBulkAll r
def uptoBulkEntries {H : Type} : List (Lit × DataW H) → Nat
  | [] => 0
  | x :: r => uptoBulkEntry x + uptoBulkEntries r
def uptoBulkEntry {H : Type} : Lit × DataW H → Nat
  | (.string bytes, d) => bytes.length + uptoBulk d + 1
  | (_, d) => uptoBulk d + 1
 end
def uptoSmall : (H : Type) → List (DataW H) → Bool := fun _ ds => decide (uptoBulkAll ds ≤ 1048576)
def OpenSpec.upto (s : _root_.Go.ChangeSpec) : _root_.Go.OpenSpec := { _root_.Go.OpenSpec.ofChange s with cond := some uptoSmall }

/-- 'laws.FnExactDefaultSchema', WHERE WHAT IT READS IS OF BULK AT MOST 1048576: true; the input reads as it did. -/
def fnExactDefaultSchemaUptoRow : OpenClaim := { program := "ytjbcjebiihgdgaa", sum := "95b39ed2705c527f830d6c25f588d384f8421e2d2efdd493a5c9c082e3ee5211", func := "loop.example/g00976/laws.FnExactDefaultSchema", spec := "fnExactDefaultSchema", apart := false, narrowed := true }
def FnExactDefaultSchemaUptoSaid : Prop := fnExactDefaultSchemaUptoRow.holds Try.pinned (OpenSpec.upto fnExactDefaultSchemaSpec)

/-- 'laws.FnStoreLimits', WHERE WHAT IT READS IS OF BULK AT MOST 1048576: true; the input reads as it did. -/
def fnStoreLimitsUptoRow : OpenClaim := { program := "ytjbcjebiihgdgaa", sum := "95b39ed2705c527f830d6c25f588d384f8421e2d2efdd493a5c9c082e3ee5211", func := "loop.example/g00976/laws.FnStoreLimits", spec := "fnStoreLimits", apart := false, narrowed := true }
def FnStoreLimitsUptoSaid : Prop := fnStoreLimitsUptoRow.holds Try.pinned (OpenSpec.upto fnStoreLimitsSpec)

/-- 'laws.FnExactCountMissed', WHERE WHAT IT READS IS OF BULK AT MOST 1048576: true; the input reads as it did. -/
def fnExactCountMissedUptoRow : OpenClaim := { program := "ytjbcjebiihgdgaa", sum := "95b39ed2705c527f830d6c25f588d384f8421e2d2efdd493a5c9c082e3ee5211", func := "loop.example/g00976/laws.FnExactCountMissed", spec := "fnExactCountMissed", apart := false, narrowed := true }
def FnExactCountMissedUptoSaid : Prop := fnExactCountMissedUptoRow.holds Try.pinned (OpenSpec.upto fnExactCountMissedSpec)

/-- 'laws.FnExactEventsSince', WHERE WHAT IT READS IS OF BULK AT MOST 1048576: true; the input reads as it did. -/
def fnExactEventsSinceUptoRow : OpenClaim := { program := "ytjbcjebiihgdgaa", sum := "95b39ed2705c527f830d6c25f588d384f8421e2d2efdd493a5c9c082e3ee5211", func := "loop.example/g00976/laws.FnExactEventsSince", spec := "fnExactEventsSince", apart := false, narrowed := true }
def FnExactEventsSinceUptoSaid : Prop := fnExactEventsSinceUptoRow.holds Try.pinned (OpenSpec.upto fnExactEventsSinceSpec)

/-- 'laws.FnExactIsValidAction', WHERE WHAT IT READS IS OF BULK AT MOST 1048576: true; the input reads as it did. -/
def fnExactIsValidActionUptoRow : OpenClaim := { program := "ytjbcjebiihgdgaa", sum := "95b39ed2705c527f830d6c25f588d384f8421e2d2efdd493a5c9c082e3ee5211", func := "loop.example/g00976/laws.FnExactIsValidAction", spec := "fnExactIsValidAction", apart := false, narrowed := true }
def FnExactIsValidActionUptoSaid : Prop := fnExactIsValidActionUptoRow.holds Try.pinned (OpenSpec.upto fnExactIsValidActionSpec)

/-- 'laws.FnExactHiddenFiles', WHERE WHAT IT READS IS OF BULK AT MOST 1048576: true; the input reads as it did. -/
def fnExactHiddenFilesUptoRow : OpenClaim := { program := "ytjbcjebiihgdgaa", sum := "95b39ed2705c527f830d6c25f588d384f8421e2d2efdd493a5c9c082e3ee5211", func := "loop.example/g00976/laws.FnExactHiddenFiles", spec := "fnExactHiddenFiles", apart := false, narrowed := true }
def FnExactHiddenFilesUptoSaid : Prop := fnExactHiddenFilesUptoRow.holds Try.pinned (OpenSpec.upto fnExactHiddenFilesSpec)

end Rows
end Go.Proofs.Ytjbcjebiihgdgaa
