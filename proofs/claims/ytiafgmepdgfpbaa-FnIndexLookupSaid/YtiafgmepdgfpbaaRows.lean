/-
  No cell of these rows narrows 'for every input' (looked for: loops, veiled, ifaces, maps, wideKeys, modest, calm, conditions, laid).
  DERIVED. THE GIVEN ROWS OF THIS SEAT. 2 by the template 'for every input the law returns true; each argument reads behind the call as it read before'; 0 by the template 'total and deterministic' (their statements: YtiafgmepdgfpbaaTotals.lean).
  GIVEN WITH THE SEED: the statements are not yours to turn. If you find one false, say at which input.
  Laid BY PROGRAM, IN A SANDBOX (cutbox-rows.mjs): the forced cells as the released guide's own fill.sh prints them over the translation fcea91c4161f58d3… (all of the seat's roots in one cut). By AI agents, Wed Nov 11 2026. No macro, syntax, notation, axiom, sorry.
-/
import Derived.Test.YtiafgmepdgfpbaaChecked
import GoSem.Claim
import GoSem.ClaimJoined
import GoSem.ClaimMapViews
import Derived.JoinedTies
import Derived.KernelRfl
namespace Go.Proofs.Ytiafgmepdgfpbaa
/- THE CELL 'sum', in the pinned program and in every row, IS THE sha256 OF THE DUMP (.gsa) THAT YtiafgmepdgfpbaaProg.lean LOADS. Nothing in Lean hashes anything: it is a label: what it is worth is what the hold of that sum in a sandbox is worth. -/
noncomputable def Try.pinned : Pinned := { name := "ytiafgmepdgfpbaa", sum := "fcea91c4161f58d30727dea1de87e9394175f427989ef275f22c1d2cea207de2", checked := Try.checked }
namespace Rows
def none {H : Type} : Left H := { results := [], args := [] }

/-- 'laws.FnIndexLookup': WHATEVER THE INPUT: true; the input reads as it did. -/
def fnIndexLookupSpec : ChangeSpec := { name := "fnIndexLookup", fn := fun _ => fun
  | [d] => { results := [.lit (.bool true)], args := [d] }
  | _ => none }
def fnIndexLookupRow : OpenClaim := { program := "ytiafgmepdgfpbaa", sum := "fcea91c4161f58d30727dea1de87e9394175f427989ef275f22c1d2cea207de2", func := "loop.example/g00976/laws.FnIndexLookup", spec := "fnIndexLookup", inPlace := ["slices.overlaps[loop.example/g00976/impl.Posting]", "slices.overlaps[int]"], unfollowed := true, recurses := true, apart := false }
def FnIndexLookupSaid : Prop := fnIndexLookupRow.holds Try.pinned (OpenSpec.ofChange fnIndexLookupSpec)

/-- ITS FALSE NEIGHBOUR: 'it returns false'. Refute it at one input. -/
def fnIndexLookupWrong : ChangeSpec := { name := "fnIndexLookup", fn := fun _ => fun
  | [d] => { results := [.lit (.bool false)], args := [d] }
  | _ => none }
def FnIndexLookupWrongFalsely : Prop := fnIndexLookupRow.holds Try.pinned (OpenSpec.ofChange fnIndexLookupWrong)

/-- 'laws.FnExactCheckIndex': WHATEVER THE INPUT: true; the input reads as it did. -/
def fnExactCheckIndexSpec : ChangeSpec := { name := "fnExactCheckIndex", fn := fun _ => fun
  | [d1, d2] => { results := [.lit (.bool true)], args := [d1, d2] }
  | _ => none }
def fnExactCheckIndexRow : OpenClaim := { program := "ytiafgmepdgfpbaa", sum := "fcea91c4161f58d30727dea1de87e9394175f427989ef275f22c1d2cea207de2", func := "loop.example/g00976/laws.FnExactCheckIndex", spec := "fnExactCheckIndex", inPlace := ["slices.overlaps[loop.example/g00976/impl.Posting]", "slices.overlaps[int]"], unfollowed := true, recurses := true, apart := false }
def FnExactCheckIndexSaid : Prop := fnExactCheckIndexRow.holds Try.pinned (OpenSpec.ofChange fnExactCheckIndexSpec)

/-- ITS FALSE NEIGHBOUR: 'it returns false'. Refute it at one input. -/
def fnExactCheckIndexWrong : ChangeSpec := { name := "fnExactCheckIndex", fn := fun _ => fun
  | [d1, d2] => { results := [.lit (.bool false)], args := [d1, d2] }
  | _ => none }
def FnExactCheckIndexWrongFalsely : Prop := fnExactCheckIndexRow.holds Try.pinned (OpenSpec.ofChange fnExactCheckIndexWrong)

/- THE SECOND FORM. 'bulk': how many values and letters a reading holds, each counted each time it is reached (what is shared counts as often as it is met; a slice's spare places count too). A statement '..UptoSaid' is the law's where the arguments, and the package variables that the reading takes, are together of bulk at most 1048576: NARROWER than '..Said'. Prove '..Said' where nothing that the law and all that it calls make is longer than what came in: it says more and counts as full. Else prove '..UptoSaid'. A law counts once. -/
mutual
def uptoBulk {H : Type} : DataW H → Nat
  | .lit (.string bytes) => bytes.length + 1
  | .lit _ => 1
  | .nil => 1
  | .ptr d => uptoBulk d + 1
  | .slice elems spare => uptoBulkAll elems + uptoBulkAll spare + 1
  | .agg parts => uptoBulkAll parts + 1
  | .iface _ d => uptoBulk d + 1
  | .map entries => uptoBulkEntries entries + 1
  | .held _ => 1
def uptoBulkAll {H : Type} : List (DataW H) → Nat
  | [] => 0
  | d :: r => uptoBulk d + uptoBulkAll r
def uptoBulkEntries {H : Type} : List (Lit × DataW H) → Nat
  | [] => 0
  | x :: r => uptoBulkEntry x + uptoBulkEntries r
def uptoBulkEntry {H : Type} : Lit × DataW H → Nat
  | (.string bytes, d) => bytes.length + uptoBulk d + 1
  | (_, d) => uptoBulk d + 1
 end
def uptoSmall : (H : Type) → List (DataW H) → Bool := fun _ ds => decide (uptoBulkAll ds ≤ 1048576)
def OpenSpec.upto (s : _root_.Go.ChangeSpec) : _root_.Go.OpenSpec := { _root_.Go.OpenSpec.ofChange s with cond := some uptoSmall }

/-- 'laws.FnIndexLookup', WHERE WHAT IT READS IS OF BULK AT MOST 1048576: true; the input reads as it did. -/
def fnIndexLookupUptoRow : OpenClaim := { program := "ytiafgmepdgfpbaa", sum := "fcea91c4161f58d30727dea1de87e9394175f427989ef275f22c1d2cea207de2", func := "loop.example/g00976/laws.FnIndexLookup", spec := "fnIndexLookup", inPlace := ["slices.overlaps[loop.example/g00976/impl.Posting]", "slices.overlaps[int]"], unfollowed := true, recurses := true, apart := false, narrowed := true }
def FnIndexLookupUptoSaid : Prop := fnIndexLookupUptoRow.holds Try.pinned (OpenSpec.upto fnIndexLookupSpec)

/-- 'laws.FnExactCheckIndex', WHERE WHAT IT READS IS OF BULK AT MOST 1048576: true; the input reads as it did. -/
def fnExactCheckIndexUptoRow : OpenClaim := { program := "ytiafgmepdgfpbaa", sum := "fcea91c4161f58d30727dea1de87e9394175f427989ef275f22c1d2cea207de2", func := "loop.example/g00976/laws.FnExactCheckIndex", spec := "fnExactCheckIndex", inPlace := ["slices.overlaps[loop.example/g00976/impl.Posting]", "slices.overlaps[int]"], unfollowed := true, recurses := true, apart := false, narrowed := true }
def FnExactCheckIndexUptoSaid : Prop := fnExactCheckIndexUptoRow.holds Try.pinned (OpenSpec.upto fnExactCheckIndexSpec)

end Rows
end Go.Proofs.Ytiafgmepdgfpbaa
