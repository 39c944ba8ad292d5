/-
  No cell of these rows narrows 'for every input' (looked for: loops, veiled, ifaces, maps, wideKeys, modest, calm, conditions, laid).
  DERIVED. THE GIVEN ROWS OF THIS SEAT. 5 by the template 'for every input the law returns true; each argument reads behind the call as it read before'; 0 by the template 'total and deterministic' (their statements: YtcnkkobgogmakaaGreatTotals.lean).
  GIVEN WITH THE SEED: the statements are not yours to turn. If you find one false, say at which input.
  Laid BY PROGRAM, IN A SANDBOX (cutbox-rows.mjs): the forced cells as the released guide's own fill.sh prints them over the translation 6a7654c973e1f253… (all of the seat's roots in one cut). By AI agents, Wed Nov 11 2026. No macro, syntax, notation, axiom, sorry.
-/
import Derived.Test.YtcnkkobgogmakaaGreatChecked
import GoSem.Claim
import GoSem.ClaimJoined
import GoSem.ClaimMapViews
import Derived.JoinedTies
import Derived.KernelRfl
namespace Go.Proofs.YtcnkkobgogmakaaGreat
/- THE CELL 'sum', in the pinned program and in every row, IS THE sha256 OF THE DUMP (.gsa) THAT YtcnkkobgogmakaaGreatProg.lean LOADS. Nothing in Lean hashes anything: it is a label: what it is worth is what the hold of that sum in a sandbox is worth. -/
noncomputable def Tryz.pinned : Pinned := { name := "ytcnkkobgogmakaagreat", sum := "6a7654c973e1f2534e9fc6d214f19ba5565c14f0076fa8abefdc18e2b8a909a5", checked := Tryz.checked }
namespace Rows
def none {H : Type} : Left H := { results := [], args := [] }

/-- 'laws.FnRecursion': WHATEVER THE INPUT: true; the input reads as it did. -/
def fnRecursionSpec : ChangeSpec := { name := "fnRecursion", fn := fun _ => fun
  | [d] => { results := [.lit (.bool true)], args := [d] }
  | _ => none }
def fnRecursionRow : OpenClaim := { program := "ytcnkkobgogmakaagreat", sum := "6a7654c973e1f2534e9fc6d214f19ba5565c14f0076fa8abefdc18e2b8a909a5", func := "loop.example/g00976/laws.FnRecursion", spec := "fnRecursion", unfollowed := true, recurses := true, apart := false }
def FnRecursionSaid : Prop := fnRecursionRow.holds Tryz.pinned (OpenSpec.ofChange fnRecursionSpec)

/-- ITS FALSE NEIGHBOUR: 'it returns false'. Refute it at one input. -/
def fnRecursionWrong : ChangeSpec := { name := "fnRecursion", fn := fun _ => fun
  | [d] => { results := [.lit (.bool false)], args := [d] }
  | _ => none }
def FnRecursionWrongFalsely : Prop := fnRecursionRow.holds Tryz.pinned (OpenSpec.ofChange fnRecursionWrong)

/-- 'laws.FnWatchParts': WHATEVER THE INPUT: true; the input reads as it did. -/
def fnWatchPartsSpec : ChangeSpec := { name := "fnWatchParts", fn := fun _ => fun
  | [d] => { results := [.lit (.bool true)], args := [d] }
  | _ => none }
def fnWatchPartsRow : OpenClaim := { program := "ytcnkkobgogmakaagreat", sum := "6a7654c973e1f2534e9fc6d214f19ba5565c14f0076fa8abefdc18e2b8a909a5", func := "loop.example/g00976/laws.FnWatchParts", spec := "fnWatchParts", unfollowed := true, recurses := true, apart := false }
def FnWatchPartsSaid : Prop := fnWatchPartsRow.holds Tryz.pinned (OpenSpec.ofChange fnWatchPartsSpec)

/-- ITS FALSE NEIGHBOUR: 'it returns false'. Refute it at one input. -/
def fnWatchPartsWrong : ChangeSpec := { name := "fnWatchParts", fn := fun _ => fun
  | [d] => { results := [.lit (.bool false)], args := [d] }
  | _ => none }
def FnWatchPartsWrongFalsely : Prop := fnWatchPartsRow.holds Tryz.pinned (OpenSpec.ofChange fnWatchPartsWrong)

/-- 'laws.FnNoEmptyEvents': WHATEVER THE INPUT: true; the input reads as it did. -/
def fnNoEmptyEventsSpec : ChangeSpec := { name := "fnNoEmptyEvents", fn := fun _ => fun
  | [d] => { results := [.lit (.bool true)], args := [d] }
  | _ => none }
def fnNoEmptyEventsRow : OpenClaim := { program := "ytcnkkobgogmakaagreat", sum := "6a7654c973e1f2534e9fc6d214f19ba5565c14f0076fa8abefdc18e2b8a909a5", func := "loop.example/g00976/laws.FnNoEmptyEvents", spec := "fnNoEmptyEvents", unfollowed := true, recurses := true, apart := false }
def FnNoEmptyEventsSaid : Prop := fnNoEmptyEventsRow.holds Tryz.pinned (OpenSpec.ofChange fnNoEmptyEventsSpec)

/-- ITS FALSE NEIGHBOUR: 'it returns false'. Refute it at one input. -/
def fnNoEmptyEventsWrong : ChangeSpec := { name := "fnNoEmptyEvents", fn := fun _ => fun
  | [d] => { results := [.lit (.bool false)], args := [d] }
  | _ => none }
def FnNoEmptyEventsWrongFalsely : Prop := fnNoEmptyEventsRow.holds Tryz.pinned (OpenSpec.ofChange fnNoEmptyEventsWrong)

/-- 'laws.FnAddExample': WHATEVER THE INPUT: true; the input reads as it did. -/
def fnAddExampleSpec : ChangeSpec := { name := "fnAddExample", fn := fun _ => fun
  | [d] => { results := [.lit (.bool true)], args := [d] }
  | _ => none }
def fnAddExampleRow : OpenClaim := { program := "ytcnkkobgogmakaagreat", sum := "6a7654c973e1f2534e9fc6d214f19ba5565c14f0076fa8abefdc18e2b8a909a5", func := "loop.example/g00976/laws.FnAddExample", spec := "fnAddExample", inPlace := ["slices.overlaps[loop.example/g00976/impl.Attr]"], unfollowed := true, recurses := true, apart := false }
def FnAddExampleSaid : Prop := fnAddExampleRow.holds Tryz.pinned (OpenSpec.ofChange fnAddExampleSpec)

/-- ITS FALSE NEIGHBOUR: 'it returns false'. Refute it at one input. -/
def fnAddExampleWrong : ChangeSpec := { name := "fnAddExample", fn := fun _ => fun
  | [d] => { results := [.lit (.bool false)], args := [d] }
  | _ => none }
def FnAddExampleWrongFalsely : Prop := fnAddExampleRow.holds Tryz.pinned (OpenSpec.ofChange fnAddExampleWrong)

/-- 'laws.FnDiffApply': WHATEVER THE INPUT: true; the input reads as it did. -/
def fnDiffApplySpec : ChangeSpec := { name := "fnDiffApply", fn := fun _ => fun
  | [d] => { results := [.lit (.bool true)], args := [d] }
  | _ => none }
def fnDiffApplyRow : OpenClaim := { program := "ytcnkkobgogmakaagreat", sum := "6a7654c973e1f2534e9fc6d214f19ba5565c14f0076fa8abefdc18e2b8a909a5", func := "loop.example/g00976/laws.FnDiffApply", spec := "fnDiffApply", inPlace := ["slices.overlaps[loop.example/g00976/impl.Diff]"], unfollowed := true, recurses := true, apart := false }
def FnDiffApplySaid : Prop := fnDiffApplyRow.holds Tryz.pinned (OpenSpec.ofChange fnDiffApplySpec)

/-- ITS FALSE NEIGHBOUR: 'it returns false'. Refute it at one input. -/
def fnDiffApplyWrong : ChangeSpec := { name := "fnDiffApply", fn := fun _ => fun
  | [d] => { results := [.lit (.bool false)], args := [d] }
  | _ => none }
def FnDiffApplyWrongFalsely : Prop := fnDiffApplyRow.holds Tryz.pinned (OpenSpec.ofChange fnDiffApplyWrong)

/- THE SECOND FORM. 'bulk': how many values and letters a reading holds, each counted each time it is reached (what is shared counts as often as it is met; a slice's spare places count too). A statement '..UptoSaid' is the law's where the arguments, and the package variables that the reading takes, are together of bulk at most 1048576: NARROWER than '..Said'. Prove '..Said' where nothing that the law and all that it calls make is longer than what came in: it says more and counts as full. Else prove '..UptoSaid'. A law counts once. -/
mutual
def uptoBulk {H : Type} : DataW H → Nat
  | .lit (.string bytes) => bytes.length + 1
  | .lit _ => 1
  | .nil => 1
  | .ptr d => uptoBulk d + 1
  | .slice elems spare => uptoBulkAll elems + uptoBulkAll spare + 1
  | .agg parts => uptoBulkAll parts + 1
  | .iface _ d => uptoBulk d + 1
  | .map entries => uptoBulkEntries entries + 1
  | .held _ => 1
def uptoBulkAll {H : Type} : List (DataW H) → Nat
  | [] => 0
  | d :: r => uptoBulk d + uptoBulkAll r
def uptoBulkEntries {H : Type} : List (Lit × DataW H) → Nat
  | [] => 0
  | x :: r => uptoBulkEntry x + uptoBulkEntries r
def uptoBulkEntry {H : Type} : Lit × DataW H → Nat
  | (.string bytes, d) => bytes.length + uptoBulk d + 1
  | (_, d) => uptoBulk d + 1
 end
def uptoSmall : (H : Type) → List (DataW H) → Bool := fun _ ds => decide (uptoBulkAll ds ≤ 1048576)
def OpenSpec.upto (s : _root_.Go.ChangeSpec) : _root_.Go.OpenSpec := { _root_.Go.OpenSpec.ofChange s with cond := some uptoSmall }

/-- 'laws.FnRecursion', WHERE WHAT IT READS IS OF BULK AT MOST 1048576: true; the input reads as it did. -/
def fnRecursionUptoRow : OpenClaim := { program := "ytcnkkobgogmakaagreat", sum := "6a7654c973e1f2534e9fc6d214f19ba5565c14f0076fa8abefdc18e2b8a909a5", func := "loop.example/g00976/laws.FnRecursion", spec := "fnRecursion", unfollowed := true, recurses := true, apart := false, narrowed := true }
def FnRecursionUptoSaid : Prop := fnRecursionUptoRow.holds Tryz.pinned (OpenSpec.upto fnRecursionSpec)

/-- 'laws.FnWatchParts', WHERE WHAT IT READS IS OF BULK AT MOST 1048576: true; the input reads as it did. -/
def fnWatchPartsUptoRow : OpenClaim := { program := "ytcnkkobgogmakaagreat", sum := "6a7654c973e1f2534e9fc6d214f19ba5565c14f0076fa8abefdc18e2b8a909a5", func := "loop.example/g00976/laws.FnWatchParts", spec := "fnWatchParts", unfollowed := true, recurses := true, apart := false, narrowed := true }
def FnWatchPartsUptoSaid : Prop := fnWatchPartsUptoRow.holds Tryz.pinned (OpenSpec.upto fnWatchPartsSpec)

/-- 'laws.FnNoEmptyEvents', WHERE WHAT IT READS IS OF BULK AT MOST 1048576: true; the input reads as it did. -/
def fnNoEmptyEventsUptoRow : OpenClaim := { program := "ytcnkkobgogmakaagreat", sum := "6a7654c973e1f2534e9fc6d214f19ba5565c14f0076fa8abefdc18e2b8a909a5", func := "loop.example/g00976/laws.FnNoEmptyEvents", spec := "fnNoEmptyEvents", unfollowed := true, recurses := true, apart := false, narrowed := true }
def FnNoEmptyEventsUptoSaid : Prop := fnNoEmptyEventsUptoRow.holds Tryz.pinned (OpenSpec.upto fnNoEmptyEventsSpec)

/-- 'laws.FnAddExample', WHERE WHAT IT READS IS OF BULK AT MOST 1048576: true; the input reads as it did. -/
def fnAddExampleUptoRow : OpenClaim := { program := "ytcnkkobgogmakaagreat", sum := "6a7654c973e1f2534e9fc6d214f19ba5565c14f0076fa8abefdc18e2b8a909a5", func := "loop.example/g00976/laws.FnAddExample", spec := "fnAddExample", inPlace := ["slices.overlaps[loop.example/g00976/impl.Attr]"], unfollowed := true, recurses := true, apart := false, narrowed := true }
def FnAddExampleUptoSaid : Prop := fnAddExampleUptoRow.holds Tryz.pinned (OpenSpec.upto fnAddExampleSpec)

/-- 'laws.FnDiffApply', WHERE WHAT IT READS IS OF BULK AT MOST 1048576: true; the input reads as it did. -/
def fnDiffApplyUptoRow : OpenClaim := { program := "ytcnkkobgogmakaagreat", sum := "6a7654c973e1f2534e9fc6d214f19ba5565c14f0076fa8abefdc18e2b8a909a5", func := "loop.example/g00976/laws.FnDiffApply", spec := "fnDiffApply", inPlace := ["slices.overlaps[loop.example/g00976/impl.Diff]"], unfollowed := true, recurses := true, apart := false, narrowed := true }
def FnDiffApplyUptoSaid : Prop := fnDiffApplyUptoRow.holds Tryz.pinned (OpenSpec.upto fnDiffApplySpec)

end Rows
end Go.Proofs.YtcnkkobgogmakaaGreat
