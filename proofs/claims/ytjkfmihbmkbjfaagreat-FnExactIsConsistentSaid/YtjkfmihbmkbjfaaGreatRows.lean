/-
  No cell of these rows narrows 'for every input' (looked for: loops, veiled, ifaces, maps, wideKeys, modest, calm, conditions, laid).
  DERIVED. THE GIVEN ROWS OF THIS SEAT. 7 by the template 'for every input the law returns true; each argument reads behind the call as it read before'; 0 by the template 'total and deterministic' (their statements: YtjkfmihbmkbjfaaGreatTotals.lean).
  GIVEN WITH THE SEED: the statements are not yours to turn. If you find one false, say at which input.
  Laid BY PROGRAM, IN A SANDBOX (cutbox-rows.mjs): the forced cells as the released guide's own fill.sh prints them over the translation 90aed45a4846ff41… (all of the seat's roots in one cut). By AI agents, Wed Nov 11 2026. No macro, syntax, notation, axiom, sorry.
-/
import Derived.Test.YtjkfmihbmkbjfaaGreatChecked
import GoSem.Claim
import GoSem.ClaimJoined
import GoSem.ClaimMapViews
import Derived.JoinedTies
import Derived.KernelRfl
namespace Go.Proofs.YtjkfmihbmkbjfaaGreat
/- THE CELL 'sum', in the pinned program and in every row, IS THE sha256 OF THE DUMP (.gsa) THAT YtjkfmihbmkbjfaaGreatProg.lean LOADS. Nothing in Lean hashes anything: it is a label: what it is worth is what the hold of that sum in a sandbox is worth. -/
noncomputable def Tryz.pinned : Pinned := { name := "ytjkfmihbmkbjfaagreat", sum := "90aed45a4846ff418709d67f628c9ca86103963cee6747ba60645e2008e03bb3", checked := Tryz.checked }
namespace Rows
def none {H : Type} : Left H := { results := [], args := [] }

/-- 'laws.FnExactSystemSnapshot': WHATEVER THE INPUT: true; the input reads as it did. -/
def fnExactSystemSnapshotSpec : ChangeSpec := { name := "fnExactSystemSnapshot", fn := fun _ => fun
  | [d] => { results := [.lit (.bool true)], args := [d] }
  | _ => none }
def fnExactSystemSnapshotRow : OpenClaim := { program := "ytjkfmihbmkbjfaagreat", sum := "90aed45a4846ff418709d67f628c9ca86103963cee6747ba60645e2008e03bb3", func := "loop.example/g00976/laws.FnExactSystemSnapshot", spec := "fnExactSystemSnapshot", apart := false }
def FnExactSystemSnapshotSaid : Prop := fnExactSystemSnapshotRow.holds Tryz.pinned (OpenSpec.ofChange fnExactSystemSnapshotSpec)

/-- ITS FALSE NEIGHBOUR: 'it returns false'. Refute it at one input. -/
def fnExactSystemSnapshotWrong : ChangeSpec := { name := "fnExactSystemSnapshot", fn := fun _ => fun
  | [d] => { results := [.lit (.bool false)], args := [d] }
  | _ => none }
def FnExactSystemSnapshotWrongFalsely : Prop := fnExactSystemSnapshotRow.holds Tryz.pinned (OpenSpec.ofChange fnExactSystemSnapshotWrong)

/-- 'laws.FnExactAreValidVersions': WHATEVER THE INPUT: true; the input reads as it did. -/
def fnExactAreValidVersionsSpec : ChangeSpec := { name := "fnExactAreValidVersions", fn := fun _ => fun
  | [d] => { results := [.lit (.bool true)], args := [d] }
  | _ => none }
def fnExactAreValidVersionsRow : OpenClaim := { program := "ytjkfmihbmkbjfaagreat", sum := "90aed45a4846ff418709d67f628c9ca86103963cee6747ba60645e2008e03bb3", func := "loop.example/g00976/laws.FnExactAreValidVersions", spec := "fnExactAreValidVersions", unfollowed := true, recurses := true, apart := false }
def FnExactAreValidVersionsSaid : Prop := fnExactAreValidVersionsRow.holds Tryz.pinned (OpenSpec.ofChange fnExactAreValidVersionsSpec)

/-- ITS FALSE NEIGHBOUR: 'it returns false'. Refute it at one input. -/
def fnExactAreValidVersionsWrong : ChangeSpec := { name := "fnExactAreValidVersions", fn := fun _ => fun
  | [d] => { results := [.lit (.bool false)], args := [d] }
  | _ => none }
def FnExactAreValidVersionsWrongFalsely : Prop := fnExactAreValidVersionsRow.holds Tryz.pinned (OpenSpec.ofChange fnExactAreValidVersionsWrong)

/-- 'laws.FnExactIsConsistent': WHATEVER THE INPUT: true; the input reads as it did. -/
def fnExactIsConsistentSpec : ChangeSpec := { name := "fnExactIsConsistent", fn := fun _ => fun
  | [d] => { results := [.lit (.bool true)], args := [d] }
  | _ => none }
def fnExactIsConsistentRow : OpenClaim := { program := "ytjkfmihbmkbjfaagreat", sum := "90aed45a4846ff418709d67f628c9ca86103963cee6747ba60645e2008e03bb3", func := "loop.example/g00976/laws.FnExactIsConsistent", spec := "fnExactIsConsistent", unfollowed := true, recurses := true, apart := false }
def FnExactIsConsistentSaid : Prop := fnExactIsConsistentRow.holds Tryz.pinned (OpenSpec.ofChange fnExactIsConsistentSpec)

/-- ITS FALSE NEIGHBOUR: 'it returns false'. Refute it at one input. -/
def fnExactIsConsistentWrong : ChangeSpec := { name := "fnExactIsConsistent", fn := fun _ => fun
  | [d] => { results := [.lit (.bool false)], args := [d] }
  | _ => none }
def FnExactIsConsistentWrongFalsely : Prop := fnExactIsConsistentRow.holds Tryz.pinned (OpenSpec.ofChange fnExactIsConsistentWrong)

/-- 'laws.FnExactAppendVersion': WHATEVER THE INPUT: true; the input reads as it did. -/
def fnExactAppendVersionSpec : ChangeSpec := { name := "fnExactAppendVersion", fn := fun _ => fun
  | [d1, d2, d3] => { results := [.lit (.bool true)], args := [d1, d2, d3] }
  | _ => none }
def fnExactAppendVersionRow : OpenClaim := { program := "ytjkfmihbmkbjfaagreat", sum := "90aed45a4846ff418709d67f628c9ca86103963cee6747ba60645e2008e03bb3", func := "loop.example/g00976/laws.FnExactAppendVersion", spec := "fnExactAppendVersion", unfollowed := true, recurses := true, apart := false }
def FnExactAppendVersionSaid : Prop := fnExactAppendVersionRow.holds Tryz.pinned (OpenSpec.ofChange fnExactAppendVersionSpec)

/-- ITS FALSE NEIGHBOUR: 'it returns false'. Refute it at one input. -/
def fnExactAppendVersionWrong : ChangeSpec := { name := "fnExactAppendVersion", fn := fun _ => fun
  | [d1, d2, d3] => { results := [.lit (.bool false)], args := [d1, d2, d3] }
  | _ => none }
def FnExactAppendVersionWrongFalsely : Prop := fnExactAppendVersionRow.holds Tryz.pinned (OpenSpec.ofChange fnExactAppendVersionWrong)

/-- 'laws.FnExactPinVersion': WHATEVER THE INPUT: true; the input reads as it did. -/
def fnExactPinVersionSpec : ChangeSpec := { name := "fnExactPinVersion", fn := fun _ => fun
  | [d1, d2] => { results := [.lit (.bool true)], args := [d1, d2] }
  | _ => none }
def fnExactPinVersionRow : OpenClaim := { program := "ytjkfmihbmkbjfaagreat", sum := "90aed45a4846ff418709d67f628c9ca86103963cee6747ba60645e2008e03bb3", func := "loop.example/g00976/laws.FnExactPinVersion", spec := "fnExactPinVersion", unfollowed := true, recurses := true, apart := false }
def FnExactPinVersionSaid : Prop := fnExactPinVersionRow.holds Tryz.pinned (OpenSpec.ofChange fnExactPinVersionSpec)

/-- ITS FALSE NEIGHBOUR: 'it returns false'. Refute it at one input. -/
def fnExactPinVersionWrong : ChangeSpec := { name := "fnExactPinVersion", fn := fun _ => fun
  | [d1, d2] => { results := [.lit (.bool false)], args := [d1, d2] }
  | _ => none }
def FnExactPinVersionWrongFalsely : Prop := fnExactPinVersionRow.holds Tryz.pinned (OpenSpec.ofChange fnExactPinVersionWrong)

/-- 'laws.FnExactUnpinVersion': WHATEVER THE INPUT: true; the input reads as it did. -/
def fnExactUnpinVersionSpec : ChangeSpec := { name := "fnExactUnpinVersion", fn := fun _ => fun
  | [d1, d2] => { results := [.lit (.bool true)], args := [d1, d2] }
  | _ => none }
def fnExactUnpinVersionRow : OpenClaim := { program := "ytjkfmihbmkbjfaagreat", sum := "90aed45a4846ff418709d67f628c9ca86103963cee6747ba60645e2008e03bb3", func := "loop.example/g00976/laws.FnExactUnpinVersion", spec := "fnExactUnpinVersion", unfollowed := true, recurses := true, apart := false }
def FnExactUnpinVersionSaid : Prop := fnExactUnpinVersionRow.holds Tryz.pinned (OpenSpec.ofChange fnExactUnpinVersionSpec)

/-- ITS FALSE NEIGHBOUR: 'it returns false'. Refute it at one input. -/
def fnExactUnpinVersionWrong : ChangeSpec := { name := "fnExactUnpinVersion", fn := fun _ => fun
  | [d1, d2] => { results := [.lit (.bool false)], args := [d1, d2] }
  | _ => none }
def FnExactUnpinVersionWrongFalsely : Prop := fnExactUnpinVersionRow.holds Tryz.pinned (OpenSpec.ofChange fnExactUnpinVersionWrong)

/-- 'laws.FnExactCollectVersions': WHATEVER THE INPUT: true; the input reads as it did. -/
def fnExactCollectVersionsSpec : ChangeSpec := { name := "fnExactCollectVersions", fn := fun _ => fun
  | [d] => { results := [.lit (.bool true)], args := [d] }
  | _ => none }
def fnExactCollectVersionsRow : OpenClaim := { program := "ytjkfmihbmkbjfaagreat", sum := "90aed45a4846ff418709d67f628c9ca86103963cee6747ba60645e2008e03bb3", func := "loop.example/g00976/laws.FnExactCollectVersions", spec := "fnExactCollectVersions", unfollowed := true, recurses := true, apart := false }
def FnExactCollectVersionsSaid : Prop := fnExactCollectVersionsRow.holds Tryz.pinned (OpenSpec.ofChange fnExactCollectVersionsSpec)

/-- ITS FALSE NEIGHBOUR: 'it returns false'. Refute it at one input. -/
def fnExactCollectVersionsWrong : ChangeSpec := { name := "fnExactCollectVersions", fn := fun _ => fun
  | [d] => { results := [.lit (.bool false)], args := [d] }
  | _ => none }
def FnExactCollectVersionsWrongFalsely : Prop := fnExactCollectVersionsRow.holds Tryz.pinned (OpenSpec.ofChange fnExactCollectVersionsWrong)

/- THE SECOND FORM. 'bulk': how many values and letters a reading holds, each counted each time it is reached (what is shared counts as often as it is met; a slice's spare places count too). A statement '..UptoSaid' is the law's where the arguments, and the package variables that the reading takes, are together of bulk at most 1048576: NARROWER than '..Said'. Prove '..Said' where nothing that the law and all that it calls make is longer than what came in: it says more and counts as full. Else prove '..UptoSaid'. A law counts once. -/
mutual
def uptoBulk {H : Type} : DataW H → Nat
  | .lit (.string bytes) => bytes.length + 1
  | .lit _ => 1
  | .nil => 1
  | .ptr d => uptoBulk d + 1
  | .slice elems spare => uptoBulkAll elems + uptoBulkAll spare + 1
  | .agg parts => uptoBulkAll parts + 1
  | .iface _ d => uptoBulk d + 1
  | .map entries => uptoBulkEntries entries + 1
  | .held _ => 1
def uptoBulkAll {H : Type} : List (DataW H) → Nat
  | [] => 0
  | d :: r => uptoBulk d + uptoBulkAll r
def uptoBulkEntries {H : Type} : List (Lit × DataW H) → Nat
  | [] => 0
  | x :: r => uptoBulkEntry x + uptoBulkEntries r
def uptoBulkEntry {H : Type} : Lit × DataW H → Nat
  | (.string bytes, d) => bytes.length + uptoBulk d + 1
  | (_, d) => uptoBulk d + 1
 end
def uptoSmall : (H : Type) → List (DataW H) → Bool := fun _ ds => decide (uptoBulkAll ds ≤ 1048576)
def OpenSpec.upto (s : _root_.Go.ChangeSpec) : _root_.Go.OpenSpec := { _root_.Go.OpenSpec.ofChange s with cond := some uptoSmall }

/-- 'laws.FnExactSystemSnapshot', WHERE WHAT IT READS IS OF BULK AT MOST 1048576: true; the input reads as it did. -/
def fnExactSystemSnapshotUptoRow : OpenClaim := { program := "ytjkfmihbmkbjfaagreat", sum := "90aed45a4846ff418709d67f628c9ca86103963cee6747ba60645e2008e03bb3", func := "loop.example/g00976/laws.FnExactSystemSnapshot", spec := "fnExactSystemSnapshot", apart := false, narrowed := true }
def FnExactSystemSnapshotUptoSaid : Prop := fnExactSystemSnapshotUptoRow.holds Tryz.pinned (OpenSpec.upto fnExactSystemSnapshotSpec)

/-- 'laws.FnExactAreValidVersions', WHERE WHAT IT READS IS OF BULK AT MOST 1048576: true; the input reads as it did. -/
def fnExactAreValidVersionsUptoRow : OpenClaim := { program := "ytjkfmihbmkbjfaagreat", sum := "90aed45a4846ff418709d67f628c9ca86103963cee6747ba60645e2008e03bb3", func := "loop.example/g00976/laws.FnExactAreValidVersions", spec := "fnExactAreValidVersions", unfollowed := true, recurses := true, apart := false, narrowed := true }
def FnExactAreValidVersionsUptoSaid : Prop := fnExactAreValidVersionsUptoRow.holds Tryz.pinned (OpenSpec.upto fnExactAreValidVersionsSpec)

/-- 'laws.FnExactIsConsistent', WHERE WHAT IT READS IS OF BULK AT MOST 1048576: true; the input reads as it did. -/
def fnExactIsConsistentUptoRow : OpenClaim := { program := "ytjkfmihbmkbjfaagreat", sum := "90aed45a4846ff418709d67f628c9ca86103963cee6747ba60645e2008e03bb3", func := "loop.example/g00976/laws.FnExactIsConsistent", spec := "fnExactIsConsistent", unfollowed := true, recurses := true, apart := false, narrowed := true }
def FnExactIsConsistentUptoSaid : Prop := fnExactIsConsistentUptoRow.holds Tryz.pinned (OpenSpec.upto fnExactIsConsistentSpec)

/-- 'laws.FnExactAppendVersion', WHERE WHAT IT READS IS OF BULK AT MOST 1048576: true; the input reads as it did. -/
def fnExactAppendVersionUptoRow : OpenClaim := { program := "ytjkfmihbmkbjfaagreat", sum := "90aed45a4846ff418709d67f628c9ca86103963cee6747ba60645e2008e03bb3", func := "loop.example/g00976/laws.FnExactAppendVersion", spec := "fnExactAppendVersion", unfollowed := true, recurses := true, apart := false, narrowed := true }
def FnExactAppendVersionUptoSaid : Prop := fnExactAppendVersionUptoRow.holds Tryz.pinned (OpenSpec.upto fnExactAppendVersionSpec)

/-- 'laws.FnExactPinVersion', WHERE WHAT IT READS IS OF BULK AT MOST 1048576: true; the input reads as it did. -/
def fnExactPinVersionUptoRow : OpenClaim := { program := "ytjkfmihbmkbjfaagreat", sum := "90aed45a4846ff418709d67f628c9ca86103963cee6747ba60645e2008e03bb3", func := "loop.example/g00976/laws.FnExactPinVersion", spec := "fnExactPinVersion", unfollowed := true, recurses := true, apart := false, narrowed := true }
def FnExactPinVersionUptoSaid : Prop := fnExactPinVersionUptoRow.holds Tryz.pinned (OpenSpec.upto fnExactPinVersionSpec)

/-- 'laws.FnExactUnpinVersion', WHERE WHAT IT READS IS OF BULK AT MOST 1048576: true; the input reads as it did. -/
def fnExactUnpinVersionUptoRow : OpenClaim := { program := "ytjkfmihbmkbjfaagreat", sum := "90aed45a4846ff418709d67f628c9ca86103963cee6747ba60645e2008e03bb3", func := "loop.example/g00976/laws.FnExactUnpinVersion", spec := "fnExactUnpinVersion", unfollowed := true, recurses := true, apart := false, narrowed := true }
def FnExactUnpinVersionUptoSaid : Prop := fnExactUnpinVersionUptoRow.holds Tryz.pinned (OpenSpec.upto fnExactUnpinVersionSpec)

/-- 'laws.FnExactCollectVersions', WHERE WHAT IT READS IS OF BULK AT MOST 1048576: true; the input reads as it did. -/
def fnExactCollectVersionsUptoRow : OpenClaim := { program := "ytjkfmihbmkbjfaagreat", sum := "90aed45a4846ff418709d67f628c9ca86103963cee6747ba60645e2008e03bb3", func := "loop.example/g00976/laws.FnExactCollectVersions", spec := "fnExactCollectVersions", unfollowed := true, recurses := true, apart := false, narrowed := true }
def FnExactCollectVersionsUptoSaid : Prop := fnExactCollectVersionsUptoRow.holds Tryz.pinned (OpenSpec.upto fnExactCollectVersionsSpec)

end Rows
end Go.Proofs.YtjkfmihbmkbjfaaGreat
