/-
  No cell of these rows narrows 'for every input' (looked for: loops, veiled, ifaces, maps, wideKeys, modest, calm, conditions, laid).
  DERIVED. THE GIVEN ROWS OF THIS SEAT. 4 by the template 'for every input the law returns true; each argument reads behind the call as it read before'; 0 by the template 'total and deterministic' (their statements: YtnhmnfmhnepjmaaGreatTotals.lean).
  GIVEN WITH THE SEED: the statements are not yours to turn. If you find one false, say at which input.
  Laid BY PROGRAM, IN A SANDBOX (cutbox-rows.mjs): the forced cells as the released guide's own fill.sh prints them over the translation 1f254e3376fba64c… (all of the seat's roots in one cut). By AI agents, Wed Nov 11 2026. No macro, syntax, notation, axiom, sorry.
-/
import Derived.Test.YtnhmnfmhnepjmaaGreatChecked
import GoSem.Claim
import GoSem.ClaimJoined
import GoSem.ClaimMapViews
import Derived.JoinedTies
import Derived.KernelRfl
namespace Go.Proofs.YtnhmnfmhnepjmaaGreat
/- THE CELL 'sum', in the pinned program and in every row, IS THE sha256 OF THE DUMP (.gsa) THAT YtnhmnfmhnepjmaaGreatProg.lean LOADS. Nothing in Lean hashes anything: it is a label: what it is worth is what the hold of that sum in a sandbox is worth. -/
noncomputable def Tryz.pinned : Pinned := { name := "ytnhmnfmhnepjmaagreat", sum := "1f254e3376fba64c73d1d2ceab0f6b858f1cb6955020416c865ce88e0d8fe2b7", checked := Tryz.checked }
namespace Rows
def none {H : Type} : Left H := { results := [], args := [] }

/-- 'laws.FnExactListedIDs': WHATEVER THE INPUT: true; the input reads as it did. -/
def fnExactListedIDsSpec : ChangeSpec := { name := "fnExactListedIDs", fn := fun _ => fun
  | [d1, d2, d3] => { results := [.lit (.bool true)], args := [d1, d2, d3] }
  | _ => none }
def fnExactListedIDsRow : OpenClaim := { program := "ytnhmnfmhnepjmaagreat", sum := "1f254e3376fba64c73d1d2ceab0f6b858f1cb6955020416c865ce88e0d8fe2b7", func := "loop.example/g00976/laws.FnExactListedIDs", spec := "fnExactListedIDs", unfollowed := true, recurses := true, apart := false }
def FnExactListedIDsSaid : Prop := fnExactListedIDsRow.holds Tryz.pinned (OpenSpec.ofChange fnExactListedIDsSpec)

/-- ITS FALSE NEIGHBOUR: 'it returns false'. Refute it at one input. -/
def fnExactListedIDsWrong : ChangeSpec := { name := "fnExactListedIDs", fn := fun _ => fun
  | [d1, d2, d3] => { results := [.lit (.bool false)], args := [d1, d2, d3] }
  | _ => none }
def FnExactListedIDsWrongFalsely : Prop := fnExactListedIDsRow.holds Tryz.pinned (OpenSpec.ofChange fnExactListedIDsWrong)

/-- 'laws.FnExactNewWatch': WHATEVER THE INPUT: true; the input reads as it did. -/
def fnExactNewWatchSpec : ChangeSpec := { name := "fnExactNewWatch", fn := fun _ => fun
  | [d1, d2, d3, d4] => { results := [.lit (.bool true)], args := [d1, d2, d3, d4] }
  | _ => none }
def fnExactNewWatchRow : OpenClaim := { program := "ytnhmnfmhnepjmaagreat", sum := "1f254e3376fba64c73d1d2ceab0f6b858f1cb6955020416c865ce88e0d8fe2b7", func := "loop.example/g00976/laws.FnExactNewWatch", spec := "fnExactNewWatch", unfollowed := true, recurses := true, apart := false }
def FnExactNewWatchSaid : Prop := fnExactNewWatchRow.holds Tryz.pinned (OpenSpec.ofChange fnExactNewWatchSpec)

/-- ITS FALSE NEIGHBOUR: 'it returns false'. Refute it at one input. -/
def fnExactNewWatchWrong : ChangeSpec := { name := "fnExactNewWatch", fn := fun _ => fun
  | [d1, d2, d3, d4] => { results := [.lit (.bool false)], args := [d1, d2, d3, d4] }
  | _ => none }
def FnExactNewWatchWrongFalsely : Prop := fnExactNewWatchRow.holds Tryz.pinned (OpenSpec.ofChange fnExactNewWatchWrong)

/-- 'laws.FnExactNotify': WHATEVER THE INPUT: true; the input reads as it did. -/
def fnExactNotifySpec : ChangeSpec := { name := "fnExactNotify", fn := fun _ => fun
  | [d1, d2, d3, d4] => { results := [.lit (.bool true)], args := [d1, d2, d3, d4] }
  | _ => none }
def fnExactNotifyRow : OpenClaim := { program := "ytnhmnfmhnepjmaagreat", sum := "1f254e3376fba64c73d1d2ceab0f6b858f1cb6955020416c865ce88e0d8fe2b7", func := "loop.example/g00976/laws.FnExactNotify", spec := "fnExactNotify", unfollowed := true, recurses := true, apart := false }
def FnExactNotifySaid : Prop := fnExactNotifyRow.holds Tryz.pinned (OpenSpec.ofChange fnExactNotifySpec)

/-- ITS FALSE NEIGHBOUR: 'it returns false'. Refute it at one input. -/
def fnExactNotifyWrong : ChangeSpec := { name := "fnExactNotify", fn := fun _ => fun
  | [d1, d2, d3, d4] => { results := [.lit (.bool false)], args := [d1, d2, d3, d4] }
  | _ => none }
def FnExactNotifyWrongFalsely : Prop := fnExactNotifyRow.holds Tryz.pinned (OpenSpec.ofChange fnExactNotifyWrong)

/-- 'laws.FnExactIsStreamConsistent': WHATEVER THE INPUT: true; the input reads as it did. -/
def fnExactIsStreamConsistentSpec : ChangeSpec := { name := "fnExactIsStreamConsistent", fn := fun _ => fun
  | [d1, d2] => { results := [.lit (.bool true)], args := [d1, d2] }
  | _ => none }
def fnExactIsStreamConsistentRow : OpenClaim := { program := "ytnhmnfmhnepjmaagreat", sum := "1f254e3376fba64c73d1d2ceab0f6b858f1cb6955020416c865ce88e0d8fe2b7", func := "loop.example/g00976/laws.FnExactIsStreamConsistent", spec := "fnExactIsStreamConsistent", unfollowed := true, recurses := true, apart := false }
def FnExactIsStreamConsistentSaid : Prop := fnExactIsStreamConsistentRow.holds Tryz.pinned (OpenSpec.ofChange fnExactIsStreamConsistentSpec)

/-- ITS FALSE NEIGHBOUR: 'it returns false'. Refute it at one input. -/
def fnExactIsStreamConsistentWrong : ChangeSpec := { name := "fnExactIsStreamConsistent", fn := fun _ => fun
  | [d1, d2] => { results := [.lit (.bool false)], args := [d1, d2] }
  | _ => none }
def FnExactIsStreamConsistentWrongFalsely : Prop := fnExactIsStreamConsistentRow.holds Tryz.pinned (OpenSpec.ofChange fnExactIsStreamConsistentWrong)

/- THE SECOND FORM. 'bulk': how many values and letters a reading holds, each counted each time it is reached (what is shared counts as often as it is met; a slice's spare places count too). A statement '..UptoSaid' is the law's where the arguments, and the package variables that the reading takes, are together of bulk at most 1048576: NARROWER than '..Said'. Prove '..Said' where nothing that the law and all that it calls make is longer than what came in: it says more and counts as full. Else prove '..UptoSaid'. A law counts once. -/
mutual
def uptoBulk {H : Type} : DataW H → Nat
  | .lit (.string bytes) => bytes.length + 1
  | .lit _ => 1
  | .nil => 1
  | .ptr d => uptoBulk d + 1
  | .slice elems spare => uptoBulkAll elems + uptoBulkAll spare + 1
  | .agg parts => uptoBulkAll parts + 1
  | .iface _ d => uptoBulk d + 1
  | .map entries => uptoBulkEntries entries + 1
  | .held _ => 1
def uptoBulkAll {H : Type} : List (DataW H) → Nat
  | [] => 0
  | d :: r => uptoBulk d + uptoBulkAll r
def uptoBulkEntries {H : Type} : List (Lit × DataW H) → Nat
  | [] => 0
  | x :: r => uptoBulkEntry x + uptoBulkEntries r
def uptoBulkEntry {H : Type} : Lit × DataW H → Nat
  | (.string bytes, d) => bytes.length + uptoBulk d + 1
  | (_, d) => uptoBulk d + 1
 end
def uptoSmall : (H : Type) → List (DataW H) → Bool := fun _ ds => decide (uptoBulkAll ds ≤ 1048576)
def OpenSpec.upto (s : _root_.Go.ChangeSpec) : _root_.Go.OpenSpec := { _root_.Go.OpenSpec.ofChange s with cond := some uptoSmall }

/-- 'laws.FnExactListedIDs', WHERE WHAT IT READS IS OF BULK AT MOST 1048576: true; the input reads as it did. -/
def fnExactListedIDsUptoRow : OpenClaim := { program := "ytnhmnfmhnepjmaagreat", sum := "1f254e3376fba64c73d1d2ceab0f6b858f1cb6955020416c865ce88e0d8fe2b7", func := "loop.example/g00976/laws.FnExactListedIDs", spec := "fnExactListedIDs", unfollowed := true, recurses := true, apart := false, narrowed := true }
def FnExactListedIDsUptoSaid : Prop := fnExactListedIDsUptoRow.holds Tryz.pinned (OpenSpec.upto fnExactListedIDsSpec)

/-- 'laws.FnExactNewWatch', WHERE WHAT IT READS IS OF BULK AT MOST 1048576: true; the input reads as it did. -/
def fnExactNewWatchUptoRow : OpenClaim := { program := "ytnhmnfmhnepjmaagreat", sum := "1f254e3376fba64c73d1d2ceab0f6b858f1cb6955020416c865ce88e0d8fe2b7", func := "loop.example/g00976/laws.FnExactNewWatch", spec := "fnExactNewWatch", unfollowed := true, recurses := true, apart := false, narrowed := true }
def FnExactNewWatchUptoSaid : Prop := fnExactNewWatchUptoRow.holds Tryz.pinned (OpenSpec.upto fnExactNewWatchSpec)

/-- 'laws.FnExactNotify', WHERE WHAT IT READS IS OF BULK AT MOST 1048576: true; the input reads as it did. -/
def fnExactNotifyUptoRow : OpenClaim := { program := "ytnhmnfmhnepjmaagreat", sum := "1f254e3376fba64c73d1d2ceab0f6b858f1cb6955020416c865ce88e0d8fe2b7", func := "loop.example/g00976/laws.FnExactNotify", spec := "fnExactNotify", unfollowed := true, recurses := true, apart := false, narrowed := true }
def FnExactNotifyUptoSaid : Prop := fnExactNotifyUptoRow.holds Tryz.pinned (OpenSpec.upto fnExactNotifySpec)

/-- 'laws.FnExactIsStreamConsistent', WHERE WHAT IT READS IS OF BULK AT MOST 1048576: true; the input reads as it did. -/
def fnExactIsStreamConsistentUptoRow : OpenClaim := { program := "ytnhmnfmhnepjmaagreat", sum := "1f254e3376fba64c73d1d2ceab0f6b858f1cb6955020416c865ce88e0d8fe2b7", func := "loop.example/g00976/laws.FnExactIsStreamConsistent", spec := "fnExactIsStreamConsistent", unfollowed := true, recurses := true, apart := false, narrowed := true }
def FnExactIsStreamConsistentUptoSaid : Prop := fnExactIsStreamConsistentUptoRow.holds Tryz.pinned (OpenSpec.upto fnExactIsStreamConsistentSpec)

end Rows
end Go.Proofs.YtnhmnfmhnepjmaaGreat
