/-
  No cell of these rows narrows 'for every input' (looked for: loops, veiled, ifaces, maps, wideKeys, modest, calm, conditions, laid).
  DERIVED. THE GIVEN ROWS OF THIS SEAT. 4 by the template 'for every input the law returns true; each argument reads behind the call as it read before'; 0 by the template 'total and deterministic' (their statements: YtkjlkokcpeoeeaaGreatTotals.lean).
  GIVEN WITH THE SEED: the statements are not yours to turn. If you find one false, say at which input.
  Laid BY PROGRAM, IN A SANDBOX (cutbox-rows.mjs): the forced cells as the released guide's own fill.sh prints them over the translation f1fc558d44d5b8e7… (all of the seat's roots in one cut). By AI agents, Wed Nov 11 2026. No macro, syntax, notation, axiom, sorry.
-/
import Derived.Test.YtkjlkokcpeoeeaaGreatChecked
import GoSem.Claim
import GoSem.ClaimJoined
import GoSem.ClaimMapViews
import Derived.JoinedTies
import Derived.KernelRfl
namespace Go.Proofs.YtkjlkokcpeoeeaaGreat
/- THE CELL 'sum', in the pinned program and in every row, IS THE sha256 OF THE DUMP (.gsa) THAT YtkjlkokcpeoeeaaGreatProg.lean LOADS. Nothing in Lean hashes anything: it is a label: what it is worth is what the hold of that sum in a sandbox is worth. -/
noncomputable def Tryz.pinned : Pinned := { name := "ytkjlkokcpeoeeaagreat", sum := "f1fc558d44d5b8e79fbc3debb67fabbcd04680cb07a4e57786a48ec31c9077ed", checked := Tryz.checked }
namespace Rows
def none {H : Type} : Left H := { results := [], args := [] }

/-- 'laws.FnExactEqualSystems': WHATEVER THE INPUT: true; the input reads as it did. -/
def fnExactEqualSystemsSpec : ChangeSpec := { name := "fnExactEqualSystems", fn := fun _ => fun
  | [d1, d2] => { results := [.lit (.bool true)], args := [d1, d2] }
  | _ => none }
def fnExactEqualSystemsRow : OpenClaim := { program := "ytkjlkokcpeoeeaagreat", sum := "f1fc558d44d5b8e79fbc3debb67fabbcd04680cb07a4e57786a48ec31c9077ed", func := "loop.example/g00976/laws.FnExactEqualSystems", spec := "fnExactEqualSystems", unfollowed := true, recurses := true, apart := false }
def FnExactEqualSystemsSaid : Prop := fnExactEqualSystemsRow.holds Tryz.pinned (OpenSpec.ofChange fnExactEqualSystemsSpec)

/-- ITS FALSE NEIGHBOUR: 'it returns false'. Refute it at one input. -/
def fnExactEqualSystemsWrong : ChangeSpec := { name := "fnExactEqualSystems", fn := fun _ => fun
  | [d1, d2] => { results := [.lit (.bool false)], args := [d1, d2] }
  | _ => none }
def FnExactEqualSystemsWrongFalsely : Prop := fnExactEqualSystemsRow.holds Tryz.pinned (OpenSpec.ofChange fnExactEqualSystemsWrong)

/-- 'laws.FnExactFindWatch': WHATEVER THE INPUT: true; the input reads as it did. -/
def fnExactFindWatchSpec : ChangeSpec := { name := "fnExactFindWatch", fn := fun _ => fun
  | [d1, d2] => { results := [.lit (.bool true)], args := [d1, d2] }
  | _ => none }
def fnExactFindWatchRow : OpenClaim := { program := "ytkjlkokcpeoeeaagreat", sum := "f1fc558d44d5b8e79fbc3debb67fabbcd04680cb07a4e57786a48ec31c9077ed", func := "loop.example/g00976/laws.FnExactFindWatch", spec := "fnExactFindWatch", apart := false }
def FnExactFindWatchSaid : Prop := fnExactFindWatchRow.holds Tryz.pinned (OpenSpec.ofChange fnExactFindWatchSpec)

/-- ITS FALSE NEIGHBOUR: 'it returns false'. Refute it at one input. -/
def fnExactFindWatchWrong : ChangeSpec := { name := "fnExactFindWatch", fn := fun _ => fun
  | [d1, d2] => { results := [.lit (.bool false)], args := [d1, d2] }
  | _ => none }
def FnExactFindWatchWrongFalsely : Prop := fnExactFindWatchRow.holds Tryz.pinned (OpenSpec.ofChange fnExactFindWatchWrong)

/-- 'laws.FnExactCheckAll': WHATEVER THE INPUT: true; the input reads as it did. -/
def fnExactCheckAllSpec : ChangeSpec := { name := "fnExactCheckAll", fn := fun _ => fun
  | [d] => { results := [.lit (.bool true)], args := [d] }
  | _ => none }
def fnExactCheckAllRow : OpenClaim := { program := "ytkjlkokcpeoeeaagreat", sum := "f1fc558d44d5b8e79fbc3debb67fabbcd04680cb07a4e57786a48ec31c9077ed", func := "loop.example/g00976/laws.FnExactCheckAll", spec := "fnExactCheckAll", recurses := true, apart := false }
def FnExactCheckAllSaid : Prop := fnExactCheckAllRow.holds Tryz.pinned (OpenSpec.ofChange fnExactCheckAllSpec)

/-- ITS FALSE NEIGHBOUR: 'it returns false'. Refute it at one input. -/
def fnExactCheckAllWrong : ChangeSpec := { name := "fnExactCheckAll", fn := fun _ => fun
  | [d] => { results := [.lit (.bool false)], args := [d] }
  | _ => none }
def FnExactCheckAllWrongFalsely : Prop := fnExactCheckAllRow.holds Tryz.pinned (OpenSpec.ofChange fnExactCheckAllWrong)

/-- 'laws.FnExactCheckStep': WHATEVER THE INPUT: true; the input reads as it did. -/
def fnExactCheckStepSpec : ChangeSpec := { name := "fnExactCheckStep", fn := fun _ => fun
  | [d1, d2] => { results := [.lit (.bool true)], args := [d1, d2] }
  | _ => none }
def fnExactCheckStepRow : OpenClaim := { program := "ytkjlkokcpeoeeaagreat", sum := "f1fc558d44d5b8e79fbc3debb67fabbcd04680cb07a4e57786a48ec31c9077ed", func := "loop.example/g00976/laws.FnExactCheckStep", spec := "fnExactCheckStep", recurses := true, apart := false }
def FnExactCheckStepSaid : Prop := fnExactCheckStepRow.holds Tryz.pinned (OpenSpec.ofChange fnExactCheckStepSpec)

/-- ITS FALSE NEIGHBOUR: 'it returns false'. Refute it at one input. -/
def fnExactCheckStepWrong : ChangeSpec := { name := "fnExactCheckStep", fn := fun _ => fun
  | [d1, d2] => { results := [.lit (.bool false)], args := [d1, d2] }
  | _ => none }
def FnExactCheckStepWrongFalsely : Prop := fnExactCheckStepRow.holds Tryz.pinned (OpenSpec.ofChange fnExactCheckStepWrong)

/- THE SECOND FORM. 'bulk': how many values and letters a reading holds, each counted each time it is reached (what is shared counts as often as it is met; a slice's spare places count too). A statement '..UptoSaid' is the law's where the arguments, and the package variables that the reading takes, are together of bulk at most 1048576: NARROWER than '..Said'. Prove '..Said' where nothing that the law and all that it calls make is longer than what came in: it says more and counts as full. Else prove '..UptoSaid'. A law counts once. -/
mutual
def uptoBulk {H : Type} : DataW H → Nat
  | .lit (.string bytes) => bytes.length + 1
  | .lit _ => 1
  | .nil => 1
  | .ptr d => uptoBulk d + 1
  | .slice elems spare => uptoBulkAll elems + uptoBulkAll spare + 1
  | .agg parts => uptoBulkAll parts + 1
  | .iface _ d => uptoBulk d + 1
  | .map entries => uptoBulkEntries entries + 1
  | .held _ => 1
def uptoBulkAll {H : Type} : List (DataW H) → Nat
  | [] => 0
  | d :: r => uptoBulk d + uptoBulkAll r
def uptoBulkEntries {H : Type} : List (Lit × DataW H) → Nat
  | [] => 0
  | x :: r => uptoBulkEntry x + uptoBulkEntries r
def uptoBulkEntry {H : Type} : Lit × DataW H → Nat
  | (.string bytes, d) => bytes.length + uptoBulk d + 1
  | (_, d) => uptoBulk d + 1
 end
def uptoSmall : (H : Type) → List (DataW H) → Bool := fun _ ds => decide (uptoBulkAll ds ≤ 1048576)
def OpenSpec.upto (s : _root_.Go.ChangeSpec) : _root_.Go.OpenSpec := { _root_.Go.OpenSpec.ofChange s with cond := some uptoSmall }

/-- 'laws.FnExactEqualSystems', WHERE WHAT IT READS IS OF BULK AT MOST 1048576: true; the input reads as it did. -/
def fnExactEqualSystemsUptoRow : OpenClaim := { program := "ytkjlkokcpeoeeaagreat", sum := "f1fc558d44d5b8e79fbc3debb67fabbcd04680cb07a4e57786a48ec31c9077ed", func := "loop.example/g00976/laws.FnExactEqualSystems", spec := "fnExactEqualSystems", unfollowed := true, recurses := true, apart := false, narrowed := true }
def FnExactEqualSystemsUptoSaid : Prop := fnExactEqualSystemsUptoRow.holds Tryz.pinned (OpenSpec.upto fnExactEqualSystemsSpec)

/-- 'laws.FnExactFindWatch', WHERE WHAT IT READS IS OF BULK AT MOST 1048576: true; the input reads as it did. -/
def fnExactFindWatchUptoRow : OpenClaim := { program := "ytkjlkokcpeoeeaagreat", sum := "f1fc558d44d5b8e79fbc3debb67fabbcd04680cb07a4e57786a48ec31c9077ed", func := "loop.example/g00976/laws.FnExactFindWatch", spec := "fnExactFindWatch", apart := false, narrowed := true }
def FnExactFindWatchUptoSaid : Prop := fnExactFindWatchUptoRow.holds Tryz.pinned (OpenSpec.upto fnExactFindWatchSpec)

/-- 'laws.FnExactCheckAll', WHERE WHAT IT READS IS OF BULK AT MOST 1048576: true; the input reads as it did. -/
def fnExactCheckAllUptoRow : OpenClaim := { program := "ytkjlkokcpeoeeaagreat", sum := "f1fc558d44d5b8e79fbc3debb67fabbcd04680cb07a4e57786a48ec31c9077ed", func := "loop.example/g00976/laws.FnExactCheckAll", spec := "fnExactCheckAll", recurses := true, apart := false, narrowed := true }
def FnExactCheckAllUptoSaid : Prop := fnExactCheckAllUptoRow.holds Tryz.pinned (OpenSpec.upto fnExactCheckAllSpec)

/-- 'laws.FnExactCheckStep', WHERE WHAT IT READS IS OF BULK AT MOST 1048576: true; the input reads as it did. -/
def fnExactCheckStepUptoRow : OpenClaim := { program := "ytkjlkokcpeoeeaagreat", sum := "f1fc558d44d5b8e79fbc3debb67fabbcd04680cb07a4e57786a48ec31c9077ed", func := "loop.example/g00976/laws.FnExactCheckStep", spec := "fnExactCheckStep", recurses := true, apart := false, narrowed := true }
def FnExactCheckStepUptoSaid : Prop := fnExactCheckStepUptoRow.holds Tryz.pinned (OpenSpec.upto fnExactCheckStepSpec)

end Rows
end Go.Proofs.YtkjlkokcpeoeeaaGreat
