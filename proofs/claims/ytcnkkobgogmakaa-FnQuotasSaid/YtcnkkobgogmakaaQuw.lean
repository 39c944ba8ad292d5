/- What functions compute, and that they do (printed by am2.py): each function as a Lean function, then its contract. -/
import Derived.Test.YtcnkkobgogmakaaDrd
import Derived.Test.YtcnkkobgogmakaaZc
import Derived.KernelRfl
set_option linter.unusedVariables false
set_option linter.unusedSimpArgs false
namespace Go.Proofs.Ytcnkkobgogmakaa
open Go.RowKit
open GoE (enc wide)
def implwithin (n : Int) (low : Int) (high_ : Int) : Bool := (decide (low ≤ n) && decide (n ≤ high_))
theorem implwithin_a (n : Int) (low : Int) (high_ : Int) : ACalls Try.prog 56 [.i n, .i low, .i high_] (.b (implwithin n low high_)) := by
  refine en tt_ok Try.func56 fun w0 F0 hG => ?_
  refine sn tt_ok [0, 1, 2, 6] [] (p0) ?_
  refine awp_seq ?_
  refine mz [(6, .b false)] [] [] [] ?_
  refine jn [(6, .b (decide (low ≤ n) && decide (n ≤ high_)))] [0, 1, 2, 6] [] [] (decide (low ≤ n)) (fun h1 => ?_) (fun h1 => ?_) ?_
  ·
    have h1d := of_decide_eq_true h1
    refine rn tt_ok [6] [] (pt 2 h1 p0) ?_
    exact ⟨rfl, weak_fit (by rw [h1]; first | done | kernel_rfl)⟩
  ·
    have h1d := of_decide_eq_false h1
    refine rn tt_ok [6] [] (pf 2 h1 p0) ?_
    exact ⟨rfl, weak_fit (by rw [h1]; first | done | kernel_rfl)⟩
  refine awp_ret ?_
  exact pb [] (show implwithin n low high_ = (decide (low ≤ n) && decide (n ≤ high_)) from rfl)
end Go.Proofs.Ytcnkkobgogmakaa
