/- Ranges of numbers. -/
import Derived.Test.YtcnkkobgogmakaaQuw
set_option linter.unusedVariables false
set_option linter.unusedSimpArgs false
namespace Go.Proofs.Ytcnkkobgogmakaa
open Go.RowKit
theorem within_in (a b c : Int) : implwithin a b c = specl01In a b c := rfl
theorem within_iff {a b c : Int} : implwithin a b c = true ↔ b ≤ a ∧ a ≤ c := by simp [implwithin]
theorem l01In_iff {a b c : Int} : specl01In a b c = true ↔ b ≤ a ∧ a ≤ c := by simp [specl01In]
end Go.Proofs.Ytcnkkobgogmakaa
