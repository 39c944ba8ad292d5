/- Places in range. -/
import Derived.Test.YtkjlkokcpeoeeaaGreatFwa
import Derived.Test.YtkjlkokcpeoeeaaGreatFo
namespace Go.Proofs.YtkjlkokcpeoeeaaGreat
open Go.RowKit

theorem within_iff {a b c : Int} : implwithin a b c = true ↔ b ≤ a ∧ a ≤ c := by simp [implwithin]
theorem l01In_iff {a b c : Int} : specl01In a b c = true ↔ b ≤ a ∧ a ≤ c := by simp [specl01In]
end Go.Proofs.YtkjlkokcpeoeeaaGreat
