/- A number drawn below n is below n. -/
import Derived.Test.YtiafgmepdgfpbaaCuc
set_option linter.unusedVariables false
set_option linter.unusedSimpArgs false
namespace Go.Proofs.Ytiafgmepdgfpbaa
open Go.RowKit
theorem specl01Below_bd (code : List UInt8) (ci : Nat) (ch n : Int) : 0 ≤ (specl01Below code ci ch n).1 ∧ (0 < n → (specl01Below code ci ch n).1 < n) ∧ (n ≤ 0 → (specl01Below code ci ch n).1 = 0) := by
  unfold specl01Below lt
  by_cases h0 : n ≤ 0
  · rw [decide_eq_true h0]
    exact ⟨Int.le_refl _, fun h => by omega, fun _ => rfl⟩
  · rw [decide_eq_false h0]
    have hn : 0 < n := by omega
    cases decide (n ≤ (256 : Int)) with
    | true =>
      have := specl01Byte_bd code ci ch
      exact ⟨Int.tmod_nonneg _ this.1, fun _ => Int.tmod_lt_of_pos _ hn, fun h => by omega⟩
    | false =>
      simp only [cond_false]
      generalize hx6 : specl01Byte code ci ch = x6
      generalize hx7 : specl01Byte code x6.2.1 x6.2.2 = x7
      generalize hx8 : specl01Byte code x7.2.1 x7.2.2 = x8
      generalize hx9 : specl01Byte code x8.2.1 x8.2.2 = x9
      have h6 := hx6 ▸ specl01Byte_bd code ci ch
      have h7 := hx7 ▸ specl01Byte_bd code x6.2.1 x6.2.2
      have h8 := hx8 ▸ specl01Byte_bd code x7.2.1 x7.2.2
      have h9 := hx9 ▸ specl01Byte_bd code x8.2.1 x8.2.2
      exact ⟨Int.tmod_nonneg _ (by omega), fun _ => Int.tmod_lt_of_pos _ hn, fun h => by omega⟩
end Go.Proofs.Ytiafgmepdgfpbaa
