/- Drawn stores of the law on indexes. -/
import Derived.Test.YtiafgmepdgfpbaaIxf
set_option linter.unusedVariables false
set_option linter.unusedSimpArgs false
namespace Go.Proofs.Ytiafgmepdgfpbaa
open Go.RowKit
theorem drawIx_ok (code : List UInt8) : S5 (specDrawBuildIndex code) := by
  unfold specDrawBuildIndex lt
  exact (l05_ok code _ _).1
theorem drawIx_attrs (code : List UInt8) : attrsN (specDrawBuildIndex code).2.1 ≤ 100 := s5_attrs (drawIx_ok code)
theorem sample_attrs : attrsN (lawssampleStore 5).2.1 ≤ 1000000000 := Nat.le_of_ble_eq_true (by kernel_rfl)
end Go.Proofs.Ytiafgmepdgfpbaa
