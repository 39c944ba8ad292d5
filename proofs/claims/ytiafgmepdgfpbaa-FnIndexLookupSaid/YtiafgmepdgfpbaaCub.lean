/- A drawn byte is a byte. -/
import Derived.Test.YtiafgmepdgfpbaaCua
set_option linter.unusedVariables false
set_option linter.unusedSimpArgs false
namespace Go.Proofs.Ytiafgmepdgfpbaa
open Go.RowKit
theorem and255 (a : Int) : 0 ≤ andI .i64 a 255 ∧ andI .i64 a 255 ≤ 255 := by
  have h : (BitVec.ofInt 64 a &&& BitVec.ofInt 64 255).toNat ≤ 255 := by
    rw [BitVec.toNat_and]
    exact Nat.le_trans Nat.and_le_right (by decide)
  have e : andI .i64 a 255 = IntKind.i64.wrap (BitVec.ofInt 64 a &&& BitVec.ofInt 64 255).toNat := rfl
  rw [e, IntWalk.i64_in _ (by omega)]
  omega
theorem specl01Byte_bd (code : List UInt8) (ci : Nat) (ch : Int) : 0 ≤ (specl01Byte code ci ch).1 ∧ (specl01Byte code ci ch).1 ≤ 255 := by
  unfold specl01Byte
  cases decide (((ci : Nat) : Int) < (code.length : Int)) <;> exact and255 _
end Go.Proofs.Ytiafgmepdgfpbaa
