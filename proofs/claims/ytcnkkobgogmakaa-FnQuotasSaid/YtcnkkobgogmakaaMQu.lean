/- The law on Quotas, whatever the bytes. -/
import Derived.Test.YtcnkkobgogmakaaReg
import Derived.Test.YtcnkkobgogmakaaQul
import Derived.Outline
set_option linter.unusedVariables false
set_option linter.unusedSimpArgs false
namespace Go.Proofs.Ytcnkkobgogmakaa
open Go.RowKit
open GoD (rd own)
theorem bigQuotas (w : World) (v : Value) (a : List UInt8) (h : rd w [v] a) (hbig : ¬ a.length ≤ 1048576) : Calls Try.prog 3 #[v] w (Ret w (.bool true)) := by
  obtain ⟨oa, cap, rfl⟩ := slice_of_rd h
  have hln := len_of_rd h
  clear h
  have hbi : 1048576 < (a.length : Int) := by omega
  go_enter Try.func3, Try.ntmps3
  go_wp2_with (first | (go_at_call 6; go_in))
  go_ret
  exact ⟨rfl, by go_grown⟩
theorem lawQuotas (w : World) (v : Value) (a : List UInt8) (h : rd w [v] a) : Calls Try.prog 3 #[v] w (Ret w (.bool true)) := by
  by_cases hbig : a.length ≤ 1048576
  · haveI : Good Try.prog w := Good.none (by kernel_rfl) w
    have hc := (lawsFnQuotas_a a).run (.cons (arg_sli h ⟨by omega, fun _ _ => trivial⟩) .nil)
    rw [lawsFnQuotas_true] at hc
    exact hc.mono fun _ _ h => ret_bool h
  · exact bigQuotas w v a h hbig
end Go.Proofs.Ytcnkkobgogmakaa
