/- The law on IndexLookup, whatever the bytes. -/
import Derived.Test.YtiafgmepdgfpbaaReg
import Derived.Test.YtiafgmepdgfpbaaIlp
import Derived.Outline
set_option linter.unusedVariables false
set_option linter.unusedSimpArgs false
namespace Go.Proofs.Ytiafgmepdgfpbaa
open Go.RowKit
open GoD (rd own)
set_option maxRecDepth 1000000 in
theorem bigIndexLookup (w : World) (v : Value) (a : List UInt8) (h : rd w [v] a) (hbig : ¬ a.length ≤ 1048576) : Calls Try.prog 3 #[v] w (Ret w (.bool true)) := by
  obtain ⟨oa, cap, rfl⟩ := slice_of_rd h
  have hln := len_of_rd h
  clear h
  have hbi : 1048576 < (a.length : Int) := by omega
  go_enter Try.func3, Try.ntmps3
  go_wp2_with (first | (go_at_call 5; go_in))
  go_ret
  exact ⟨rfl, by go_grown⟩
theorem lawIndexLookup (w : World) (v : Value) (a : List UInt8) (h : rd w [v] a) : Calls Try.prog 3 #[v] w (Ret w (.bool true)) := by
  by_cases hbig : a.length ≤ 1048576
  · haveI : Good Try.prog w := Good.none (by kernel_rfl) w
    have hc := (lawsFnIndexLookup_a a).run (.cons (arg_sli h ⟨by omega, fun _ _ => trivial⟩) .nil)
    rw [lawsFnIndexLookup_true] at hc
    exact hc.mono fun _ _ h => ret_bool h
  · exact bigIndexLookup w v a h hbig
end Go.Proofs.Ytiafgmepdgfpbaa
