/- The law on FirstName, whatever the bytes. -/
import Derived.Test.YtceekipigpcilaaDoorReg
import Derived.Test.YtceekipigpcilaaDoorFnl
import Derived.Outline
set_option linter.unusedVariables false
set_option linter.unusedSimpArgs false
namespace Go.Proofs.YtceekipigpcilaaDoor
open Go.RowKit
open GoD (rd own)
theorem bigFirstName (w : World) (v : Value) (a : List UInt8) (h : rd w [v] a) (hbig : ¬ a.length ≤ 1048576) : Calls Tryd.prog 3 #[v] w (Ret w (.bool true)) := by
  obtain ⟨oa, cap, rfl⟩ := slice_of_rd h
  have hln := len_of_rd h
  clear h
  have hbi : 1048576 < (a.length : Int) := by omega
  go_enter Tryd.func3, Tryd.ntmps3
  go_wp2_with (first | (go_at_call 4; go_in))
  go_ret
  exact ⟨rfl, by go_grown⟩
theorem lawFirstName (w : World) (v : Value) (a : List UInt8) (h : rd w [v] a) (ht : tabOk w) : Calls Tryd.prog 3 #[v] w (Ret w (.bool true)) := by
  by_cases hbig : a.length ≤ 1048576
  · haveI : Good Tryd.prog w := ⟨fun _ _ => ht⟩
    have hc := (lawsFnFirstName_a a).run (.cons (arg_sli h ⟨by omega, fun _ _ => trivial⟩) .nil)
    rw [lawsFnFirstName_true] at hc
    exact hc.mono fun _ _ h => ret_bool h
  · exact bigFirstName w v a h hbig
end Go.Proofs.YtceekipigpcilaaDoor
