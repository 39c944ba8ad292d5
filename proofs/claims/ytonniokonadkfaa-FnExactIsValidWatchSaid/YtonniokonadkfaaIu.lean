/- Which numbers are users. -/
import Derived.Test.YtonniokonadkfaaIn
import Derived.Test.YtonniokonadkfaaOwn
namespace Go.Proofs.Ytonniokonadkfaa
open Go.RowKit
open GoD (rd own)
theorem isUser_c (w : World) (n : Int) : Calls Try.prog 37 #[.int .i64 n] w (Ret w (.bool (inR n 0 2))) := by
  go_enter Try.func37, Try.ntmps37
  go_wp2_with (go_at_call 43; refine call_ret (w := w) (within_c _ n 0 2) (by go_grown) ?_; intro w1 hB hb hz hz2; clear hb hz2)
  go_ret
  exact ⟨rfl, hB⟩
theorem isUser_b (w : World) (n : Int) (r : Bool) (h : inR n 0 2 = r) : Calls Try.prog 37 #[.int .i64 n] w (Ret w (.bool r)) := h ▸ isUser_c w n
end Go.Proofs.Ytonniokonadkfaa
