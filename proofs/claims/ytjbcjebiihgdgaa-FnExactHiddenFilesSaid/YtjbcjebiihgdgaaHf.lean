/- Which files a user may read; the hidden ones. -/
import Derived.Test.YtjbcjebiihgdgaaVa
import Derived.Test.YtjbcjebiihgdgaaApp
namespace Go.Proofs.Ytjbcjebiihgdgaa
open Go.RowKit
open GoD (rd own)
def canRead (f : FileD) (u : Int) : Bool := inR u 0 2 && (f.2.1 == u || f.2.2.1)
theorem isUser_c (w : World) (n : Int) : Calls Try.prog 79 #[.int .i64 n] w (Ret w (.bool (inR n 0 2))) := by
  go_enter Try.func79, Try.ntmps79
  go_wp2_with (go_at_call 55; refine call_ret (w := w) (within_c _ n 0 2) (by go_grown) ?_; intro w1 hB hb hz hz2; clear hb hz2)
  go_ret
  exact ⟨rfl, hB⟩
theorem implCanRead_c (w : World) (ca : List Value) (f : FileD) (ha : rd w ca f) (u : Int) : Calls Try.prog 72 #[.agg ca.toArray, .int .i64 u] w (Ret w (.bool (canRead f u))) := by
  obtain ⟨oa, cp, rfl⟩ := cells_File ha
  clear ha
  obtain ⟨a1, a2, a3, a4, a5⟩ := f
  have hf : canRead (a1, a2, a3, a4, a5) u = (inR u 0 2 && (a2 == u || a3)) := rfl
  have HF := Lib.hid hf; clear hf
  dsimp only at *
  generalize canRead (a1, a2, a3, a4, a5) u = r at *
  cases h1 : inR u 0 2 <;> cases h2 : a2 == u
  all_goals
    go_enter Try.func72, Try.ntmps72
    go_wp2_with (go_at_call 79; refine call_ret (w := w) (isUser_c _ u) (by go_grown) ?_; intro w1 hB hb hz hz2; have c0 := fun o => bcell hb w.heap.size o (by go_size); clear hb hz2)
    go_ret
    refine ⟨?_, hB⟩
    rw [HF.out, h1]
    first | rfl | (rw [h2]; rfl)
theorem specCanRead_c (w : World) (ca : List Value) (f : FileD) (ha : rd w ca f) (u : Int) : Calls Try.prog 69 #[.agg ca.toArray, .int .i64 u] w (Ret w (.bool (canRead f u))) := by
  obtain ⟨oa, cp, rfl⟩ := cells_File ha
  clear ha
  obtain ⟨a1, a2, a3, a4, a5⟩ := f
  have hf : canRead (a1, a2, a3, a4, a5) u = (inR u 0 2 && (a2 == u || a3)) := rfl
  have HF := Lib.hid hf; clear hf
  dsimp only at *
  generalize canRead (a1, a2, a3, a4, a5) u = r at *
  cases h1 : inR u 0 2 <;> cases h2 : a2 == u
  all_goals
    go_enter Try.func69, Try.ntmps69
    go_wp2_with (go_at_call 64; refine call_ret (w := w) (l01In_c _ u 0 2) (by go_grown) ?_; intro w1 hB hb hz hz2; have c0 := fun o => bcell hb w.heap.size o (by go_size); clear hb hz2)
    go_ret
    refine ⟨?_, hB⟩
    rw [HF.out, h1]
    first | rfl | (rw [h2]; rfl)
end Go.Proofs.Ytjbcjebiihgdgaa
