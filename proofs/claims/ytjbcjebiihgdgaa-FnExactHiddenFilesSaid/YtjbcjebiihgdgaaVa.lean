/- Ranges; which actions are valid. -/
import Derived.Test.YtjbcjebiihgdgaaProg
import Derived.Test.YtjbcjebiihgdgaaTy
import Derived.Outline
namespace Go.Proofs.Ytjbcjebiihgdgaa
open Go.RowKit
open GoD (rd own)
def inR (n lo hi : Int) : Bool := decide (lo ≤ n) && decide (n ≤ hi)
theorem inR_true {n lo hi : Int} (h1 : lo ≤ n) (h2 : n ≤ hi) : inR n lo hi = true := by simp [inR, h1, h2]
theorem inR_lo {n lo hi : Int} (h : ¬ lo ≤ n) : inR n lo hi = false := by simp [inR, h]
theorem inR_hi {n lo hi : Int} (h : ¬ n ≤ hi) : inR n lo hi = false := by simp [inR, h]
theorem within_c (w : World) (n lo hi : Int) : Calls Try.prog 55 #[.int .i64 n, .int .i64 lo, .int .i64 hi] w (Ret w (.bool (inR n lo hi))) := by
  by_cases h1 : lo ≤ n
  · by_cases h2 : n ≤ hi
    · rw [inR_true h1 h2]
      go_enter Try.func55, Try.ntmps55
      go_wp2
      go_ret
      exact ⟨rfl, Below.refl _ _⟩
    · rw [inR_hi h2]
      go_enter Try.func55, Try.ntmps55
      go_wp2
      go_ret
      exact ⟨rfl, Below.refl _ _⟩
  · rw [inR_lo h1]
    go_enter Try.func55, Try.ntmps55
    go_wp2
    go_ret
    exact ⟨rfl, Below.refl _ _⟩
theorem l01In_c (w : World) (n lo hi : Int) : Calls Try.prog 64 #[.int .i64 n, .int .i64 lo, .int .i64 hi] w (Ret w (.bool (inR n lo hi))) := by
  by_cases h1 : lo ≤ n
  · by_cases h2 : n ≤ hi
    · rw [inR_true h1 h2]
      go_enter Try.func64, Try.ntmps64
      go_wp2
      go_ret
      exact ⟨rfl, Below.refl _ _⟩
    · rw [inR_hi h2]
      go_enter Try.func64, Try.ntmps64
      go_wp2
      go_ret
      exact ⟨rfl, Below.refl _ _⟩
  · rw [inR_lo h1]
    go_enter Try.func64, Try.ntmps64
    go_wp2
    go_ret
    exact ⟨rfl, Below.refl _ _⟩
def okAction (a : ActionD) : Bool := inR a.1 1 8 && decide ((a.2.2.1.length : Int) ≤ 6)
theorem implIsValidAction_c (w : World) (ca : List Value) (a : ActionD) (ha : rd w ca a) (_z : GoD.size a ≤ 1048576) : Calls Try.prog 34 #[.agg ca.toArray] w (Ret w (.bool (okAction a))) := by
  obtain ⟨oa, cp, rfl⟩ := cells_Action ha
  clear ha
  obtain ⟨a1, a2, a3, a4, a5⟩ := a
  have hf : okAction (a1, a2, a3, a4, a5) = (inR a1 1 8 && decide ((a3.length : Int) ≤ 6)) := rfl
  have HF := Lib.hid hf; clear hf
  dsimp only at *
  generalize okAction (a1, a2, a3, a4, a5) = r at *
  cases h1 : inR a1 1 8
  all_goals
    go_enter Try.func34, Try.ntmps34
    go_wp2_with (go_at_call 55; refine call_ret (w := w) (within_c _ a1 1 8) (by go_grown) ?_; intro w1 hB hb hz hz2; have c0 := fun o => bcell hb w.heap.size o (by go_size); clear hb hz2)
    go_ret
    refine ⟨?_, hB⟩
    rw [HF.out, h1]
    rfl
theorem specIsValidAction_c (w : World) (ca : List Value) (a : ActionD) (ha : rd w ca a) (_z : GoD.size a ≤ 1048576) : Calls Try.prog 32 #[.agg ca.toArray] w (Ret w (.bool (okAction a))) := by
  obtain ⟨oa, cp, rfl⟩ := cells_Action ha
  clear ha
  obtain ⟨a1, a2, a3, a4, a5⟩ := a
  have hf : okAction (a1, a2, a3, a4, a5) = (inR a1 1 8 && decide ((a3.length : Int) ≤ 6)) := rfl
  have HF := Lib.hid hf; clear hf
  dsimp only at *
  generalize okAction (a1, a2, a3, a4, a5) = r at *
  cases h1 : inR a1 1 8
  all_goals
    go_enter Try.func32, Try.ntmps32
    go_wp2_with (go_at_call 64; refine call_ret (w := w) (l01In_c _ a1 1 8) (by go_grown) ?_; intro w1 hB hb hz hz2; have c0 := fun o => bcell hb w.heap.size o (by go_size); clear hb hz2)
    go_ret
    refine ⟨?_, hB⟩
    rw [HF.out, h1]
    rfl
end Go.Proofs.Ytjbcjebiihgdgaa
