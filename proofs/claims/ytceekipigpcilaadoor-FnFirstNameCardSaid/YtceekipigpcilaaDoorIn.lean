/- Ranges. -/
import Derived.Test.YtceekipigpcilaaDoorProg
import Derived.Test.YtceekipigpcilaaDoorTy
import Derived.Outline
set_option linter.unusedVariables false
set_option linter.unusedSimpArgs false
namespace Go.Proofs.YtceekipigpcilaaDoor
open Go.RowKit
open GoD (rd own)
def inR (n lo hi : Int) : Bool := decide (lo ≤ n) && decide (n ≤ hi)
theorem inR_true {n lo hi : Int} (h1 : lo ≤ n) (h2 : n ≤ hi) : inR n lo hi = true := by simp [inR, h1, h2]
theorem inR_lo {n lo hi : Int} (h : ¬ lo ≤ n) : inR n lo hi = false := by simp [inR, h]
theorem inR_hi {n lo hi : Int} (h : ¬ n ≤ hi) : inR n lo hi = false := by simp [inR, h]
theorem l01In_c (w : World) (n lo hi : Int) : Calls Tryd.prog 29 #[.int .i64 n, .int .i64 lo, .int .i64 hi] w (Ret w (.bool (inR n lo hi))) := by
  by_cases h1 : lo ≤ n
  · by_cases h2 : n ≤ hi
    · rw [inR_true h1 h2]
      go_enter Tryd.func29, Tryd.ntmps29
      go_wp2
      go_ret
      exact ⟨rfl, Below.refl _ _⟩
    · rw [inR_hi h2]
      go_enter Tryd.func29, Tryd.ntmps29
      go_wp2
      go_ret
      exact ⟨rfl, Below.refl _ _⟩
  · rw [inR_lo h1]
    go_enter Tryd.func29, Tryd.ntmps29
    go_wp2
    go_ret
    exact ⟨rfl, Below.refl _ _⟩
def okAction (a : ActionD) : Bool := inR a.1 1 8 && decide ((a.2.2.1.length : Int) ≤ 6)
theorem l01In_b (w : World) (n lo hi : Int) (r : Bool) (h : inR n lo hi = r) : Calls Tryd.prog 29 #[.int .i64 n, .int .i64 lo, .int .i64 hi] w (Ret w (.bool r)) := h ▸ l01In_c w n lo hi
end Go.Proofs.YtceekipigpcilaaDoor
