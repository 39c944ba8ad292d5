/- A new watch: both sides alike; its size. -/
import Derived.Test.YtnhmnfmhnepjmaaGreatNwa
set_option linter.unusedVariables false
set_option linter.unusedSimpArgs false
namespace Go.Proofs.YtnhmnfmhnepjmaaGreat
open Go.RowKit
theorem newWatch_eq (s : StoreD) (d : List DirD) (u : Int) (n : ByteArray) : specNewWatch s d u n = implNewWatch s d u n := by
  unfold specNewWatch implNewWatch
  rw [listDir_eq]
theorem newWatch_size (s : StoreD) (d : List DirD) (u : Int) (n : ByteArray) : GoD.size (implNewWatch s d u n) ≤ 12 + n.size := by
  unfold implNewWatch
  have h := listDir_short s d u n
  show 0 + (n.size + (GoD.size (implListDir s d u n) + GoD.size ([] : List EventD))) ≤ 12 + n.size
  rw [ints_size, show GoD.size ([] : List EventD) = 0 from rfl]
  omega
end Go.Proofs.YtnhmnfmhnepjmaaGreat
