/- A version appended: both sides alike; the size of what is handed back. -/
import Derived.Test.YtjkfmihbmkbjfaaGreatAva
namespace Go.Proofs.YtjkfmihbmkbjfaaGreat
open Go.RowKit
theorem appendVersion_eq (v : List VersionD) (n : Int) (x : SnapshotD) : specAppendVersion v n x = implAppendVersion v n x := by
  unfold specAppendVersion implAppendVersion
  rw [versions_eq, versions_eq, l28Copy_id, copyVersions_id, l28State_id, copySnapshot_id]
theorem appendVersion_size (v : List VersionD) (n : Int) (x : SnapshotD) : GoD.size (implAppendVersion v n x).1 ≤ GoD.size v + GoD.size x + 1 := by
  unfold implAppendVersion
  rw [copyVersions_id, copySnapshot_id]
  generalize ((!(implAreValidVersions v)) || (!(implAreValidVersions (v ++ [((n, x, 0) : VersionD)])))) = c
  cases c with
  | true => exact Nat.le_trans (Nat.le_add_right _ _) (Nat.le_add_right _ _)
  | false =>
    show GoD.size (v ++ [((n, x, 0) : VersionD)]) ≤ _
    rw [size_app, size_one]
    have h1 : GoD.size ((n, x, 0) : VersionD) = 0 + (GoD.size x + 0) := rfl
    rw [h1]
    omega
end Go.Proofs.YtjkfmihbmkbjfaaGreat
