/- Copies of stores, directories, snapshots: nothing changes. -/
import Derived.Test.YtjkfmihbmkbjfaaGreatSna
import Derived.Test.YtjkfmihbmkbjfaaGreatFo
namespace Go.Proofs.YtjkfmihbmkbjfaaGreat
open Go.RowKit

theorem copyFiles_id (l : List FileD) : implcopyFiles l = l := by
  unfold implcopyFiles
  rw [forL_map (f := implcopyFiles_f0) (g := id) (fun _ _ _ => rfl), List.map_id]
  rfl
theorem copyDirs_id (d : List DirD) : implcopyDirs d = d := by
  unfold implcopyDirs
  rw [forL_map (f := implcopyDirs_f0) (g := id) (fun _ _ _ => rfl), List.map_id]
  rfl
theorem copyStore_id (s : StoreD) : implcopyStore s = s := by
  unfold implcopyStore
  rw [copyFiles_id]
theorem l05Copy_id (s : StoreD) : specl05Copy s = s := by
  unfold specl05Copy
  rw [forL_map (f := specl05Copy_f0 ) (g := id) (fun _ _ _ => rfl), List.map_id]
  rfl
theorem l11Copy_id (d : List DirD) : specl11Copy d = d := by
  unfold specl11Copy
  rw [forL_map (f := specl11Copy_f0) (g := id) (fun _ _ _ => rfl), List.map_id]
  rfl
theorem snapshot_eq (x : SystemD) : specSystemSnapshot x = implSystemSnapshot x := by
  unfold specSystemSnapshot implSystemSnapshot specl28State
  rw [l05Copy_id, l11Copy_id, copyStore_id, copyDirs_id]
theorem snapshot_size (x : SystemD) : GoD.size (implSystemSnapshot x) ≤ GoD.size x := by
  unfold implSystemSnapshot
  rw [copyStore_id, copyDirs_id]
  have h1 : GoD.size x = GoD.size x.1 + GoD.size x.2 := rfl
  have h2 : GoD.size x.1 = GoD.size x.1.1 + GoD.size x.1.2 := rfl
  have h3 : GoD.size x.1.2 = GoD.size x.1.2.1 + GoD.size x.1.2.2 := rfl
  show GoD.size x.1.1 + GoD.size x.1.2.1 ≤ GoD.size x
  omega
end Go.Proofs.YtjkfmihbmkbjfaaGreat
