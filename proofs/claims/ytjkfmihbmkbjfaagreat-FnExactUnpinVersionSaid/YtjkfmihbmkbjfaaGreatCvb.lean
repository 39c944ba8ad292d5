/- Copies of stores, directories, snapshots, versions: nothing changes. -/
import Derived.Test.YtjkfmihbmkbjfaaGreatCva
import Derived.Test.YtjkfmihbmkbjfaaGreatZc
set_option linter.unusedVariables false
set_option linter.unusedSimpArgs false
namespace Go.Proofs.YtjkfmihbmkbjfaaGreat
open Go.RowKit
theorem copyFiles_id (l : List FileD) : implcopyFiles l = l := by
  unfold implcopyFiles
  rw [forL_map (f := implcopyFiles_f0) (g := id) (fun _ _ _ => rfl), List.map_id]
  rfl
theorem copyDirs_id (d : List DirD) : implcopyDirs d = d := by
  unfold implcopyDirs
  rw [forL_map (f := implcopyDirs_f0) (g := id) (fun _ _ _ => rfl), List.map_id]
  rfl
theorem copyStore_id (s : StoreD) : implcopyStore s = s := by
  unfold implcopyStore
  rw [copyFiles_id]
theorem l05Copy_id (s : StoreD) : specl05Copy s = s := by
  unfold specl05Copy
  rw [forL_map (f := specl05Copy_f0 ) (g := id) (fun _ _ _ => rfl), List.map_id]
  rfl
theorem l11Copy_id (d : List DirD) : specl11Copy d = d := by
  unfold specl11Copy
  rw [forL_map (f := specl11Copy_f0) (g := id) (fun _ _ _ => rfl), List.map_id]
  rfl
theorem copySnapshot_id (x : SnapshotD) : implcopySnapshot x = x := by
  unfold implcopySnapshot
  rw [copyStore_id, copyDirs_id]
theorem l28State_id (x : SnapshotD) : specl28State x = x := by
  unfold specl28State
  rw [l05Copy_id, l11Copy_id]
theorem copyVersions_id (v : List VersionD) : implcopyVersions v = v := by
  unfold implcopyVersions
  rw [forL_map (f := implcopyVersions_f0) (g := id) (fun _ a _ => by unfold implcopyVersions_f0; rw [copySnapshot_id]; rfl), List.map_id]
  rfl
theorem l28Copy_id (v : List VersionD) : specl28Copy v = v := by
  unfold specl28Copy
  rw [forL_map (f := specl28Copy_f0) (g := id) (fun _ a _ => by unfold specl28Copy_f0; rw [l28State_id]; rfl), List.map_id]
  rfl
theorem copyVersions_len (v : List VersionD) : (implcopyVersions v).length = v.length := by rw [copyVersions_id]
theorem l28Copy_len (v : List VersionD) : (specl28Copy v).length = v.length := by rw [l28Copy_id]
theorem size_app {α : Type} [GoD α] (l m : List α) : GoD.size (l ++ m) = GoD.size l + GoD.size m := by
  simp only [size_list, List.length_append, List.map_append, List.sum_append]
  omega
theorem size_one {α : Type} [GoD α] (a : α) : GoD.size [a] = 1 + GoD.size a := by simp [size_list]
end Go.Proofs.YtjkfmihbmkbjfaaGreat
