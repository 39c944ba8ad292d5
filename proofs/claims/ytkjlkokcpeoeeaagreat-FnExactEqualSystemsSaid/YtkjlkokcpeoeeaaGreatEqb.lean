/- Equality of systems: both sides alike. -/
import Derived.Test.YtkjlkokcpeoeeaaGreatEqa
import Derived.Test.YtkjlkokcpeoeeaaGreatFo
namespace Go.Proofs.YtkjlkokcpeoeeaaGreat
open Go.RowKit

theorem eqi_eq (a b : List Int) : slicesEqual_int a b = specl07Ints a b := rfl
theorem nor_bif (p X Y : Bool) : (bif (!p || X) then false else Y) = (p && (bif X then false else Y)) := by cases p <;> rfl
theorem files_eq (a b : FileD) : specEqualFiles a b = implEqualFiles a b := by
  unfold specEqualFiles implEqualFiles
  simp only [bne, nor_bif]
  rfl
theorem fields_eq (a b : List FieldD) : specl05Fields a b = slicesEqual_Field a b := rfl
theorem stores_eq (a b : StoreD) : specEqualStores a b = implEqualStores a b := by
  unfold specEqualStores implEqualStores slicesEqualFunc_File_implEqualFiles
  rw [forL_ext (f := specEqualStores_f0 b) (g := slicesEqualFunc_File_implEqualFiles_f0 b.2.1) (e := specEqualStores_e0) (e' := slicesEqualFunc_File_implEqualFiles_e0) (fun k x s => by
    unfold specEqualStores_f0 slicesEqualFunc_File_implEqualFiles_f0
    rw [files_eq]) (fun _ _ => rfl), fields_eq]
  simp only [bne, nor_bif]
  ac_rfl
theorem queries_eq (a b : List NodeD) : specEqualQueries a b = implEqualQueries a b := rfl
theorem dirs_eq (a b : List DirD) : specEqualDirs a b = implEqualDirs a b := by
  unfold specEqualDirs implEqualDirs slicesEqualFunc_Dir_implEqualDirs_1
  rw [forL_ext (f := specEqualDirs_f0 b) (g := slicesEqualFunc_Dir_implEqualDirs_1_f0 b) (e := specEqualDirs_e0) (e' := slicesEqualFunc_Dir_implEqualDirs_1_e0) (fun k x s => by
    unfold specEqualDirs_f0 slicesEqualFunc_Dir_implEqualDirs_1_f0 implEqualDirs_1
    rw [queries_eq, Bool.not_and]) (fun _ _ => rfl)]
theorem eqResults_eq (a b : List ResultD) : specEqualResults a b = implEqualResults a b := by
  unfold specEqualResults implEqualResults slicesEqualFunc_Result_implEqualResults_1
  rw [forL_ext (f := specEqualResults_f0 b) (g := slicesEqualFunc_Result_implEqualResults_1_f0 b) (e := specEqualResults_e0) (e' := slicesEqualFunc_Result_implEqualResults_1_e0) (fun k x s => by
    unfold specEqualResults_f0 slicesEqualFunc_Result_implEqualResults_1_f0 implEqualResults_1
    rw [← eqi_eq, Bool.not_and]) (fun _ _ => rfl)]
theorem catalogs_eq (a b : CatalogD) : specEqualCatalogs a b = implEqualCatalogs a b := by
  unfold specEqualCatalogs implEqualCatalogs
  rw [stores_eq, dirs_eq, eqResults_eq]
theorem snapshots_eq (a b : SnapshotD) : specEqualSnapshots a b = implEqualSnapshots a b := by
  unfold specEqualSnapshots implEqualSnapshots
  rw [stores_eq, dirs_eq]
theorem versions_eq (a b : List VersionD) : specEqualVersions a b = implEqualVersions a b := by
  unfold specEqualVersions implEqualVersions slicesEqualFunc_Version_implEqualVersions_1
  rw [forL_ext (f := specEqualVersions_f0 b) (g := slicesEqualFunc_Version_implEqualVersions_1_f0 b) (e := specEqualVersions_e0) (e' := slicesEqualFunc_Version_implEqualVersions_1_e0) (fun k x s => by
    unfold specEqualVersions_f0 slicesEqualFunc_Version_implEqualVersions_1_f0 implEqualVersions_1
    rw [snapshots_eq]
    simp only [bne, Bool.not_and]) (fun _ _ => rfl)]
theorem watch_eq (a b : WatchD) : specl29Same a b = implequalWatches a b := by
  unfold specl29Same implequalWatches slicesEqualFunc_Event_implequalWatches_1
  rw [forL_ext (f := specl29Same_f0 b) (g := slicesEqualFunc_Event_implequalWatches_1_f0 b.2.2.2) (e := specl29Same_e0) (e' := slicesEqualFunc_Event_implequalWatches_1_e0) (fun k x s => by
    unfold specl29Same_f0 slicesEqualFunc_Event_implequalWatches_1_f0 implequalWatches_1
    rw [← eqi_eq, ← eqi_eq]
    simp only [bne, Bool.not_and]) (fun _ _ => rfl), ← eqi_eq]
  simp only [bne, nor_bif]
theorem systems_eq (a b : SystemD) : specEqualSystems a b = implEqualSystems a b := by
  unfold specEqualSystems implEqualSystems slicesEqualFunc_Watch_implequalWatches
  rw [forL_ext (f := specEqualSystems_f0 b) (g := slicesEqualFunc_Watch_implequalWatches_f0 b.2.2.2.2.1) (e := specEqualSystems_e0) (e' := slicesEqualFunc_Watch_implequalWatches_e0) (fun k x s => by
    unfold specEqualSystems_f0 slicesEqualFunc_Watch_implequalWatches_f0
    rw [watch_eq]) (fun _ _ => rfl), catalogs_eq, versions_eq, ← eqi_eq]
  simp only [bne, nor_bif]
  ac_rfl
end Go.Proofs.YtkjlkokcpeoeeaaGreat
