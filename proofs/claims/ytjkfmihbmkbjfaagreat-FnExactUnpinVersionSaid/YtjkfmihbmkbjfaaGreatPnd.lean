/- Pins: both sides alike; the size of what is handed back. -/
import Derived.Test.YtjkfmihbmkbjfaaGreatPnc
set_option linter.unusedVariables false
set_option linter.unusedSimpArgs false
namespace Go.Proofs.YtjkfmihbmkbjfaaGreat
open Go.RowKit
theorem pin_eq (v : List VersionD) (n : Int) : specPinVersion v n = implPinVersion v n := by
  unfold specPinVersion implPinVersion implpinned
  rw [versions_eq, l28Copy_id, copyVersions_id, vat_eq]
  cases hv : implAreValidVersions v with
  | false => rfl
  | true =>
    cases ha : decide (implversionAt v n < (0 : Int)) with
    | true => rfl
    | false =>
      have hp := vat_lt v n
      have h0 := of_decide_eq_false ha
      have hq := pins_ok hv (i := Int.toNat (implversionAt v n)) (by omega)
      generalize nth v (Int.toNat (implversionAt v n)) = x at hq ⊢
      have hw : IntKind.i64.wrap (x.2.2 + 1) = x.2.2 + 1 := IntWalk.i64_in _ (by omega)
      rw [hw]
      have hc : (!(implwithin (x.2.2 + 1) 0 99)) = decide (x.2.2 ≥ (99 : Int)) := by
        unfold implwithin
        rw [Bool.eq_iff_iff]; simp; omega
      rw [hc]
theorem unpin_eq (v : List VersionD) (n : Int) : specUnpinVersion v n = implUnpinVersion v n := by
  unfold specUnpinVersion implUnpinVersion implpinned
  rw [versions_eq, l28Copy_id, copyVersions_id, vat_eq]
  cases hv : implAreValidVersions v with
  | false => rfl
  | true =>
    cases ha : decide (implversionAt v n < (0 : Int)) with
    | true => rfl
    | false =>
      have hp := vat_lt v n
      have h0 := of_decide_eq_false ha
      have hq := pins_ok hv (i := Int.toNat (implversionAt v n)) (by omega)
      generalize nth v (Int.toNat (implversionAt v n)) = x at hq ⊢
      have hw : IntKind.i64.wrap (x.2.2 - 1) = x.2.2 - 1 := IntWalk.i64_in _ (by omega)
      rw [show x.2.2 + -1 = x.2.2 - 1 by omega, hw]
      have hc : (!(implwithin (x.2.2 - 1) 0 99)) = decide (x.2.2 ≤ (0 : Int)) := by
        unfold implwithin
        rw [Bool.eq_iff_iff]; simp; omega
      rw [hc]
theorem pinned_size (v : List VersionD) (n m : Int) : GoD.size (implpinned v n m).1 ≤ GoD.size v := by
  unfold implpinned
  rw [copyVersions_id]
  generalize (!(implAreValidVersions v) || (_ || _)) = c
  cases c with
  | true => exact Nat.le_refl _
  | false => exact size_set _ (Nat.le_refl _)
theorem pin_size (v : List VersionD) (n : Int) : GoD.size (implPinVersion v n).1 ≤ GoD.size v := pinned_size v n 1
theorem unpin_size (v : List VersionD) (n : Int) : GoD.size (implUnpinVersion v n).1 ≤ GoD.size v := pinned_size v n (-1)
end Go.Proofs.YtjkfmihbmkbjfaaGreat
