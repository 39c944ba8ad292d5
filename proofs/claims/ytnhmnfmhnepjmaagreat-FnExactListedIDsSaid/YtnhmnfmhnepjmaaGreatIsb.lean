/- Valid stores: both sides alike. -/
import Derived.Test.YtnhmnfmhnepjmaaGreatIsa
set_option linter.unusedVariables false
set_option linter.unusedSimpArgs false
namespace Go.Proofs.YtnhmnfmhnepjmaaGreat
open Go.RowKit
theorem kind_eq (s : List FieldD) (n : ByteArray) : specFieldKind s n = implFieldKind s n := rfl
theorem matchSchema_eq (s : List FieldD) (n : ByteArray) (v : ValueD) : specMatchesSchema s n v = implMatchesSchema s n v := by
  unfold specMatchesSchema implMatchesSchema
  rw [vval_eq, kind_eq]
theorem schema_eq (s : List FieldD) : specIsValidSchema s = implIsValidSchema s := by
  unfold specIsValidSchema implIsValidSchema
  rw [forL_ext (f := specIsValidSchema_f0 s) (g := implIsValidSchema_f0 s) (e := specIsValidSchema_e0) (e' := implIsValidSchema_e0) (fun k a u => by
    unfold specIsValidSchema_f0 implIsValidSchema_f0
    rw [vname_eq]
    have h : (!(specl01In a.2 1 2)) = ((a.2 != 1) && (a.2 != 2)) := by
      unfold specl01In
      rw [Bool.eq_iff_iff]; simp; omega
    rw [h]
    generalize (!(Op.bytesLess ((nth s (Int.toNat (((k : Nat) : Int) - 1))).1).toList a.1.toList)) = x
    cases specIsValidAttrName a.1 <;> cases (a.2 != (1 : Int)) <;> cases (a.2 != (2 : Int)) <;> cases decide (((k : Nat) : Int) > (0 : Int)) <;> cases x <;> rfl) (fun _ _ => rfl)]
theorem file_eq (s : List FieldD) (f : FileD) : specIsValidFile s f = implIsValidFile s f := by
  unfold specIsValidFile implIsValidFile
  rw [forL_ext (f := specIsValidFile_f0 s f) (g := implIsValidFile_f0 s f) (e := specIsValidFile_e0) (e' := implIsValidFile_e0) (fun k a u => by
    unfold specIsValidFile_f0 implIsValidFile_f0
    rw [matchSchema_eq]
    generalize (!(Op.bytesLess ((nth f.2.2.2.2 (Int.toNat (((k : Nat) : Int) - 1))).1).toList a.1.toList)) = x
    cases implMatchesSchema s a.1 a.2 <;> cases decide (((k : Nat) : Int) > (0 : Int)) <;> cases x <;> rfl) (fun _ _ => rfl), schema_eq]
  congr 1
  funext y
  unfold implisUser
  simp only [← within_in]
  cases implIsValidSchema s <;> cases implwithin f.1 1 60 <;> cases implwithin f.2.1 0 2 <;> cases implwithin f.2.2.2.1 0 60 <;> rfl
theorem store_eq (s : StoreD) : specIsValidStore s = implIsValidStore s := by
  unfold specIsValidStore implIsValidStore
  rw [forL_ext (f := specIsValidStore_f0 s) (g := implIsValidStore_f0 s) (e := specIsValidStore_e0) (e' := implIsValidStore_e0) (fun k a u => by
    unfold specIsValidStore_f0 implIsValidStore_f0
    rw [file_eq]) (fun _ _ => rfl), schema_eq]
  rfl
end Go.Proofs.YtnhmnfmhnepjmaaGreat
