/- Indexes built and compared, alike on both sides. -/
import Derived.Test.YtiafgmepdgfpbaaAib
import Derived.Test.YtiafgmepdgfpbaaEli
set_option linter.unusedVariables false
set_option linter.unusedSimpArgs false
namespace Go.Proofs.Ytiafgmepdgfpbaa
open Go.RowKit
theorem buildIx_eq (s : StoreD) : specBuildIndex s = implBuildIndex s := by
  unfold specBuildIndex implBuildIndex
  rw [forL_ext (f := specBuildIndex_f0) (g := implBuildIndex_f0) (e := specBuildIndex_e0) (e' := implBuildIndex_e0) (fun k a s => by unfold specBuildIndex_f0 implBuildIndex_f0; rw [addIx_eq]) (fun _ _ => rfl)]
theorem intsE (a b : List Int) : slicesEqual_int a b = true ↔ a = b := eqE_iff (p := fun a b : Int => a == b) (fun a b => beq_iff_eq) (f := slicesEqual_int_f0 b) (e := slicesEqual_int_e0) fun k a => by
  unfold slicesEqual_int_f0
  cases h : (a == nth b k) <;> simp [bne, h]
theorem intsS (a b : List Int) : specl07Ints a b = true ↔ a = b := eqE_iff (p := fun a b : Int => a == b) (fun a b => beq_iff_eq) (f := specl07Ints_f0 b) (e := specl07Ints_e0) fun k a => by
  unfold specl07Ints_f0
  cases h : (a == nth b k) <;> simp [bne, h]
theorem valE (a b : ValueD) : ((a.1 == b.1) && ((a.2.1 == b.2.1) && ((a.2.2.toList == b.2.2.toList) && true))) = true ↔ a = b := by
  simp only [Bool.and_eq_true, beq_iff_eq, Bool.and_true]
  rw [← beq_iff_eq (a := a.2.2.toList), bytesE]
  obtain ⟨a1, a2, a3⟩ := a
  obtain ⟨b1, b2, b3⟩ := b
  exact ⟨fun ⟨h1, h2, h3⟩ => by simp only at h1 h2 h3; rw [h1, h2, h3], fun h => by cases h; exact ⟨rfl, rfl, rfl⟩⟩
theorem postE (a b : PostingD) : implEqualIndexes_1 a b = true ↔ a = b := by
  unfold implEqualIndexes_1
  rw [Bool.and_eq_true, Bool.and_eq_true, bytesE, valE, intsE]
  obtain ⟨a1, a2, a3⟩ := a
  obtain ⟨b1, b2, b3⟩ := b
  exact ⟨fun ⟨h1, h2, h3⟩ => by simp only at h1 h2 h3; rw [h1, h2, h3], fun h => by cases h; exact ⟨rfl, rfl, rfl⟩⟩
theorem equalIx (a b : List PostingD) : implEqualIndexes a b = true ↔ a = b := eqE_iff (p := implEqualIndexes_1) postE (f := slicesEqualFunc_Posting_implEqualIndexes_1_f0 b) (e := slicesEqualFunc_Posting_implEqualIndexes_1_e0) fun k a => rfl
theorem equalIxS (a b : List PostingD) : specEqualIndexes a b = true ↔ a = b := eqE_iff (p := fun a b => (a.1.toList == b.1.toList) && (((a.2.1.1 == b.2.1.1) && ((a.2.1.2.1 == b.2.1.2.1) && ((a.2.1.2.2.toList == b.2.1.2.2.toList) && true))) && specl07Ints a.2.2 b.2.2)) (fun a b => by
    rw [Bool.and_eq_true, Bool.and_eq_true, bytesE, valE, intsS]
    obtain ⟨a1, a2, a3⟩ := a
    obtain ⟨b1, b2, b3⟩ := b
    exact ⟨fun ⟨h1, h2, h3⟩ => by simp only at h1 h2 h3; rw [h1, h2, h3], fun h => by cases h; exact ⟨rfl, rfl, rfl⟩⟩) (f := specEqualIndexes_f0 b) (e := specEqualIndexes_e0) fun k a => by
  unfold specEqualIndexes_f0
  generalize (a.1.toList == ((nth b k).1).toList) = c1
  generalize ((a.2.1.1 == (nth b k).2.1.1) && ((a.2.1.2.1 == (nth b k).2.1.2.1) && ((a.2.1.2.2.toList == ((nth b k).2.1.2.2).toList) && true))) = c2
  generalize specl07Ints a.2.2 ((nth b k).2.2) = c3
  cases c1 <;> cases c2 <;> cases c3 <;> rfl
theorem checkIx_eq (s : StoreD) (ix : List PostingD) : specCheckIndex s ix = implCheckIndex s ix := by
  unfold specCheckIndex implCheckIndex
  rw [buildIx_eq, Bool.eq_iff_iff, equalIx, equalIxS]
  exact eq_comm
end Go.Proofs.Ytiafgmepdgfpbaa
