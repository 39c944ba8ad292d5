/- Sort and Compact, as contracts of the machine that turn a row. -/
import Derived.Test.YtnhmnfmhnepjmaaGreatZd
import Derived.Test.YtnhmnfmhnepjmaaGreatSh
import Derived.KernelRfl
set_option linter.unusedVariables false
set_option linter.unusedSimpArgs false
namespace Go.Proofs.YtnhmnfmhnepjmaaGreat
open Go.RowKit
theorem sortI_a (l : List Int) : ATake Tryz.prog 43 1 (eL l) [] false true (eL (sortI l)) := by
  have h := atake_turn oneI (P := Tryz.prog) (f := 43) (by unfold FnOk; kernel_rfl) (fun l => l.mergeSort fun x y => decide (x ≤ y)) (fun l => List.length_mergeSort _) (fun l x h => (List.mergeSort_perm l _).mem_iff.1 h) (fun oa cap w => Sh.slices_Sort_int_none oa cap w) (fun g cap l w h h2 h3 => Sh.slices_Sort_int g 0 cap l w h h2 h3) l
  simpa [oneI, sortI, compI] using h
theorem compI_a (l : List Int) : ATake Tryz.prog 44 1 (eL l) [] false false (eL (compI l)) := by
  have h := atake_take oneI (P := Tryz.prog) (f := 44) (by unfold FnOk; kernel_rfl) Lib.compact comp_len comp_mem (fun oa cap w => Sh.slices_Compact_int_empty oa cap w) (fun g cap l w h h2 h3 => (Sh.slices_Compact_int g 0 cap l w h h2 h3).mono (by rintro e w' ⟨h4, q, h5⟩; exact ⟨h4, q, _, by have := comp_len l; simp; omega, h5⟩)) l
  simpa [oneI, sortI, compI] using h
theorem sortS_a (l : List ByteArray) : ATake Tryz.prog 236 1 (eL l) [] false true (eL (sortS l)) := by
  have h := atake_turn oneS (P := Tryz.prog) (f := 236) (by unfold FnOk; kernel_rfl) (fun l => l.mergeSort fun x y => decide (x ≤ y)) (fun l => List.length_mergeSort _) (fun l x h => (List.mergeSort_perm l _).mem_iff.1 h) (fun oa cap w => Sh.slices_Sort_string_none oa cap w) (fun g cap l w h h2 h3 => Sh.slices_Sort_string g 0 cap l w h h2 h3) l
  exact h
theorem compS_a (l : List ByteArray) : ATake Tryz.prog 237 1 (eL l) [] false false (eL (compS l)) := by
  have h := atake_take oneS (P := Tryz.prog) (f := 237) (by unfold FnOk; kernel_rfl) Lib.compact comp_len comp_mem (fun oa cap w => Sh.slices_Compact_string_empty oa cap w) (fun g cap l w h h2 h3 => (Sh.slices_Compact_string g 0 cap l w h h2 h3).mono (by rintro e w' ⟨h4, q, h5⟩; exact ⟨h4, q, _, by have := comp_len l; simp; omega, h5⟩)) l
  exact h
end Go.Proofs.YtnhmnfmhnepjmaaGreat
