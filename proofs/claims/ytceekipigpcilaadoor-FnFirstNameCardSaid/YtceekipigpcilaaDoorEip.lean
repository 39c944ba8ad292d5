/- Where a file stands. -/
import Derived.Test.YtceekipigpcilaaDoorFna
set_option linter.unusedVariables false
set_option linter.unusedSimpArgs false
namespace Go.Proofs.YtceekipigpcilaaDoor
open Go.RowKit
theorem fat_go (n : Int) : ∀ (l : List FileD) (k : Nat), forL (slicesIndexFunc_File_implfileAt_1_f0 n) slicesIndexFunc_File_implfileAt_1_e0 l k () = .brk () ∨ ∃ i : Nat, i < l.length ∧ forL (slicesIndexFunc_File_implfileAt_1_f0 n) slicesIndexFunc_File_implfileAt_1_e0 l k () = .ret (((k + i : Nat)) : Int)
  | [], _ => .inl rfl
  | a :: l, k => by
    simp only [forL, slicesIndexFunc_File_implfileAt_1_f0]
    cases (implfileAt_1 a n) with
    | true => exact .inr ⟨0, by simp, rfl⟩
    | false =>
      simp only [cond_false]
      rcases fat_go n l (k + 1) with h | ⟨i, hi, h⟩
      · exact .inl h
      · exact .inr ⟨i + 1, by simpa using hi, by rw [h, show k + 1 + i = k + (i + 1) by omega]⟩
theorem fat_lt (s : StoreD) (n : Int) : -1 ≤ implfileAt s n ∧ implfileAt s n < (List.length s.2.1 : Int) := by
  unfold implfileAt slicesIndexFunc_File_implfileAt_1
  rcases fat_go n s.2.1 0 with h | ⟨i, hi, h⟩
  · rw [h]; simp only [Out.on]; omega
  · rw [h]; simp only [Out.on]; omega
end Go.Proofs.YtceekipigpcilaaDoor
