/- Integers put one by one, or sorted once: alike. -/
import Derived.Test.YtnhmnfmhnepjmaaGreatLid
import Derived.Test.YtnhmnfmhnepjmaaGreatRp
import Derived.Test.YtnhmnfmhnepjmaaGreatZc
set_option linter.unusedVariables false
set_option linter.unusedSimpArgs false
namespace Go.Proofs.YtnhmnfmhnepjmaaGreat
open Go.RowKit
theorem putI_loop (n : Int) : ∀ (l : List Int) (k : Nat), forL (specl07PutId_f0 n) specl07PutId_e0 l k () = .brk (((k + placeOf l n : Nat)) : Int)
  | [], k => by simp [forL, specl07PutId_e0, placeOf]
  | a :: l, k => by
    simp only [forL, specl07PutId_f0]
    by_cases h : a < n
    · have e : placeOf (a :: l) n = placeOf l n + 1 := by simp [placeOf, h]
      rw [decide_eq_true h, e]
      simp only [cond_true]
      rw [putI_loop n l (k + 1), show k + 1 + placeOf l n = k + (placeOf l n + 1) by omega]
    · have e : placeOf (a :: l) n = 0 := by simp [placeOf, h]
      rw [decide_eq_false h, e]
      rfl
theorem l07Put_eq (l : List Int) (n : Int) : specl07PutId l n = putId l n := by
  unfold specl07PutId
  rw [putI_loop, putId_eq]
  simp only [Out.on, Nat.zero_add, Int.toNat_natCast]
  by_cases h : l[placeOf l n]? = some n
  · obtain ⟨hlt, _⟩ := List.getElem?_eq_some_iff.1 h
    rw [if_pos h, decide_eq_true (by omega : ((placeOf l n : Nat) : Int) < (l.length : Int)), nth_of h]
    simp
  · rw [if_neg h]
    have hc : (decide (((placeOf l n : Nat) : Int) < (l.length : Int)) && (nth l (placeOf l n) == n)) = false := by
      by_cases hlt : placeOf l n < l.length
      · have : nth l (placeOf l n) ≠ n := fun e => h (by rw [nth_get hlt, e])
        rw [beq_eq_false_iff_ne.2 this, Bool.and_false]
      · rw [decide_eq_false (by omega), Bool.false_and]
    rw [hc, cond_false]
theorem putI_len (l : List Int) (n : Int) : List.length (specl07PutId l n) ≤ List.length l + 1 := by rw [l07Put_eq]; exact len_putId n l
theorem once_putI (l : List Int) : compI (sortI l) = putAll [] l := compact_sort l (putAll [] l) (asc_putAll l [] List.Pairwise.nil) fun x => by rw [mem_putAll]; simp
theorem putAll_app (l a b : List Int) : putAll l (a ++ b) = putAll (putAll l a) b := List.foldl_append
end Go.Proofs.YtnhmnfmhnepjmaaGreat
