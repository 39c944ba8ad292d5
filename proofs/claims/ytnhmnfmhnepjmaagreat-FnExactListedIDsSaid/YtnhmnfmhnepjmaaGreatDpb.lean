/- A text put into an ascending list: the reference's loop. -/
import Derived.Test.YtnhmnfmhnepjmaaGreatDpa
import Derived.Test.YtnhmnfmhnepjmaaGreatZd
import Derived.Test.YtnhmnfmhnepjmaaGreatZc
set_option linter.unusedVariables false
set_option linter.unusedSimpArgs false
namespace Go.Proofs.YtnhmnfmhnepjmaaGreat
open Go.RowKit
theorem toList_inj {a b : ByteArray} : (a.toList == b.toList) = decide (a = b) := by
  rw [ByteArray.toList_eq, ByteArray.toList_eq, Bool.eq_iff_iff]
  simp only [beq_iff_eq, decide_eq_true_eq]
  exact ⟨fun h => ByteArray.ext (Array.ext' h), fun h => h ▸ rfl⟩
def placeS (l : List ByteArray) (s : ByteArray) : Nat := (l.takeWhile fun x => bl x s).length
theorem placeS_cons (a : ByteArray) (l : List ByteArray) (s : ByteArray) : placeS (a :: l) s = if bl a s = true then placeS l s + 1 else 0 := by
  unfold placeS
  rw [List.takeWhile_cons]
  cases bl a s <;> simp
theorem place_loop (s : ByteArray) : ∀ (l : List ByteArray) (k : Nat), forL (specl04Put_f0 s) specl04Put_e0 l k () = .brk (((k + placeS l s : Nat)) : Int)
  | [], k => by simp [forL, specl04Put_e0, placeS]
  | a :: l, k => by
    rw [placeS_cons]
    simp only [forL, specl04Put_f0]
    cases h : Op.bytesLess a.toList s.toList with
    | true =>
      have h' : bl a s = true := h
      simp only [cond_true, h', if_true]
      rw [place_loop s l (k + 1), show k + 1 + placeS l s = k + (placeS l s + 1) by omega]
    | false =>
      have h' : bl a s = false := h
      simp [h']
theorem putS_eq (s : ByteArray) : ∀ l : List ByteArray, putS l s = bif (decide (((placeS l s : Nat) : Int) < (l.length : Int)) && ((nth l (placeS l s)).toList == s.toList)) then l else List.take (placeS l s) l ++ [s] ++ List.drop (placeS l s) l
  | [] => by simp [putS, placeS]
  | a :: l => by
    rw [placeS_cons, putS]
    cases h : bl a s with
    | true =>
      simp only [if_true]
      rw [putS_eq s l]
      have e : nth (a :: l) (placeS l s + 1) = nth l (placeS l s) := rfl
      rw [e, show decide ((((placeS l s + 1 : Nat)) : Int) < ((a :: l).length : Int)) = decide (((placeS l s : Nat) : Int) < (l.length : Int)) by
        rw [Bool.eq_iff_iff]; simp only [decide_eq_true_eq, List.length_cons]; omega]
      generalize (decide (((placeS l s : Nat) : Int) < (l.length : Int)) && ((nth l (placeS l s)).toList == s.toList)) = c
      cases c <;> simp
    | false =>
      have e : nth (a :: l) 0 = a := rfl
      simp only [Bool.false_eq_true, if_false]
      rw [e, toList_inj]
      by_cases hs : a = s
      · simp [hs]
      · simp [hs]
theorem l04Put_eq (l : List ByteArray) (s : ByteArray) : specl04Put l s = putS l s := by
  unfold specl04Put
  rw [place_loop, putS_eq]
  simp only [Out.on, Nat.zero_add, Int.toNat_natCast]
theorem put_len (l : List ByteArray) (s : ByteArray) : List.length (specl04Put l s) ≤ List.length l + 1 := by rw [l04Put_eq]; exact len_putS s l
end Go.Proofs.YtnhmnfmhnepjmaaGreat
