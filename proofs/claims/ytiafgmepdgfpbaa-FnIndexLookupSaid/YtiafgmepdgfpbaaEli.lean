/- Equality of rows, element by element; texts are equal if their bytes are. No program in sight. -/
import Derived.Test.YtiafgmepdgfpbaaZc
set_option linter.unusedVariables false
set_option linter.unusedSimpArgs false
namespace Go.Proofs.Ytiafgmepdgfpbaa
open Go.RowKit
theorem eqE_go {α : Type} [Inhabited α] {p : α → α → Bool} {f : Nat → α → Unit → Rd Bool Unit Unit} {e : Nat → Unit → Unit} {b : List α} (hf : ∀ k a, f k a () = (bif !(p a (nth b k)) then .ret false else .next ())) :
    ∀ (l : List α) (k : Nat), Out.on (forL f e l k ()) (fun _ => true) = true ↔ ∀ (i : Nat) (a : α), l[i]? = some a → p a (nth b (k + i)) = true
  | [], k => by simp [forL, Out.on]
  | x :: l, k => by
    simp only [forL, hf]
    cases hp : p x (nth b k) with
    | false =>
      simp only [Bool.not_false, cond_true, Out.on]
      refine ⟨fun h => (by cases h), fun h => ?_⟩
      have := h 0 x rfl
      rw [Nat.add_zero, hp] at this
      exact this
    | true =>
      simp only [Bool.not_true, cond_false]
      rw [eqE_go hf l (k + 1)]
      refine ⟨fun h i a hi => ?_, fun h i a hi => ?_⟩
      · cases i with
        | zero => have hi : x = a := by simpa using hi
                  subst hi; exact hp
        | succ i => have := h i a (by simpa using hi)
                    rw [show k + (i + 1) = k + 1 + i by omega]; exact this
      · have := h (i + 1) a (by simpa using hi)
        rw [show k + 1 + i = k + (i + 1) by omega]; exact this
theorem eqE_iff {α : Type} [Inhabited α] {p : α → α → Bool} (hp : ∀ a b, p a b = true ↔ a = b) {f : Nat → α → Unit → Rd Bool Unit Unit} {e : Nat → Unit → Unit} {l b : List α} (hf : ∀ k a, f k a () = (bif !(p a (nth b k)) then .ret false else .next ())) :
    (bif ((l.length : Int) != (b.length : Int)) then false else Out.on (forL f e l 0 ()) (fun _ => true)) = true ↔ l = b := by
  by_cases hl : l.length = b.length
  · have hn : ((l.length : Int) != (b.length : Int)) = false := by simp [hl]
    rw [hn, cond_false, eqE_go hf]
    refine ⟨fun h => List.ext_getElem? fun i => ?_, fun h i a hi => ?_⟩
    · by_cases hi : i < l.length
      · rw [nth_get hi, nth_get (by omega : i < b.length)]
        have := h i _ (nth_get hi)
        rw [Nat.zero_add] at this
        rw [(hp _ _).1 this]
      · rw [List.getElem?_eq_none (by omega), List.getElem?_eq_none (by omega)]
    · subst h
      rw [Nat.zero_add, nth_of hi]
      exact (hp _ _).2 rfl
  · have hn : ((l.length : Int) != (b.length : Int)) = true := by simpa using fun e : (l.length : Int) = (b.length : Int) => hl (by omega)
    rw [hn, cond_true]
    exact ⟨fun h => (by cases h), fun h => (hl (congrArg List.length h)).elim⟩
theorem bytesE (a b : ByteArray) : (a.toList == b.toList) = true ↔ a = b := by
  rw [ByteArray.toList_eq, ByteArray.toList_eq, beq_iff_eq]
  exact ⟨fun h => ByteArray.ext (Array.ext' h), fun h => h ▸ rfl⟩
end Go.Proofs.Ytiafgmepdgfpbaa
