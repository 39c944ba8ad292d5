/- Nodes below a negation: both sides alike. -/
import Derived.Test.YtnhmnfmhnepjmaaGreatNga
set_option linter.unusedVariables false
set_option linter.unusedSimpArgs false
namespace Go.Proofs.YtnhmnfmhnepjmaaGreat
open Go.RowKit
theorem nth_set_ne {α : Type} [Inhabited α] {l : List α} {i j : Nat} (x : α) (h : j ≠ i) : nth (l.set j x) i = nth l i := by
  simp [nth, List.getD, List.getElem?_set_ne h]
theorem negated_f {q : List NodeD} (hv : implIsValidQuery q = true) {k : Nat} (hk : k < q.length) (s : List Bool) : implNegatedNodes_f0 q k s = specNegatedNodes_f0 q k s := by
  have hdn := dn_eq ((q.length : Int) - 1) k
  obtain ⟨hl, hr⟩ := vq_kids hv (k := dn ((q.length : Int) - 1) k) (by omega) (by omega)
  unfold implNegatedNodes_f0 specNegatedNodes_f0
  generalize hi : dn ((q.length : Int) - 1) k = i at hl hr ⊢
  generalize nth q (Int.toNat i) = n at hl hr ⊢
  by_cases h5 : n.1 = 5
  · simp [h5]
  by_cases h6 : n.1 = 6
  · have := hl (.inr (.inl h6))
    simp [h6]
    rw [nth_set_ne _ (by omega)]
  by_cases h7 : n.1 = 7
  · have := hl (.inr (.inr h7))
    simp [h7]
    rw [nth_set_ne _ (by omega)]
  simp only [beq_eq_false_iff_ne.2 h5, beq_eq_false_iff_ne.2 h6, beq_eq_false_iff_ne.2 h7, Bool.or_false, cond_false]
theorem negated_eq (q : List NodeD) : specNegatedNodes q = implNegatedNodes q := by
  unfold specNegatedNodes implNegatedNodes
  rw [← vq_eq]
  cases hv : implIsValidQuery q with
  | false => rfl
  | true =>
    simp only [Bool.not_true, cond_false]
    rw [forN_congr (f := specNegatedNodes_f0 q) (g := implNegatedNodes_f0 q) (e := specNegatedNodes_e0) (e' := implNegatedNodes_e0) (fun _ _ => rfl) _ _ _ fun i s _ hi => (negated_f hv (by omega) s).symm]
theorem negated_next (q : List NodeD) (k : Nat) (s : List Bool) : ∃ s', implNegatedNodes_f0 q k s = .next s' ∧ s'.length = s.length := by
  unfold implNegatedNodes_f0
  generalize ((nth q (Int.toNat (dn ((q.length : Int) - 1) k))).1 == (5 : Int)) = a
  generalize ((nth q (Int.toNat (dn ((q.length : Int) - 1) k))).1 == (6 : Int)) = b
  generalize ((nth q (Int.toNat (dn ((q.length : Int) - 1) k))).1 == (7 : Int)) = c
  cases a <;> cases b <;> cases c <;> exact ⟨_, rfl, by simp⟩
theorem negated_loop (q : List NodeD) : ∀ (n k : Nat) (s : List Bool), ∃ s', forN (implNegatedNodes_f0 q) implNegatedNodes_e0 n k s = .brk s' ∧ s'.length = s.length
  | 0, k, s => ⟨s, rfl, rfl⟩
  | n + 1, k, s => by
    obtain ⟨s1, h1, h2⟩ := negated_next q k s
    obtain ⟨s2, h3, h4⟩ := negated_loop q n (k + 1) s1
    refine ⟨s2, ?_, h4.trans h2⟩
    simp only [forN, h1]
    exact h3
theorem negated_len (q : List NodeD) : List.length (implNegatedNodes q) ≤ List.length q := by
  unfold implNegatedNodes
  cases implIsValidQuery q with
  | false => exact Nat.zero_le _
  | true =>
    obtain ⟨s, h1, h2⟩ := negated_loop q (List.length q) 0 (List.replicate (Int.toNat (q.length : Int)) false)
    simp only [Bool.not_true, cond_false, h1, Out.on]
    rw [h2]
    simp
theorem negated_lenS (q : List NodeD) : List.length (specNegatedNodes q) ≤ List.length q := by rw [negated_eq]; exact negated_len q
end Go.Proofs.YtnhmnfmhnepjmaaGreat
