/- Files that a query selects: both sides alike. -/
import Derived.Test.YtnhmnfmhnepjmaaGreatCkc
set_option linter.unusedVariables false
set_option linter.unusedSimpArgs false
namespace Go.Proofs.YtnhmnfmhnepjmaaGreat
open Go.RowKit
theorem cid_eq (l : List Int) (x : Int) : implContainsID l x = specContainsID l x := by
  unfold implContainsID slicesContains_int slicesIndex_int specContainsID
  have key : ∀ (l : List Int) (k : Nat), decide (((forL (slicesIndex_int_f0 x) slicesIndex_int_e0 l k ()).on fun _ => -1) ≥ 0) = ((forL (specContainsID_f0 x) specContainsID_e0 l k ()).on fun _ => false) := by
    intro l
    induction l with
    | nil => intro k; rfl
    | cons a l ih =>
      intro k
      by_cases h : x = a
      · subst h; simp [forL, slicesIndex_int_f0, specContainsID_f0, Out.on]
      · have e1 : (x == a) = false := beq_eq_false_iff_ne.2 h
        have e2 : (a == x) = false := beq_eq_false_iff_ne.2 (Ne.symm h)
        simp only [forL, slicesIndex_int_f0, specContainsID_f0, e1, e2, cond_false]
        exact ih (k + 1)
  exact key l 0
theorem rids_eq (r : List ResultD) (s : ByteArray) : implResultIDs r s = specResultIDs r s := rfl
theorem attr_eq (f : FileD) (s : ByteArray) : implGetAttr f s = specGetAttr f s := rfl
theorem vn_op {n : NodeD} {k : Int} (h : implIsValidNode n k = true) : n.1 = 1 ∨ n.1 = 2 ∨ n.1 = 3 ∨ n.1 = 4 ∨ n.1 = 5 ∨ n.1 = 6 ∨ n.1 = 7 ∨ n.1 = 8 ∨ n.1 = 9 := by
  refine Classical.byContradiction fun hn => ?_
  simp only [not_or] at hn
  obtain ⟨h1, h2, h3, h4, h5, h6, h7, h8, h9⟩ := hn
  unfold implIsValidNode at h
  simp only [beq_eq_false_iff_ne.2 h1, beq_eq_false_iff_ne.2 h2, beq_eq_false_iff_ne.2 h3, beq_eq_false_iff_ne.2 h4, beq_eq_false_iff_ne.2 h5, beq_eq_false_iff_ne.2 h6, beq_eq_false_iff_ne.2 h7, beq_eq_false_iff_ne.2 h8, beq_eq_false_iff_ne.2 h9, cond_false] at h
  cases h
theorem match_eq {q : List NodeD} (hv : implIsValidQuery q = true) (f : FileD) (r : List ResultD) : ∀ (n : Nat) (k : Int), 0 ≤ k → k < (q.length : Int) → implmatchesAt n q k f r = specl14Node n q k f r
  | 0, _, _, _ => rfl
  | n + 1, k, h0, h1 => by
    have hn := vq_node hv (nth_get (l := q) (i := Int.toNat k) (by omega))
    rw [Int.toNat_of_nonneg h0] at hn
    obtain ⟨hl, hr⟩ := vq_kids hv h0 h1
    unfold implmatchesAt specl14Node
    have ih := match_eq hv f r n
    unfold implIntAttr
    simp only [attr_eq, rids_eq, cid_eq]
    generalize nth q (Int.toNat k) = m at hn hl hr ⊢
    rcases vn_op hn with h | h | h | h | h | h | h | h | h
    · simp [h]
    · simp [h]
    · simp [h]
    · rw [h]
      cases hz : ((specGetAttr f m.2.2.2.1).1 == (1 : Int)) with
      | true => simp [bne, hz]
      | false => simp [bne, hz]
    · simp [h, ih _ (hl (by simp [h])).1 (by have := (hl (by simp [h])).2; omega)]
    · simp [h, ih _ (hl (by simp [h])).1 (by have := (hl (by simp [h])).2; omega), ih _ (hr (by simp [h])).1 (by have := (hr (by simp [h])).2; omega)]
    · simp [h, ih _ (hl (by simp [h])).1 (by have := (hl (by simp [h])).2; omega), ih _ (hr (by simp [h])).1 (by have := (hr (by simp [h])).2; omega)]
    · simp [h]
    · simp [h]
theorem matches_eq (q : List NodeD) (f : FileD) (r : List ResultD) : implMatches q f r = specMatches q f r := by
  unfold implMatches specMatches
  rw [← vq_eq]
  cases hv : implIsValidQuery q with
  | false => rfl
  | true => rw [match_eq hv f r _ _ (by have := vq_len hv; omega) (by omega)]
theorem select_eq (s : StoreD) (q : List NodeD) (r : List ResultD) : implSelectFiles s q r = specSelectFiles s q r := by
  unfold implSelectFiles specSelectFiles
  rw [forL_ext (f := implSelectFiles_f0 q r) (g := specSelectFiles_f0 q r) (e := implSelectFiles_e0) (e' := specSelectFiles_e0) (fun i a s => by
    unfold implSelectFiles_f0 specSelectFiles_f0
    rw [matches_eq]) (fun _ _ => rfl)]
end Go.Proofs.YtnhmnfmhnepjmaaGreat
