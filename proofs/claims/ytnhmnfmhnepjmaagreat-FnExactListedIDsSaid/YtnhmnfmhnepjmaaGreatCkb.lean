/- Valid queries: both sides alike; what a valid query says of its nodes. -/
import Derived.Test.YtnhmnfmhnepjmaaGreatCka
import Derived.Test.YtnhmnfmhnepjmaaGreatZc
set_option linter.unusedVariables false
set_option linter.unusedSimpArgs false
namespace Go.Proofs.YtnhmnfmhnepjmaaGreat
open Go.RowKit
theorem within_in (a b c : Int) : implwithin a b c = specl01In a b c := rfl
theorem within_iff {a b c : Int} : implwithin a b c = true ↔ b ≤ a ∧ a ≤ c := by simp [implwithin]
theorem l01In_iff {a b c : Int} : specl01In a b c = true ↔ b ≤ a ∧ a ≤ c := by simp [specl01In]
theorem vstr_eq (s : ByteArray) : implIsValidString s = specIsValidString s := rfl
theorem vname_eq (s : ByteArray) : implIsValidAttrName s = specIsValidAttrName s := by
  unfold implIsValidAttrName specIsValidAttrName specl02Text
  by_cases h : s.size = 1
  · simp only [h, Int.toNat_natCast, forN, specl02Text_f0]
    by_cases h1 : strAt s 0 < 97 <;> by_cases h2 : strAt s 0 > 122 <;> simp [h1, h2, Out.on, specl01In, specl02Text_e0] <;> omega
  · have h1 : ((s.size : Int) == 1) = false := by simpa using fun e : (s.size : Int) = 1 => h (by omega)
    have h2 : specl01In (s.size : Int) 1 1 = false := by simp [specl01In]; omega
    rw [h1, h2, Bool.false_and]
    cases hf : forN (specl02Text_f0 s) specl02Text_e0 (Int.toNat (s.size : Int)) 0 () with
    | brk t => rfl
    | ret r =>
      have key : ∀ n k, ∀ r, forN (specl02Text_f0 s) specl02Text_e0 n k () = .ret r → r = false := by
        intro n
        induction n with
        | zero => intro k r h; simp [forN] at h
        | succ n ih =>
          intro k r h
          simp only [forN, specl02Text_f0] at h
          cases hc : (decide (strAt s ((k : Nat) : Int) < (97 : Int)) || decide (strAt s ((k : Nat) : Int) > (122 : Int))) with
          | true => rw [hc] at h; simp only [cond_true] at h; cases h; rfl
          | false => rw [hc] at h; exact ih _ _ h
      exact (key _ _ _ hf).symm
theorem vval_eq (v : ValueD) : implIsValidValue v = specIsValidValue v := rfl
theorem vnode_eq (n : NodeD) (k : Int) : implIsValidNode n k = specIsValidNode n k := by
  unfold implIsValidNode specIsValidNode
  rw [vname_eq, vval_eq, vstr_eq]
  simp only [within_in]
  by_cases h1 : n.1 = 1
  · simp [h1]
  by_cases h2 : n.1 = 2
  · simp [h1, h2, Bool.and_comm]
  by_cases h3 : n.1 = 3
  · simp [h1, h2, h3]; ac_rfl
  by_cases h4 : n.1 = 4
  · simp [h1, h2, h3, h4]; cases h : (n.2.2.2.2.1 == 1) <;> simp_all <;> ac_rfl
  by_cases h5 : n.1 = 5
  · simp [h1, h2, h3, h4, h5]; ac_rfl
  by_cases h6 : n.1 = 6
  · simp [h1, h2, h3, h4, h5, h6]; ac_rfl
  by_cases h7 : n.1 = 7
  · simp [h1, h2, h3, h4, h5, h6, h7]; ac_rfl
  by_cases h8 : n.1 = 8
  · simp [h1, h2, h3, h4, h5, h6, h7, h8, Bool.and_comm]
  by_cases h9 : n.1 = 9
  · simp [h1, h2, h3, h4, h5, h6, h7, h8, h9, Bool.and_comm]
  simp only [beq_eq_false_iff_ne.2 h1, beq_eq_false_iff_ne.2 h2, beq_eq_false_iff_ne.2 h3, beq_eq_false_iff_ne.2 h4, beq_eq_false_iff_ne.2 h5, beq_eq_false_iff_ne.2 h6, beq_eq_false_iff_ne.2 h7, beq_eq_false_iff_ne.2 h8, beq_eq_false_iff_ne.2 h9, cond_false]
theorem refs_eq (q : List NodeD) (k : Int) : implCountReferences q k = specCountReferences q k := by
  unfold implCountReferences specCountReferences
  rw [forL_ext (f := implCountReferences_f0 k) (g := specCountReferences_f0 k) (e := implCountReferences_e0) (e' := specCountReferences_e0) (fun i a s => by
    unfold implCountReferences_f0 specCountReferences_f0
    cases (a.2.1 == k) <;> cases (a.2.2.1 == k) <;> cases (a.1 == 6) <;> cases (a.1 == 7) <;> cases (a.1 == 5) <;> rfl) (fun _ _ => rfl)]
theorem vq_eq (q : List NodeD) : implIsValidQuery q = specIsValidQuery q := by
  unfold implIsValidQuery specIsValidQuery
  rw [forL_ext (f := implIsValidQuery_f0 q) (g := specIsValidQuery_f0 q) (e := implIsValidQuery_e0) (e' := specIsValidQuery_e0) (fun i a s => by
    unfold implIsValidQuery_f0 specIsValidQuery_f0
    rw [vnode_eq, refs_eq]) (fun _ _ => rfl)]
  rfl
theorem vq_spec {q : List NodeD} (h : specIsValidQuery q = true) : implIsValidQuery q = true := (vq_eq q).trans h
theorem vq_run {q : List NodeD} (h : implIsValidQuery q = true) : (∃ t, forL (implIsValidQuery_f0 q) implIsValidQuery_e0 q 0 () = .brk t) ∧ implwithin (q.length : Int) 1 9 = true := by
  unfold implIsValidQuery at h
  cases hf : forL (implIsValidQuery_f0 q) implIsValidQuery_e0 q 0 () with
  | brk t => rw [hf] at h; exact ⟨⟨t, rfl⟩, h⟩
  | ret r =>
    rw [hf] at h
    obtain rfl : r = true := h
    exfalso
    have key : ∀ (l : List NodeD) k, forL (implIsValidQuery_f0 q) implIsValidQuery_e0 l k () ≠ .ret true := by
      intro l
      induction l with
      | nil => intro k h; simp [forL] at h
      | cons a l ih =>
        intro k h
        simp only [forL] at h
        unfold implIsValidQuery_f0 at h
        split at h
        · rename_i hf; exact ih _ h
        · cases h
        · rename_i r hf; cases h; revert hf; generalize (_ || _ : Bool) = c; cases c <;> simp
    exact key _ _ hf
theorem vq_len {q : List NodeD} (h : implIsValidQuery q = true) : 1 ≤ q.length ∧ q.length ≤ 9 := by
  have := within_iff.1 (vq_run h).2
  omega
theorem vq_node {q : List NodeD} (h : implIsValidQuery q = true) {i : Nat} {n : NodeD} (hi : q[i]? = some n) : implIsValidNode n (i : Int) = true := by
  obtain ⟨⟨t, ht⟩, _⟩ := vq_run h
  have := forL_all (fun k a t => by unfold implIsValidQuery_f0; generalize (_ || _ : Bool) = c; cases c <;> simp) ht i n hi
  unfold implIsValidQuery_f0 at this
  rw [Nat.zero_add] at this
  cases hn : implIsValidNode n (i : Int) with
  | true => rfl
  | false => rw [hn] at this; simp at this
theorem vn_kids {n : NodeD} {k : Int} (h : implIsValidNode n k = true) (hk : 0 ≤ k ∧ k < 4611686018427387904) : (n.1 = 5 ∨ n.1 = 6 ∨ n.1 = 7 → 0 ≤ n.2.1 ∧ n.2.1 < k) ∧ (n.1 = 6 ∨ n.1 = 7 → 0 ≤ n.2.2.1 ∧ n.2.2.1 < k) := by
  have hw : IntKind.i64.wrap (k - 1) = k - 1 := IntWalk.i64_in _ (by omega)
  unfold implIsValidNode at h
  rw [hw] at h
  refine ⟨fun h5 => ?_, fun h5 => ?_⟩
  · rcases h5 with h5 | h5 | h5 <;> (simp [h5, implwithin] at h; omega)
  · rcases h5 with h5 | h5 <;> (simp [h5, implwithin] at h; omega)
theorem vq_kids {q : List NodeD} (h : implIsValidQuery q = true) {k : Int} (ha : 0 ≤ k) (hb : k < (q.length : Int)) :
    ((nth q (Int.toNat k)).1 = 5 ∨ (nth q (Int.toNat k)).1 = 6 ∨ (nth q (Int.toNat k)).1 = 7 → 0 ≤ (nth q (Int.toNat k)).2.1 ∧ (nth q (Int.toNat k)).2.1 < k) ∧ ((nth q (Int.toNat k)).1 = 6 ∨ (nth q (Int.toNat k)).1 = 7 → 0 ≤ (nth q (Int.toNat k)).2.2.1 ∧ (nth q (Int.toNat k)).2.2.1 < k) := by
  have hi : q[Int.toNat k]? = some (nth q (Int.toNat k)) := nth_get (by omega)
  have := vq_node h hi
  rw [Int.toNat_of_nonneg ha] at this
  exact vn_kids this ⟨ha, by have := (vq_len h).2; omega⟩
section
variable {q : List NodeD} {k : Int} (h : implIsValidQuery q = true) (ha : 0 ≤ k) (hb : k < (q.length : Int))
include h ha hb
theorem ql_a (h5 : ((nth q (Int.toNat k)).1 == (5 : Int)) = true) : 0 ≤ (nth q (Int.toNat k)).2.1 ∧ (nth q (Int.toNat k)).2.1 < k := (vq_kids h ha hb).1 (.inl (eq_of_beq h5))
theorem ql_b (h5 : ((nth q (Int.toNat k)).1 == (6 : Int)) = true) : 0 ≤ (nth q (Int.toNat k)).2.1 ∧ (nth q (Int.toNat k)).2.1 < k := (vq_kids h ha hb).1 (.inr (.inl (eq_of_beq h5)))
theorem ql_c (h5 : ((nth q (Int.toNat k)).1 == (7 : Int)) = true) : 0 ≤ (nth q (Int.toNat k)).2.1 ∧ (nth q (Int.toNat k)).2.1 < k := (vq_kids h ha hb).1 (.inr (.inr (eq_of_beq h5)))
theorem qr_b (h5 : ((nth q (Int.toNat k)).1 == (6 : Int)) = true) : 0 ≤ (nth q (Int.toNat k)).2.2.1 ∧ (nth q (Int.toNat k)).2.2.1 < k := (vq_kids h ha hb).2 (.inl (eq_of_beq h5))
theorem qr_c (h5 : ((nth q (Int.toNat k)).1 == (7 : Int)) = true) : 0 ≤ (nth q (Int.toNat k)).2.2.1 ∧ (nth q (Int.toNat k)).2.2.1 < k := (vq_kids h ha hb).2 (.inr (eq_of_beq h5))
theorem qlr_bc (h5 : (((nth q (Int.toNat k)).1 == (6 : Int)) || ((nth q (Int.toNat k)).1 == (7 : Int))) = true) : (0 ≤ (nth q (Int.toNat k)).2.1 ∧ (nth q (Int.toNat k)).2.1 < k) ∧ (0 ≤ (nth q (Int.toNat k)).2.2.1 ∧ (nth q (Int.toNat k)).2.2.1 < k) := by
  have h6 : (nth q (Int.toNat k)).1 = 6 ∨ (nth q (Int.toNat k)).1 = 7 := by simpa using h5
  exact ⟨(vq_kids h ha hb).1 (.inr h6), (vq_kids h ha hb).2 h6⟩
end
end Go.Proofs.YtnhmnfmhnepjmaaGreat
