/- Bounds of an index: how many postings, how many IDs in each. No program in sight but the types. -/
import Derived.Test.YtiafgmepdgfpbaaIns
import Derived.Test.YtiafgmepdgfpbaaDf
import Derived.Test.YtiafgmepdgfpbaaTy
set_option linter.unusedVariables false
set_option linter.unusedSimpArgs false
namespace Go.Proofs.Ytiafgmepdgfpbaa
open Go.RowKit
def IxB (K : Nat) (l : List PostingD) : Prop := l.length ≤ K ∧ ∀ p, p ∈ l → p.2.2.length ≤ K
theorem ixb_set {K : Nat} {l : List PostingD} {i : Nat} {a : ByteArray} {b : ValueD} {ids : List Int} (h3 : l.length ≤ K + 1) (h4 : ∀ p, p ∈ l → p.2.2.length ≤ K) (hl : ids.length ≤ K + 1) : IxB (K + 1) (List.set l i (a, b, ids)) :=
  ⟨by rw [List.length_set]; exact h3, fun p hp => by
    rcases List.mem_or_eq_of_mem_set hp with h | rfl
    · exact Nat.le_succ_of_le (h4 p h)
    · exact hl⟩
theorem ixb_keep {K : Nat} {l : List PostingD} (h3 : l.length ≤ K + 1) (h4 : ∀ p, p ∈ l → p.2.2.length ≤ K) : IxB (K + 1) l := ⟨h3, fun p hp => Nat.le_succ_of_le (h4 p hp)⟩
theorem ixb_nil (K : Nat) : IxB K [] := ⟨Nat.zero_le _, fun p hp => by cases hp⟩
theorem ixb_mono {K K' : Nat} {l : List PostingD} (h : IxB K l) (hk : K ≤ K') : IxB K' l := ⟨Nat.le_trans h.1 hk, fun p hp => Nat.le_trans (h.2 p hp) hk⟩
theorem ixb_insAt {K : Nat} {l : List PostingD} {j : Nat} {a : ByteArray} {b : ValueD} {ids : List Int} (h : IxB K l) (hl : ids.length ≤ K) : (insAt l j (a, b, ids)).length ≤ K + 1 ∧ ∀ p, p ∈ insAt l j (a, b, ids) → p.2.2.length ≤ K := by
  refine ⟨?_, fun p hp => ?_⟩
  · have := h.1
    simp [insAt]; omega
  · simp only [insAt, List.mem_append, List.mem_singleton] at hp
    rcases hp with (hp | rfl) | hp
    · exact h.2 p (List.mem_of_mem_take hp)
    · exact hl
    · exact h.2 p (List.mem_of_mem_drop hp)
theorem ixb_put {K : Nat} {l : List PostingD} {j : Nat} {a : ByteArray} {b : ValueD} {ids : List Int} (h : IxB K l) (hl : ids.length ≤ K + 1) : IxB (K + 1) (List.take j l ++ [(a, b, ids)] ++ List.drop j l) := by
  refine ⟨?_, fun p hp => ?_⟩
  · have := h.1
    simp; omega
  · simp only [List.mem_append, List.mem_singleton] at hp
    rcases hp with (hp | rfl) | hp
    · exact Nat.le_succ_of_le (h.2 p (List.mem_of_mem_take hp))
    · exact hl
    · exact Nat.le_succ_of_le (h.2 p (List.mem_of_mem_drop hp))
theorem insAt_lenU {α : Type} {l : List α} {j : Nat} {y : α} : (insAt l j y).length = l.length + 1 := by simp [insAt]; omega
def JB (K : Nat) (x : List PostingD × Int) : Prop := 0 ≤ x.2 ∧ x.2 < (x.1.length : Int) ∧ x.1.length ≤ K + 1 ∧ ∀ p, p ∈ x.1 → p.2.2.length ≤ K
theorem size_take_succ {α : Type} [GoD α] {l : List α} {k : Nat} {a : α} (h : l[k]? = some a) : GoD.size (List.take (k + 1) l) = GoD.size (List.take k l) + 1 + GoD.size a := by
  have e : List.take (k + 1) l = List.take k l ++ [a] := by rw [List.take_add_one, h]; rfl
  rw [e]
  show (List.take k l ++ [a]).length + ((List.take k l ++ [a]).map GoD.size).sum = (List.take k l).length + ((List.take k l).map GoD.size).sum + 1 + GoD.size a
  simp
  omega
theorem attrs_size (f : FileD) : f.2.2.2.2.length ≤ GoD.size f := by
  have h := size_list_len f.2.2.2.2
  show _ ≤ 0 + (0 + (0 + (0 + GoD.size f.2.2.2.2)))
  omega
theorem files_size (s : StoreD) : GoD.size s.2.1 ≤ GoD.size s := by
  show _ ≤ GoD.size s.1 + (GoD.size s.2.1 + 0)
  omega
theorem size_take_leI {α : Type} [GoD α] (l : List α) (k : Nat) : GoD.size (List.take k l) ≤ GoD.size l := by
  show (List.take k l).length + ((List.take k l).map GoD.size).sum ≤ l.length + (l.map GoD.size).sum
  have h : (l.map GoD.size).sum = ((List.take k l).map GoD.size).sum + ((List.drop k l).map GoD.size).sum := by
    rw [← List.sum_append_nat, ← List.map_append, List.take_append_drop]
  rw [h, List.length_take]
  omega
def attrsN (l : List FileD) : Nat := (l.map fun f => f.2.2.2.2.length).sum
theorem attrsN_succ {l : List FileD} {k : Nat} {a : FileD} (h : l[k]? = some a) : attrsN (List.take (k + 1) l) = attrsN (List.take k l) + a.2.2.2.2.length := by
  have e : List.take (k + 1) l = List.take k l ++ [a] := by rw [List.take_add_one, h]; rfl
  rw [e]
  simp [attrsN]
theorem attrsN_le (l : List FileD) (k : Nat) : attrsN (List.take k l) ≤ attrsN l := by
  have h : attrsN l = attrsN (List.take k l) + attrsN (List.drop k l) := by
    unfold attrsN
    rw [← List.sum_append_nat, ← List.map_append, List.take_append_drop]
  omega
theorem attrsN_size : ∀ l : List FileD, attrsN l ≤ GoD.size l
  | [] => Nat.zero_le _
  | f :: l => by
    have h1 := attrs_size f
    have h2 := attrsN_size l
    have h3 : GoD.size l = l.length + (l.map GoD.size).sum := rfl
    have h4 : GoD.size (f :: l) = (l.length + 1) + (GoD.size f + (l.map GoD.size).sum) := by show (f :: l).length + ((f :: l).map GoD.size).sum = _; simp
    have h5 : attrsN (f :: l) = f.2.2.2.2.length + attrsN l := by simp [attrsN]
    omega
theorem brk_ix {α R : Type} {p : α → Bool} {f : Nat → α → Unit → Rd R Unit Int} {e : Nat → Unit → Int} (hf : ∀ k a s, f k a s = bif p a then .brk ((k : Nat) : Int) else .next ()) (he : ∀ k s, e k s = ((k : Nat) : Int)) :
    ∀ (l : List α) (k : Nat), forL f e l k () = .brk ((k : Int) + (bif decide (ixF p l < 0) then (l.length : Int) else ixF p l))
  | [], k => by simp [forL, he, ixF]
  | a :: l, k => by
    have hb := ixF_bd p l
    simp only [forL, hf]
    cases hp : p a with
    | true => simp [ixF, hp]
    | false =>
      simp only [cond_false]
      rw [brk_ix hf he l (k + 1)]
      congr 1
      simp only [ixF, hp, cond_false]
      by_cases h : ixF p l = -1
      · rw [h]; simp; omega
      · have h0 : ¬ ixF p l < 0 := by omega
        rw [beq_eq_false_iff_ne.2 h, cond_false, decide_eq_false h0, decide_eq_false (by omega : ¬ ixF p l + 1 < 0)]
        simp; omega
end Go.Proofs.Ytiafgmepdgfpbaa
