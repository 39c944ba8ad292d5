/- How long the names of files are. -/
import Derived.Test.YtceekipigpcilaaDoorFnb
set_option linter.unusedVariables false
set_option linter.unusedSimpArgs false
namespace Go.Proofs.YtceekipigpcilaaDoor
open Go.RowKit
theorem attr_size (nm : ByteArray) : ∀ (l : List AttrD) (k : Nat), forL (implGetAttr_f0 nm) implGetAttr_e0 l k () = .brk () ∨ ∃ a, a ∈ l ∧ forL (implGetAttr_f0 nm) implGetAttr_e0 l k () = .ret a.2
  | [], _ => .inl rfl
  | b :: l, k => by
    simp only [forL, implGetAttr_f0]
    cases (b.1.toList == nm.toList) with
    | true => exact .inr ⟨b, List.mem_cons_self .., rfl⟩
    | false =>
      simp only [cond_false]
      rcases attr_size nm l (k + 1) with h | ⟨a, ha, h⟩
      · exact .inl h
      · exact .inr ⟨a, List.mem_cons_of_mem _ ha, h⟩
theorem size_mem {α : Type} [GoD α] {l : List α} {a : α} (h : a ∈ l) : GoD.size a ≤ GoD.size l := by
  obtain ⟨i, hi⟩ := List.getElem?_of_mem h
  exact sz_get hi (Nat.le_refl _)
theorem baseName_size (f : FileD) : (implBaseName f).size ≤ GoD.size f + 4 := by
  unfold implBaseName
  cases h : ((implGetAttr f ⟨#[110]⟩).1 == (2 : Int)) with
  | false => exact Nat.le_add_left 4 (GoD.size f)
  | true =>
    simp only [cond_true]
    unfold implGetAttr
    rcases attr_size ⟨#[110]⟩ f.2.2.2.2 0 with h | ⟨a, ha, h⟩
    · rw [h]; exact Nat.zero_le _
    · rw [h]
      simp only [Out.on]
      have h1 := size_mem ha
      have h2 : GoD.size a = a.1.size + (0 + (0 + a.2.2.2.size)) := rfl
      have h3 : GoD.size f = 0 + (0 + (0 + (0 + GoD.size f.2.2.2.2))) := rfl
      omega
theorem base_size (s : StoreD) (n : Int) : (implBaseName ((implFindFile s n)).1).size ≤ GoD.size s + 4 := by
  have h1 := baseName_size ((implFindFile s n)).1
  have h2 : GoD.size ((implFindFile s n)).1 ≤ GoD.size s := by
    unfold implFindFile
    by_cases h : implfileAt s n ≥ 0
    · rw [decide_eq_true h]
      have hp := fat_lt s n
      have hg := sz_get (nth_get (l := s.2.1) (i := Int.toNat (implfileAt s n)) (by omega)) (Nat.le_refl _)
      exact Nat.le_trans hg (sz_fst (sz_snd (Nat.le_refl _)))
    · rw [decide_eq_false h]; exact Nat.zero_le _
  omega
end Go.Proofs.YtceekipigpcilaaDoor
