/- How long the names of entries are. -/
import Derived.Test.YtceekipigpcilaaDoorFnc
set_option linter.unusedVariables false
set_option linter.unusedSimpArgs false
namespace Go.Proofs.YtceekipigpcilaaDoor
open Go.RowKit
abbrev baseOf (s : StoreD) (x : Int) : ByteArray := implBaseName (((implFindFile s x)).1)
abbrev longOf (s : StoreD) (x : Int) : ByteArray := (baseOf s x ++ (⟨#[46]⟩ : ByteArray)) ++ numeral x
theorem entry_sizes (s : StoreD) : ∀ (l : List Int) (k : Nat) (b t : List ByteArray), (∀ x, x ∈ l → 1 ≤ x ∧ x ≤ 60) → (∀ x, x ∈ t → x.size ≤ GoD.size s + 25) → ∃ r, forL (implEntryNames_f0 s) implEntryNames_e0 l k (b, t) = .brk r ∧ r.length = t.length + l.length ∧ ∀ x, x ∈ r → x.size ≤ GoD.size s + 25
  | [], k, b, t, _, h => ⟨t, rfl, rfl, h⟩
  | a :: l, k, b, t, hi, h => by
    have ha := hi a (List.mem_cons_self ..)
    have hb := base_size s a
    have hn := numeral_le (n := a) (by omega)
    have hl : (longOf s a).size ≤ GoD.size s + 25 := by
      have h1 : ByteArray.size (⟨#[46]⟩ : ByteArray) = 1 := rfl
      show ((baseOf s a ++ (⟨#[46]⟩ : ByteArray)) ++ numeral a).size ≤ _
      rw [ByteArray.size_append, ByteArray.size_append]
      have h2 : (baseOf s a).size ≤ GoD.size s + 4 := hb
      omega
    have hi' : ∀ x, x ∈ l → 1 ≤ x ∧ x ≤ 60 := fun x hx => hi x (List.mem_cons_of_mem _ hx)
    simp only [forL, implEntryNames_f0]
    cases slicesContains_string b (implBaseName (((implFindFile s a)).1)) with
    | true =>
      simp only [cond_true]
      obtain ⟨r, h1, h2, h3⟩ := entry_sizes s l (k + 1) (b ++ [baseOf s a]) (t ++ [longOf s a]) hi' fun x hx => by
        rcases List.mem_append.1 hx with hx | hx
        · exact h x hx
        · obtain rfl := List.mem_singleton.1 hx; exact hl
      refine ⟨r, h1, ?_, h3⟩
      rw [h2, List.length_append, List.length_singleton, List.length_cons]; omega
    | false =>
      simp only [cond_false]
      obtain ⟨r, h1, h2, h3⟩ := entry_sizes s l (k + 1) (b ++ [baseOf s a]) (t ++ [baseOf s a]) hi' fun x hx => by
        rcases List.mem_append.1 hx with hx | hx
        · exact h x hx
        · obtain rfl := List.mem_singleton.1 hx
          have h2 : (baseOf s a).size ≤ GoD.size s + 4 := hb
          omega
      refine ⟨r, h1, ?_, h3⟩
      rw [h2, List.length_append, List.length_singleton, List.length_cons]; omega
theorem entry_ok {s : StoreD} {ids : List Int} (hi : ∀ x, x ∈ ids → 1 ≤ x ∧ x ≤ 60) : (implEntryNames s ids).length = ids.length ∧ ∀ x, x ∈ implEntryNames s ids → x.size ≤ GoD.size s + 25 := by
  unfold implEntryNames
  obtain ⟨r, h1, h2, h3⟩ := entry_sizes s ids 0 [] [] hi fun x hx => by simp at hx
  rw [h1]
  exact ⟨by simpa [Out.on] using h2, h3⟩
/-! ### what a user sees is no larger than the store -/
theorem size_app {α : Type} [GoD α] (l m : List α) : GoD.size (l ++ m) = GoD.size l + GoD.size m := by
  simp only [size_list, List.length_append, List.map_append, List.sum_append]
  omega
theorem size_one {α : Type} [GoD α] (a : α) : GoD.size [a] = 1 + GoD.size a := by simp [size_list]
theorem size_set {α : Type} [GoD α] [Inhabited α] {l : List α} {i : Nat} (y : α) (hy : GoD.size y ≤ GoD.size (nth l i)) : GoD.size (l.set i y) ≤ GoD.size l := by
  by_cases hi : i < l.length
  · have h2 : l = l.take i ++ ([nth l i] ++ l.drop (i + 1)) := by
      have := drop_at (nth_get hi)
      rw [List.singleton_append, ← this, List.take_append_drop]
    have h1 : l.set i y = l.take i ++ ([y] ++ l.drop (i + 1)) := by
      rw [List.set_eq_take_append_cons_drop, if_pos hi]; rfl
    rw [h1]
    conv => rhs; rw [h2]
    rw [size_app, size_app, size_app, size_app, size_one, size_one]
    omega
  · rw [List.set_eq_of_length_le (by omega)]
    exact Nat.le_refl _
theorem dir_name {d : List DirD} {k : Nat} {a : DirD} (h : d[k]? = some a) : a.1.size ≤ GoD.size d := by
  have h1 := size_mem (List.mem_of_getElem? h)
  have h2 : GoD.size a = a.1.size + GoD.size a.2 := rfl
  omega
theorem entryNames_len (s : StoreD) {ids : List Int} (hi : ∀ x, x ∈ ids → 1 ≤ x ∧ x ≤ 60) : (implEntryNames s ids).length = ids.length := (entry_ok hi).1
end Go.Proofs.YtceekipigpcilaaDoor
