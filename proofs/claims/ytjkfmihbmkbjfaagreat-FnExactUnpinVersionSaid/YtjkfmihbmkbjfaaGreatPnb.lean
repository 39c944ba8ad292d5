/- Where a version stands; pins of valid versions; both sides alike. -/
import Derived.Test.YtjkfmihbmkbjfaaGreatPna
set_option linter.unusedVariables false
set_option linter.unusedSimpArgs false
namespace Go.Proofs.YtjkfmihbmkbjfaaGreat
open Go.RowKit
theorem vat_eq (v : List VersionD) (n : Int) : specl28Place v n = implversionAt v n := rfl
theorem vat_go (n : Int) : ∀ (l : List VersionD) (k : Nat), forL (specl28Place_f0 n) specl28Place_e0 l k () = .brk () ∨ ∃ i : Nat, i < l.length ∧ forL (specl28Place_f0 n) specl28Place_e0 l k () = .ret (((k + i : Nat)) : Int)
  | [], _ => .inl rfl
  | a :: l, k => by
    simp only [forL, specl28Place_f0]
    cases (a.1 == n) with
    | true => exact .inr ⟨0, by simp, rfl⟩
    | false =>
      simp only [cond_false]
      rcases vat_go n l (k + 1) with h | ⟨i, hi, h⟩
      · exact .inl h
      · exact .inr ⟨i + 1, by simpa using hi, by rw [h, show k + 1 + i = k + (i + 1) by omega]⟩
theorem vat_ltS (v : List VersionD) (n : Int) : -1 ≤ specl28Place v n ∧ specl28Place v n < (List.length v : Int) := by
  unfold specl28Place
  rcases vat_go n v 0 with h | ⟨i, hi, h⟩
  · rw [h]; simp only [Out.on]; omega
  · rw [h]; simp only [Out.on]; omega
theorem vat_lt (v : List VersionD) (n : Int) : -1 ≤ implversionAt v n ∧ implversionAt v n < (List.length v : Int) := vat_ltS v n
theorem pins_ok {v : List VersionD} (h : implAreValidVersions v = true) {i : Nat} (hi : i < v.length) : 0 ≤ (nth v i).2.2 ∧ (nth v i).2.2 ≤ 99 := by
  unfold implAreValidVersions at h
  have hb : ∀ k a t, implAreValidVersions_f0 v k a () ≠ .brk t := fun k a t => by
    unfold implAreValidVersions_f0
    generalize (_ || _ : Bool) = c
    cases c <;> simp
  cases hf : forL (implAreValidVersions_f0 v) implAreValidVersions_e0 v 0 () with
  | brk t =>
    have := forL_all hb hf i (nth v i) (nth_get hi)
    unfold implAreValidVersions_f0 at this
    cases hw : implwithin (nth v i).2.2 0 99 with
    | true => exact within_iff.1 hw
    | false => rw [hw] at this; simp at this
  | ret r =>
    rw [hf] at h
    obtain rfl : r = true := h
    exfalso
    have key : ∀ (l : List VersionD) k, forL (implAreValidVersions_f0 v) implAreValidVersions_e0 l k () ≠ .ret true := by
      intro l
      induction l with
      | nil => intro k h; simp [forL] at h
      | cons a l ih =>
        intro k h
        simp only [forL] at h
        unfold implAreValidVersions_f0 at h
        split at h
        · rename_i hf; exact ih _ h
        · cases h
        · rename_i r hf; cases h; revert hf; generalize (_ || _ : Bool) = c; cases c <;> simp
    exact key _ _ hf
theorem size_set {α : Type} [GoD α] [Inhabited α] {l : List α} {i : Nat} (y : α) (hy : GoD.size y ≤ GoD.size (nth l i)) : GoD.size (l.set i y) ≤ GoD.size l := by
  by_cases hi : i < l.length
  · have h2 : l = l.take i ++ ([nth l i] ++ l.drop (i + 1)) := by
      have := drop_at (nth_get hi)
      rw [List.singleton_append, ← this, List.take_append_drop]
    have h1 : l.set i y = l.take i ++ ([y] ++ l.drop (i + 1)) := by
      rw [List.set_eq_take_append_cons_drop, if_pos hi]; rfl
    rw [h1]
    conv => rhs; rw [h2]
    rw [size_app, size_app, size_app, size_app, size_one, size_one]
    omega
  · rw [List.set_eq_of_length_le (by omega)]
    exact Nat.le_refl _
end Go.Proofs.YtjkfmihbmkbjfaaGreat
