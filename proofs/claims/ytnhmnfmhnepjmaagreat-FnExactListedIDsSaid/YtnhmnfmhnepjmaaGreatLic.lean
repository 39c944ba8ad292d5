/- What a user is listed: both sides alike; how long it is. -/
import Derived.Test.YtnhmnfmhnepjmaaGreatLib
set_option linter.unusedVariables false
set_option linter.unusedSimpArgs false
namespace Go.Proofs.YtnhmnfmhnepjmaaGreat
open Go.RowKit
theorem listed_loop : ∀ (r : List ResultD) (k : Nat) (a b : List Int), putAll [] a = b → ∃ m, forL implListedIDs_f0 implListedIDs_e0 r k a = .brk m ∧ forL specListedIDs_f0 specListedIDs_e0 r k b = .brk (putAll [] m)
  | [], k, a, b, h => ⟨a, rfl, by rw [h]; rfl⟩
  | x :: r, k, a, b, h => by
    have inner : ∀ (n j : Nat) (s : List Int), j + n = x.2.length → forN (specListedIDs_f1 x) specListedIDs_e1 n j s = .brk (putAll s (x.2.drop j)) := by
      intro n
      induction n with
      | zero => intro j s hj; rw [List.drop_eq_nil_of_le (by omega)]; rfl
      | succ n ih =>
        intro j s hj
        have hg : x.2[j]? = some (nth x.2 j) := nth_get (by omega)
        rw [drop_at hg]
        simp only [forN, specListedIDs_f1, l07Put_eq]
        exact ih (j + 1) _ (by omega)
    obtain ⟨m, h1, h2⟩ := listed_loop r (k + 1) (a ++ x.2) (putAll b x.2) (by rw [putAll_app, h])
    refine ⟨m, h1, ?_⟩
    simp only [forL, specListedIDs_f0]
    rw [inner x.2.length 0 b (by omega)]
    exact h2
theorem listedIDs_eq (s : StoreD) (d : List DirD) (u : Int) : specListedIDs s d u = implListedIDs s d u := by
  unfold specListedIDs implListedIDs
  rw [evalUser_eq]
  obtain ⟨m, h1, h2⟩ := listed_loop ((implEvaluateForUser s d u)).1 0 [] [] rfl
  rw [h1, h2]
  simp only [Out.on]
  exact (once_putI m).symm
theorem listed_grow : ∀ (r : List ResultD) (k : Nat) (a : List Int), (∀ x, x ∈ r → x.2.length ≤ 12) → ∃ m, forL implListedIDs_f0 implListedIDs_e0 r k a = .brk m ∧ m.length ≤ a.length + 12 * r.length
  | [], k, a, _ => ⟨a, rfl, by simp⟩
  | x :: r, k, a, h => by
    obtain ⟨m, h1, h2⟩ := listed_grow r (k + 1) (a ++ x.2) fun y hy => h y (List.mem_cons_of_mem _ hy)
    have h3 := h x (List.mem_cons_self ..)
    refine ⟨m, h1, ?_⟩
    rw [List.length_append] at h2
    rw [List.length_cons]
    omega
theorem listedIDs_size (s : StoreD) (d : List DirD) (u : Int) : GoD.size (implListedIDs s d u) ≤ 60 := by
  rw [ints_size]
  unfold implListedIDs
  obtain ⟨h1, h2⟩ := user_ok s d u
  obtain ⟨m, h3, h4⟩ := listed_grow ((implEvaluateForUser s d u)).1 0 [] h2
  rw [h3]
  simp only [Out.on]
  have h5 := compI_len (sortI m)
  rw [sortI_len] at h5
  simp only [List.length_nil] at h4
  omega
end Go.Proofs.YtnhmnfmhnepjmaaGreat
